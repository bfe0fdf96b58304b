
/- What Mul, Root and Turn of package cyclo return. -/
import Derived.Test.YtomodppdolfinaaDoorCyW2
import Derived.Test.YtomodppdolfinaaDoorEqsP
namespace Go.Proofs.YtomodppdolfinaaDoor
open Go.RowKit Go.Sub

theorem limR_mul (a b c d a' b' c' d' : Int) (h : wiB ⟨a, b, c, d⟩ 268435456 = true) (h' : wiB ⟨a', b', c', d'⟩ 268435456 = true) :
    limR ⟨a * a' - (b * d' + c * c' + d * b') - d * d', a * b' + b * a' - (c * d' + d * c'), a * c' + b * b' + c * a' + (b * d' + c * c' + d * b'), a * d' + b * c' + c * b' + d * a' + (c * d' + d * c')⟩ = mulR ⟨a, b, c, d⟩ ⟨a', b', c', d'⟩ := by
  have e : (Cy.mk (a * a' - (b * d' + c * c' + d * b') - d * d') (a * b' + b * a' - (c * d' + d * c')) (a * c' + b * b' + c * a' + (b * d' + c * c' + d * b')) (a * d' + b * c' + c * b' + d * a' + (c * d' + d * c'))) = Cy.mul ⟨a, b, c, d⟩ ⟨a', b', c', d'⟩ := by
    simp only [Cy.mul]
  rw [e]
  have hi := (mul_in (prods_of (wiB_in h) (wiB_in h'))).mono (show 6 * (268435456 * 268435456) ≤ (576460752303423488 : Int) by decide)
  simp [limR, mulR, h, h', wiB_of hi]

set_option maxHeartbeats 4000000 in
theorem mul_full (a b c d a' b' c' d' : Int) (w : World) (h : wiB ⟨a, b, c, d⟩ 268435456 = true) (h' : wiB ⟨a', b', c', d'⟩ 268435456 = true)
    (hz : Cy.eqB ⟨a, b, c, d⟩ ⟨0, 0, 0, 0⟩ = false) (hz' : Cy.eqB ⟨a', b', c', d'⟩ ⟨0, 0, 0, 0⟩ = false) :
    Calls Tryd.prog 25 #[.agg #[.int .i64 a, .int .i64 b, .int .i64 c, .int .i64 d], .agg #[.int .i64 a', .int .i64 b', .int .i64 c', .int .i64 d']] w fun e w' => e = .returned (.tuple #[.agg #[.int .i64 (limR ⟨a * a' - (b * d' + c * c' + d * b') - d * d', a * b' + b * a' - (c * d' + d * c'), a * c' + b * b' + c * a' + (b * d' + c * c' + d * b'), a * d' + b * c' + c * b' + d * a' + (c * d' + d * c')⟩).v.a, .int .i64 (limR ⟨a * a' - (b * d' + c * c' + d * b') - d * d', a * b' + b * a' - (c * d' + d * c'), a * c' + b * b' + c * a' + (b * d' + c * c' + d * b'), a * d' + b * c' + c * b' + d * a' + (c * d' + d * c')⟩).v.b, .int .i64 (limR ⟨a * a' - (b * d' + c * c' + d * b') - d * d', a * b' + b * a' - (c * d' + d * c'), a * c' + b * b' + c * a' + (b * d' + c * c' + d * b'), a * d' + b * c' + c * b' + d * a' + (c * d' + d * c')⟩).v.c, .int .i64 (limR ⟨a * a' - (b * d' + c * c' + d * b') - d * d', a * b' + b * a' - (c * d' + d * c'), a * c' + b * b' + c * a' + (b * d' + c * c' + d * b'), a * d' + b * c' + c * b' + d * a' + (c * d' + d * c')⟩).v.d], .int .i64 (limR ⟨a * a' - (b * d' + c * c' + d * b') - d * d', a * b' + b * a' - (c * d' + d * c'), a * c' + b * b' + c * a' + (b * d' + c * c' + d * b'), a * d' + b * c' + c * b' + d * a' + (c * d' + d * c')⟩).e]) ∧ Q w w' := by
  obtain ⟨l1, l2, l3, l4, l5, l6, l7, l8⟩ := wiB_in h
  obtain ⟨m1, m2, m3, m4, m5, m6, m7, m8⟩ := wiB_in h'
  dsimp only at l1 l2 l3 l4 l5 l6 l7 l8 m1 m2 m3 m4 m5 m6 m7 m8
  obtain ⟨p0, p1⟩ := bd_mul l1 l2 m1 m2
  obtain ⟨p2, p3⟩ := bd_mul l1 l2 m3 m4
  obtain ⟨p4, p5⟩ := bd_mul l1 l2 m5 m6
  obtain ⟨p6, p7⟩ := bd_mul l1 l2 m7 m8
  obtain ⟨p8, p9⟩ := bd_mul l3 l4 m1 m2
  obtain ⟨p10, p11⟩ := bd_mul l3 l4 m3 m4
  obtain ⟨p12, p13⟩ := bd_mul l3 l4 m5 m6
  obtain ⟨p14, p15⟩ := bd_mul l3 l4 m7 m8
  obtain ⟨p16, p17⟩ := bd_mul l5 l6 m1 m2
  obtain ⟨p18, p19⟩ := bd_mul l5 l6 m3 m4
  obtain ⟨p20, p21⟩ := bd_mul l5 l6 m5 m6
  obtain ⟨p22, p23⟩ := bd_mul l5 l6 m7 m8
  obtain ⟨p24, p25⟩ := bd_mul l7 l8 m1 m2
  obtain ⟨p26, p27⟩ := bd_mul l7 l8 m3 m4
  obtain ⟨p28, p29⟩ := bd_mul l7 l8 m5 m6
  obtain ⟨p30, p31⟩ := bd_mul l7 l8 m7 m8
  simp only [Int.reduceMul, Int.reduceNeg] at p0 p1 p2 p3 p4 p5 p6 p7 p8 p9 p10 p11 p12 p13 p14 p15 p16 p17 p18 p19 p20 p21 p22 p23 p24 p25 p26 p27 p28 p29 p30 p31
  go_enter Tryd.func25, Tryd.ntmps25
  go_wp2_with (go_at_call 28; refine (within_any _ _ _ _ _ _ (by omega) (by omega)).mono ?_; rintro e w' ⟨rfl, kj, rfl⟩)
  refine wp_loop_rounds 5 ?_
  rw [rounds_succ]; go_wp2
  go_rounds 5
  go_rounds 5
  go_rounds 5
  refine wp_loop_rounds 5 ?_
  repeat any_goals (rw [rounds_succ]; go_wp2_with (go_at_call 29; refine (limited_any _ _ _ _ _).mono ?_; rintro e w' ⟨rfl, kj, rfl⟩))
  refine bodyPost_ret (v := .tuple #[.agg #[.int .i64 (limR ⟨a * a' - (b * d' + c * c' + d * b') - d * d', a * b' + b * a' - (c * d' + d * c'), a * c' + b * b' + c * a' + (b * d' + c * c' + d * b'), a * d' + b * c' + c * b' + d * a' + (c * d' + d * c')⟩).v.a, .int .i64 (limR ⟨a * a' - (b * d' + c * c' + d * b') - d * d', a * b' + b * a' - (c * d' + d * c'), a * c' + b * b' + c * a' + (b * d' + c * c' + d * b'), a * d' + b * c' + c * b' + d * a' + (c * d' + d * c')⟩).v.b, .int .i64 (limR ⟨a * a' - (b * d' + c * c' + d * b') - d * d', a * b' + b * a' - (c * d' + d * c'), a * c' + b * b' + c * a' + (b * d' + c * c' + d * b'), a * d' + b * c' + c * b' + d * a' + (c * d' + d * c')⟩).v.c, .int .i64 (limR ⟨a * a' - (b * d' + c * c' + d * b') - d * d', a * b' + b * a' - (c * d' + d * c'), a * c' + b * b' + c * a' + (b * d' + c * c' + d * b'), a * d' + b * c' + c * b' + d * a' + (c * d' + d * c')⟩).v.d], .int .i64 (limR ⟨a * a' - (b * d' + c * c' + d * b') - d * d', a * b' + b * a' - (c * d' + d * c'), a * c' + b * b' + c * a' + (b * d' + c * c' + d * b'), a * d' + b * c' + c * b' + d * a' + (c * d' + d * c')⟩).e]) (by simp [results, Tryd.results25, go_sem]) rfl ⟨rfl, ?_⟩
  repeat' (first | exact Q.refl _ | refine Q.alloc ?_ _ | refine Q.jk ?_ _ | refine Q.drew ?_)


theorem mul_any (a b c d a' b' c' d' : Int) (w : World) :
    Calls Tryd.prog 25 #[.agg #[.int .i64 a, .int .i64 b, .int .i64 c, .int .i64 d], .agg #[.int .i64 a', .int .i64 b', .int .i64 c', .int .i64 d']] w fun e w' => e = .returned (.tuple #[.agg #[.int .i64 (mulR ⟨a, b, c, d⟩ ⟨a', b', c', d'⟩).v.a, .int .i64 (mulR ⟨a, b, c, d⟩ ⟨a', b', c', d'⟩).v.b, .int .i64 (mulR ⟨a, b, c, d⟩ ⟨a', b', c', d'⟩).v.c, .int .i64 (mulR ⟨a, b, c, d⟩ ⟨a', b', c', d'⟩).v.d], .int .i64 (mulR ⟨a, b, c, d⟩ ⟨a', b', c', d'⟩).e]) ∧ Q w w' := by
  by_cases h : wiB ⟨a, b, c, d⟩ 268435456 = true
  · by_cases h' : wiB ⟨a', b', c', d'⟩ 268435456 = true
    · by_cases hz : Cy.eqB ⟨a, b, c, d⟩ ⟨0, 0, 0, 0⟩ = true
      · have e0 : mulR ⟨a, b, c, d⟩ ⟨a', b', c', d'⟩ = ⟨zeroC, 0⟩ := by
          rw [(Cy.eqB_iff _ _).1 hz] at h ⊢
          simp [mulR, h, h', Cy.mul, zeroC]
        rw [e0]
        clear e0
        go_enter Tryd.func25, Tryd.ntmps25
        go_wp2_with (go_at_call 28; refine (within_any _ _ _ _ _ _ (by omega) (by omega)).mono ?_; rintro e w' ⟨rfl, kj, rfl⟩)
        refine bodyPost_ret (v := .tuple #[.agg #[.int .i64 (R4.mk zeroC 0).v.a, .int .i64 (R4.mk zeroC 0).v.b, .int .i64 (R4.mk zeroC 0).v.c, .int .i64 (R4.mk zeroC 0).v.d], .int .i64 (R4.mk zeroC 0).e]) (by simp [results, Tryd.results25, go_sem, zeroC]) rfl ⟨rfl, ?_⟩
        repeat' (first | exact Q.refl _ | refine Q.alloc ?_ _ | refine Q.jk ?_ _ | refine Q.drew ?_)
      · have hz : Cy.eqB ⟨a, b, c, d⟩ ⟨0, 0, 0, 0⟩ = false := by simpa using hz
        by_cases hz' : Cy.eqB ⟨a', b', c', d'⟩ ⟨0, 0, 0, 0⟩ = true
        · have e0 : mulR ⟨a, b, c, d⟩ ⟨a', b', c', d'⟩ = ⟨zeroC, 0⟩ := by
            rw [(Cy.eqB_iff _ _).1 hz'] at h' ⊢
            simp [mulR, h, h', Cy.mul, zeroC]
          rw [e0]
          clear e0
          go_enter Tryd.func25, Tryd.ntmps25
          go_wp2_with (go_at_call 28; refine (within_any _ _ _ _ _ _ (by omega) (by omega)).mono ?_; rintro e w' ⟨rfl, kj, rfl⟩)
          refine bodyPost_ret (v := .tuple #[.agg #[.int .i64 (R4.mk zeroC 0).v.a, .int .i64 (R4.mk zeroC 0).v.b, .int .i64 (R4.mk zeroC 0).v.c, .int .i64 (R4.mk zeroC 0).v.d], .int .i64 (R4.mk zeroC 0).e]) (by simp [results, Tryd.results25, go_sem, zeroC]) rfl ⟨rfl, ?_⟩
          repeat' (first | exact Q.refl _ | refine Q.alloc ?_ _ | refine Q.jk ?_ _ | refine Q.drew ?_)
        · have hz' : Cy.eqB ⟨a', b', c', d'⟩ ⟨0, 0, 0, 0⟩ = false := by simpa using hz'
          rw [← limR_mul a b c d a' b' c' d' h h']
          exact mul_full a b c d a' b' c' d' w h h' hz hz'
    · have h' : wiB ⟨a', b', c', d'⟩ 268435456 = false := by simpa using h'
      go_enter Tryd.func25, Tryd.ntmps25
      go_wp2_with (go_at_call 28; refine (within_any _ _ _ _ _ _ (by omega) (by omega)).mono ?_; rintro e w' ⟨rfl, kj, rfl⟩)
      refine bodyPost_ret (v := .tuple #[.agg #[.int .i64 (R4.mk zeroC 1).v.a, .int .i64 (R4.mk zeroC 1).v.b, .int .i64 (R4.mk zeroC 1).v.c, .int .i64 (R4.mk zeroC 1).v.d], .int .i64 (R4.mk zeroC 1).e]) (by simp [results, Tryd.results25, go_sem, zeroC]) rfl ⟨by simp [mulR, h, h'], ?_⟩
      repeat' (first | exact Q.refl _ | refine Q.alloc ?_ _ | refine Q.jk ?_ _ | refine Q.drew ?_)
  · have h : wiB ⟨a, b, c, d⟩ 268435456 = false := by simpa using h
    go_enter Tryd.func25, Tryd.ntmps25
    go_wp2_with (go_at_call 28; refine (within_any _ _ _ _ _ _ (by omega) (by omega)).mono ?_; rintro e w' ⟨rfl, kj, rfl⟩)
    refine bodyPost_ret (v := .tuple #[.agg #[.int .i64 (R4.mk zeroC 1).v.a, .int .i64 (R4.mk zeroC 1).v.b, .int .i64 (R4.mk zeroC 1).v.c, .int .i64 (R4.mk zeroC 1).v.d], .int .i64 (R4.mk zeroC 1).e]) (by simp [results, Tryd.results25, go_sem, zeroC]) rfl ⟨by simp [mulR, h], ?_⟩
    repeat' (first | exact Q.refl _ | refine Q.alloc ?_ _ | refine Q.jk ?_ _ | refine Q.drew ?_)

theorem turn_close (a b c d k t1 t2 t3 t4 : Int) (h : wiB ⟨a, b, c, d⟩ 576460752303423488 = true) (e1 : t1 = (Cy.turn ⟨a, b, c, d⟩ k).a) (e2 : t2 = (Cy.turn ⟨a, b, c, d⟩ k).b) (e3 : t3 = (Cy.turn ⟨a, b, c, d⟩ k).c) (e4 : t4 = (Cy.turn ⟨a, b, c, d⟩ k).d) :
    limR ⟨t1, t2, t3, t4⟩ = turnR ⟨a, b, c, d⟩ k := by
  have e : Cy.mk t1 t2 t3 t4 = Cy.turn ⟨a, b, c, d⟩ k := Cy.ext' e1 e2 e3 e4
  simp [turnR, h, e]

/-- The table of package cyclo lies in its place. -/
def rootTab : List Int := [1, 0, 0, 0, 0, 1, 0, 0, 0, 0, 1, 0, 0, 0, 0, 1, -1, 0, 1, 0, 0, -1, 0, 1]
def RootsOK (w : World) : Prop := 0 < w.heap.size ∧ ∀ i, i < 24 → w.cell? ⟨0, i, none⟩ = some (.int .i64 (rootTab.getD i 0))
theorem RootsOK.alloc {w : World} (h : RootsOK w) (o : Obj) : RootsOK (w.alloc o) :=
  ⟨Nat.lt_of_lt_of_le h.1 (by simp), fun i hi => by rw [World.cell?_alloc_past o _ i h.1]; exact h.2 i hi⟩
theorem RootsOK.jk {w : World} (h : RootsOK w) (k : Jk) : RootsOK (w.jk k) :=
  ⟨Nat.lt_of_lt_of_le h.1 (by rw [World.size_jk]; omega), fun i hi => by rw [World.cell?_jk_lt k _ i h.1]; exact h.2 i hi⟩
theorem RootsOK.drew {w : World} (h : RootsOK w) : RootsOK w.drew := h
theorem RootsOK.q {w w' : World} (h : RootsOK w) (hq : Q w w') : RootsOK w' := by
  obtain ⟨k, rfl⟩ := hq
  exact h.jk k

set_option maxHeartbeats 400000 in
theorem root_0 (k : Int) (w : World) (hr : RootsOK w) (hk : k % 12 = 0) :
    Calls Tryd.prog 10 #[.int .i64 k] w fun e w' => e = .returned (.agg #[.int .i64 (1), .int .i64 (0), .int .i64 (0), .int .i64 (0)]) ∧ Q w w' := by
  have t0 := hr.2 0 (by omega)
  have t1 := hr.2 1 (by omega)
  have t2 := hr.2 2 (by omega)
  have t3 := hr.2 3 (by omega)
  simp only [rootTab, List.getD_cons_zero, List.getD_cons_succ] at t0 t1 t2 t3
  haveI : Old 0 w := ⟨hr.1⟩
  clear hr
  go_enter Tryd.func10, Tryd.ntmps10
  go_wp2_with (first | (go_at_call 26; refine (dozen_any _ _).mono ?_; rintro e w' ⟨rfl, rfl⟩) | (go_at_call 27; refine (minus_any _ _ _ _ _ (by omega) (by omega) (by omega) (by omega) (by omega) (by omega) (by omega) (by omega)).mono ?_; rintro e w' ⟨rfl, kj, rfl⟩))
  refine bodyPost_ret (v := .agg #[.int .i64 (1), .int .i64 (0), .int .i64 (0), .int .i64 (0)]) (by simp [results, Tryd.results10, go_sem]) rfl ⟨rfl, ?_⟩
  repeat' (first | exact Q.refl _ | refine Q.alloc ?_ _ | refine Q.jk ?_ _ | refine Q.drew ?_)

set_option maxHeartbeats 400000 in
theorem root_1 (k : Int) (w : World) (hr : RootsOK w) (hk : k % 12 = 1) :
    Calls Tryd.prog 10 #[.int .i64 k] w fun e w' => e = .returned (.agg #[.int .i64 (0), .int .i64 (1), .int .i64 (0), .int .i64 (0)]) ∧ Q w w' := by
  have t0 := hr.2 4 (by omega)
  have t1 := hr.2 5 (by omega)
  have t2 := hr.2 6 (by omega)
  have t3 := hr.2 7 (by omega)
  simp only [rootTab, List.getD_cons_zero, List.getD_cons_succ] at t0 t1 t2 t3
  haveI : Old 0 w := ⟨hr.1⟩
  clear hr
  go_enter Tryd.func10, Tryd.ntmps10
  go_wp2_with (first | (go_at_call 26; refine (dozen_any _ _).mono ?_; rintro e w' ⟨rfl, rfl⟩) | (go_at_call 27; refine (minus_any _ _ _ _ _ (by omega) (by omega) (by omega) (by omega) (by omega) (by omega) (by omega) (by omega)).mono ?_; rintro e w' ⟨rfl, kj, rfl⟩))
  refine bodyPost_ret (v := .agg #[.int .i64 (0), .int .i64 (1), .int .i64 (0), .int .i64 (0)]) (by simp [results, Tryd.results10, go_sem]) rfl ⟨rfl, ?_⟩
  repeat' (first | exact Q.refl _ | refine Q.alloc ?_ _ | refine Q.jk ?_ _ | refine Q.drew ?_)

set_option maxHeartbeats 400000 in
theorem root_2 (k : Int) (w : World) (hr : RootsOK w) (hk : k % 12 = 2) :
    Calls Tryd.prog 10 #[.int .i64 k] w fun e w' => e = .returned (.agg #[.int .i64 (0), .int .i64 (0), .int .i64 (1), .int .i64 (0)]) ∧ Q w w' := by
  have t0 := hr.2 8 (by omega)
  have t1 := hr.2 9 (by omega)
  have t2 := hr.2 10 (by omega)
  have t3 := hr.2 11 (by omega)
  simp only [rootTab, List.getD_cons_zero, List.getD_cons_succ] at t0 t1 t2 t3
  haveI : Old 0 w := ⟨hr.1⟩
  clear hr
  go_enter Tryd.func10, Tryd.ntmps10
  go_wp2_with (first | (go_at_call 26; refine (dozen_any _ _).mono ?_; rintro e w' ⟨rfl, rfl⟩) | (go_at_call 27; refine (minus_any _ _ _ _ _ (by omega) (by omega) (by omega) (by omega) (by omega) (by omega) (by omega) (by omega)).mono ?_; rintro e w' ⟨rfl, kj, rfl⟩))
  refine bodyPost_ret (v := .agg #[.int .i64 (0), .int .i64 (0), .int .i64 (1), .int .i64 (0)]) (by simp [results, Tryd.results10, go_sem]) rfl ⟨rfl, ?_⟩
  repeat' (first | exact Q.refl _ | refine Q.alloc ?_ _ | refine Q.jk ?_ _ | refine Q.drew ?_)

set_option maxHeartbeats 400000 in
theorem root_3 (k : Int) (w : World) (hr : RootsOK w) (hk : k % 12 = 3) :
    Calls Tryd.prog 10 #[.int .i64 k] w fun e w' => e = .returned (.agg #[.int .i64 (0), .int .i64 (0), .int .i64 (0), .int .i64 (1)]) ∧ Q w w' := by
  have t0 := hr.2 12 (by omega)
  have t1 := hr.2 13 (by omega)
  have t2 := hr.2 14 (by omega)
  have t3 := hr.2 15 (by omega)
  simp only [rootTab, List.getD_cons_zero, List.getD_cons_succ] at t0 t1 t2 t3
  haveI : Old 0 w := ⟨hr.1⟩
  clear hr
  go_enter Tryd.func10, Tryd.ntmps10
  go_wp2_with (first | (go_at_call 26; refine (dozen_any _ _).mono ?_; rintro e w' ⟨rfl, rfl⟩) | (go_at_call 27; refine (minus_any _ _ _ _ _ (by omega) (by omega) (by omega) (by omega) (by omega) (by omega) (by omega) (by omega)).mono ?_; rintro e w' ⟨rfl, kj, rfl⟩))
  refine bodyPost_ret (v := .agg #[.int .i64 (0), .int .i64 (0), .int .i64 (0), .int .i64 (1)]) (by simp [results, Tryd.results10, go_sem]) rfl ⟨rfl, ?_⟩
  repeat' (first | exact Q.refl _ | refine Q.alloc ?_ _ | refine Q.jk ?_ _ | refine Q.drew ?_)

set_option maxHeartbeats 400000 in
theorem root_4 (k : Int) (w : World) (hr : RootsOK w) (hk : k % 12 = 4) :
    Calls Tryd.prog 10 #[.int .i64 k] w fun e w' => e = .returned (.agg #[.int .i64 (-1), .int .i64 (0), .int .i64 (1), .int .i64 (0)]) ∧ Q w w' := by
  have t0 := hr.2 16 (by omega)
  have t1 := hr.2 17 (by omega)
  have t2 := hr.2 18 (by omega)
  have t3 := hr.2 19 (by omega)
  simp only [rootTab, List.getD_cons_zero, List.getD_cons_succ] at t0 t1 t2 t3
  haveI : Old 0 w := ⟨hr.1⟩
  clear hr
  go_enter Tryd.func10, Tryd.ntmps10
  go_wp2_with (first | (go_at_call 26; refine (dozen_any _ _).mono ?_; rintro e w' ⟨rfl, rfl⟩) | (go_at_call 27; refine (minus_any _ _ _ _ _ (by omega) (by omega) (by omega) (by omega) (by omega) (by omega) (by omega) (by omega)).mono ?_; rintro e w' ⟨rfl, kj, rfl⟩))
  refine bodyPost_ret (v := .agg #[.int .i64 (-1), .int .i64 (0), .int .i64 (1), .int .i64 (0)]) (by simp [results, Tryd.results10, go_sem]) rfl ⟨rfl, ?_⟩
  repeat' (first | exact Q.refl _ | refine Q.alloc ?_ _ | refine Q.jk ?_ _ | refine Q.drew ?_)

set_option maxHeartbeats 400000 in
theorem root_5 (k : Int) (w : World) (hr : RootsOK w) (hk : k % 12 = 5) :
    Calls Tryd.prog 10 #[.int .i64 k] w fun e w' => e = .returned (.agg #[.int .i64 (0), .int .i64 (-1), .int .i64 (0), .int .i64 (1)]) ∧ Q w w' := by
  have t0 := hr.2 20 (by omega)
  have t1 := hr.2 21 (by omega)
  have t2 := hr.2 22 (by omega)
  have t3 := hr.2 23 (by omega)
  simp only [rootTab, List.getD_cons_zero, List.getD_cons_succ] at t0 t1 t2 t3
  haveI : Old 0 w := ⟨hr.1⟩
  clear hr
  go_enter Tryd.func10, Tryd.ntmps10
  go_wp2_with (first | (go_at_call 26; refine (dozen_any _ _).mono ?_; rintro e w' ⟨rfl, rfl⟩) | (go_at_call 27; refine (minus_any _ _ _ _ _ (by omega) (by omega) (by omega) (by omega) (by omega) (by omega) (by omega) (by omega)).mono ?_; rintro e w' ⟨rfl, kj, rfl⟩))
  refine bodyPost_ret (v := .agg #[.int .i64 (0), .int .i64 (-1), .int .i64 (0), .int .i64 (1)]) (by simp [results, Tryd.results10, go_sem]) rfl ⟨rfl, ?_⟩
  repeat' (first | exact Q.refl _ | refine Q.alloc ?_ _ | refine Q.jk ?_ _ | refine Q.drew ?_)

set_option maxHeartbeats 400000 in
theorem root_6 (k : Int) (w : World) (hr : RootsOK w) (hk : k % 12 = 6) :
    Calls Tryd.prog 10 #[.int .i64 k] w fun e w' => e = .returned (.agg #[.int .i64 (-1), .int .i64 (0), .int .i64 (0), .int .i64 (0)]) ∧ Q w w' := by
  have t0 := hr.2 0 (by omega)
  have t1 := hr.2 1 (by omega)
  have t2 := hr.2 2 (by omega)
  have t3 := hr.2 3 (by omega)
  simp only [rootTab, List.getD_cons_zero, List.getD_cons_succ] at t0 t1 t2 t3
  haveI : Old 0 w := ⟨hr.1⟩
  clear hr
  go_enter Tryd.func10, Tryd.ntmps10
  go_wp2_with (first | (go_at_call 26; refine (dozen_any _ _).mono ?_; rintro e w' ⟨rfl, rfl⟩) | (go_at_call 27; refine (minus_any _ _ _ _ _ (by omega) (by omega) (by omega) (by omega) (by omega) (by omega) (by omega) (by omega)).mono ?_; rintro e w' ⟨rfl, kj, rfl⟩))
  refine bodyPost_ret (v := .agg #[.int .i64 (-1), .int .i64 (0), .int .i64 (0), .int .i64 (0)]) (by simp [results, Tryd.results10, go_sem]) rfl ⟨rfl, ?_⟩
  repeat' (first | exact Q.refl _ | refine Q.alloc ?_ _ | refine Q.jk ?_ _ | refine Q.drew ?_)

set_option maxHeartbeats 400000 in
theorem root_7 (k : Int) (w : World) (hr : RootsOK w) (hk : k % 12 = 7) :
    Calls Tryd.prog 10 #[.int .i64 k] w fun e w' => e = .returned (.agg #[.int .i64 (0), .int .i64 (-1), .int .i64 (0), .int .i64 (0)]) ∧ Q w w' := by
  have t0 := hr.2 4 (by omega)
  have t1 := hr.2 5 (by omega)
  have t2 := hr.2 6 (by omega)
  have t3 := hr.2 7 (by omega)
  simp only [rootTab, List.getD_cons_zero, List.getD_cons_succ] at t0 t1 t2 t3
  haveI : Old 0 w := ⟨hr.1⟩
  clear hr
  go_enter Tryd.func10, Tryd.ntmps10
  go_wp2_with (first | (go_at_call 26; refine (dozen_any _ _).mono ?_; rintro e w' ⟨rfl, rfl⟩) | (go_at_call 27; refine (minus_any _ _ _ _ _ (by omega) (by omega) (by omega) (by omega) (by omega) (by omega) (by omega) (by omega)).mono ?_; rintro e w' ⟨rfl, kj, rfl⟩))
  refine bodyPost_ret (v := .agg #[.int .i64 (0), .int .i64 (-1), .int .i64 (0), .int .i64 (0)]) (by simp [results, Tryd.results10, go_sem]) rfl ⟨rfl, ?_⟩
  repeat' (first | exact Q.refl _ | refine Q.alloc ?_ _ | refine Q.jk ?_ _ | refine Q.drew ?_)

set_option maxHeartbeats 400000 in
theorem root_8 (k : Int) (w : World) (hr : RootsOK w) (hk : k % 12 = 8) :
    Calls Tryd.prog 10 #[.int .i64 k] w fun e w' => e = .returned (.agg #[.int .i64 (0), .int .i64 (0), .int .i64 (-1), .int .i64 (0)]) ∧ Q w w' := by
  have t0 := hr.2 8 (by omega)
  have t1 := hr.2 9 (by omega)
  have t2 := hr.2 10 (by omega)
  have t3 := hr.2 11 (by omega)
  simp only [rootTab, List.getD_cons_zero, List.getD_cons_succ] at t0 t1 t2 t3
  haveI : Old 0 w := ⟨hr.1⟩
  clear hr
  go_enter Tryd.func10, Tryd.ntmps10
  go_wp2_with (first | (go_at_call 26; refine (dozen_any _ _).mono ?_; rintro e w' ⟨rfl, rfl⟩) | (go_at_call 27; refine (minus_any _ _ _ _ _ (by omega) (by omega) (by omega) (by omega) (by omega) (by omega) (by omega) (by omega)).mono ?_; rintro e w' ⟨rfl, kj, rfl⟩))
  refine bodyPost_ret (v := .agg #[.int .i64 (0), .int .i64 (0), .int .i64 (-1), .int .i64 (0)]) (by simp [results, Tryd.results10, go_sem]) rfl ⟨rfl, ?_⟩
  repeat' (first | exact Q.refl _ | refine Q.alloc ?_ _ | refine Q.jk ?_ _ | refine Q.drew ?_)

set_option maxHeartbeats 400000 in
theorem root_9 (k : Int) (w : World) (hr : RootsOK w) (hk : k % 12 = 9) :
    Calls Tryd.prog 10 #[.int .i64 k] w fun e w' => e = .returned (.agg #[.int .i64 (0), .int .i64 (0), .int .i64 (0), .int .i64 (-1)]) ∧ Q w w' := by
  have t0 := hr.2 12 (by omega)
  have t1 := hr.2 13 (by omega)
  have t2 := hr.2 14 (by omega)
  have t3 := hr.2 15 (by omega)
  simp only [rootTab, List.getD_cons_zero, List.getD_cons_succ] at t0 t1 t2 t3
  haveI : Old 0 w := ⟨hr.1⟩
  clear hr
  go_enter Tryd.func10, Tryd.ntmps10
  go_wp2_with (first | (go_at_call 26; refine (dozen_any _ _).mono ?_; rintro e w' ⟨rfl, rfl⟩) | (go_at_call 27; refine (minus_any _ _ _ _ _ (by omega) (by omega) (by omega) (by omega) (by omega) (by omega) (by omega) (by omega)).mono ?_; rintro e w' ⟨rfl, kj, rfl⟩))
  refine bodyPost_ret (v := .agg #[.int .i64 (0), .int .i64 (0), .int .i64 (0), .int .i64 (-1)]) (by simp [results, Tryd.results10, go_sem]) rfl ⟨rfl, ?_⟩
  repeat' (first | exact Q.refl _ | refine Q.alloc ?_ _ | refine Q.jk ?_ _ | refine Q.drew ?_)

set_option maxHeartbeats 400000 in
theorem root_10 (k : Int) (w : World) (hr : RootsOK w) (hk : k % 12 = 10) :
    Calls Tryd.prog 10 #[.int .i64 k] w fun e w' => e = .returned (.agg #[.int .i64 (1), .int .i64 (0), .int .i64 (-1), .int .i64 (0)]) ∧ Q w w' := by
  have t0 := hr.2 16 (by omega)
  have t1 := hr.2 17 (by omega)
  have t2 := hr.2 18 (by omega)
  have t3 := hr.2 19 (by omega)
  simp only [rootTab, List.getD_cons_zero, List.getD_cons_succ] at t0 t1 t2 t3
  haveI : Old 0 w := ⟨hr.1⟩
  clear hr
  go_enter Tryd.func10, Tryd.ntmps10
  go_wp2_with (first | (go_at_call 26; refine (dozen_any _ _).mono ?_; rintro e w' ⟨rfl, rfl⟩) | (go_at_call 27; refine (minus_any _ _ _ _ _ (by omega) (by omega) (by omega) (by omega) (by omega) (by omega) (by omega) (by omega)).mono ?_; rintro e w' ⟨rfl, kj, rfl⟩))
  refine bodyPost_ret (v := .agg #[.int .i64 (1), .int .i64 (0), .int .i64 (-1), .int .i64 (0)]) (by simp [results, Tryd.results10, go_sem]) rfl ⟨rfl, ?_⟩
  repeat' (first | exact Q.refl _ | refine Q.alloc ?_ _ | refine Q.jk ?_ _ | refine Q.drew ?_)

set_option maxHeartbeats 400000 in
theorem root_11 (k : Int) (w : World) (hr : RootsOK w) (hk : k % 12 = 11) :
    Calls Tryd.prog 10 #[.int .i64 k] w fun e w' => e = .returned (.agg #[.int .i64 (0), .int .i64 (1), .int .i64 (0), .int .i64 (-1)]) ∧ Q w w' := by
  have t0 := hr.2 20 (by omega)
  have t1 := hr.2 21 (by omega)
  have t2 := hr.2 22 (by omega)
  have t3 := hr.2 23 (by omega)
  simp only [rootTab, List.getD_cons_zero, List.getD_cons_succ] at t0 t1 t2 t3
  haveI : Old 0 w := ⟨hr.1⟩
  clear hr
  go_enter Tryd.func10, Tryd.ntmps10
  go_wp2_with (first | (go_at_call 26; refine (dozen_any _ _).mono ?_; rintro e w' ⟨rfl, rfl⟩) | (go_at_call 27; refine (minus_any _ _ _ _ _ (by omega) (by omega) (by omega) (by omega) (by omega) (by omega) (by omega) (by omega)).mono ?_; rintro e w' ⟨rfl, kj, rfl⟩))
  refine bodyPost_ret (v := .agg #[.int .i64 (0), .int .i64 (1), .int .i64 (0), .int .i64 (-1)]) (by simp [results, Tryd.results10, go_sem]) rfl ⟨rfl, ?_⟩
  repeat' (first | exact Q.refl _ | refine Q.alloc ?_ _ | refine Q.jk ?_ _ | refine Q.drew ?_)

theorem root_any (k : Int) (w : World) (hr : RootsOK w) :
    Calls Tryd.prog 10 #[.int .i64 k] w fun e w' => e = .returned (.agg #[.int .i64 (rootC k).a, .int .i64 (rootC k).b, .int .i64 (rootC k).c, .int .i64 (rootC k).d]) ∧ Q w w' := by
  rcases dz_cases k with hk | hk | hk | hk | hk | hk | hk | hk | hk | hk | hk | hk
  · rw [show rootC k = (Cy.mk 1 0 0 0).tn 0 by simp [rootC, hk]]; exact root_0 k w hr hk
  · rw [show rootC k = (Cy.mk 1 0 0 0).tn 1 by simp [rootC, hk]]; exact root_1 k w hr hk
  · rw [show rootC k = (Cy.mk 1 0 0 0).tn 2 by simp [rootC, hk]]; exact root_2 k w hr hk
  · rw [show rootC k = (Cy.mk 1 0 0 0).tn 3 by simp [rootC, hk]]; exact root_3 k w hr hk
  · rw [show rootC k = (Cy.mk 1 0 0 0).tn 4 by simp [rootC, hk]]; exact root_4 k w hr hk
  · rw [show rootC k = (Cy.mk 1 0 0 0).tn 5 by simp [rootC, hk]]; exact root_5 k w hr hk
  · rw [show rootC k = (Cy.mk 1 0 0 0).tn 6 by simp [rootC, hk]]; exact root_6 k w hr hk
  · rw [show rootC k = (Cy.mk 1 0 0 0).tn 7 by simp [rootC, hk]]; exact root_7 k w hr hk
  · rw [show rootC k = (Cy.mk 1 0 0 0).tn 8 by simp [rootC, hk]]; exact root_8 k w hr hk
  · rw [show rootC k = (Cy.mk 1 0 0 0).tn 9 by simp [rootC, hk]]; exact root_9 k w hr hk
  · rw [show rootC k = (Cy.mk 1 0 0 0).tn 10 by simp [rootC, hk]]; exact root_10 k w hr hk
  · rw [show rootC k = (Cy.mk 1 0 0 0).tn 11 by simp [rootC, hk]]; exact root_11 k w hr hk

end Go.Proofs.YtomodppdolfinaaDoor
