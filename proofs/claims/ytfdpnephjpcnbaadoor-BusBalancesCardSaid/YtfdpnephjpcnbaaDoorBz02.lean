
/- What Encode of a frame in its ranges returns. -/
import Derived.WalkKit
import Derived.Test.YtfdpnephjpcnbaaDoorRows
import Derived.Test.YtfdpnephjpcnbaaDoorBz01
import Derived.Deep.RegionLaw
import Derived.Laws.MakeOwn
import Derived.IntWalk
set_option linter.unusedSimpArgs false
set_option linter.unusedVariables false
/- The plain arithmetic of the cyclotomic ring: numbers with four coefficients, with the errors of the program. No program in sight. -/
namespace Go.Sub

/-- A number of the ring. -/
structure Cy where
  a : Int
  b : Int
  c : Int
  d : Int
theorem Cy.ext' {x y : Cy} (h1 : x.a = y.a) (h2 : x.b = y.b) (h3 : x.c = y.c) (h4 : x.d = y.d) : x = y := by
  cases x; cases y; simp_all
theorem Cy.eta (x : Cy) : Cy.mk x.a x.b x.c x.d = x := rfl
/-- A number and an error. -/
structure R4 where
  v : Cy
  e : Int
/-- Surds. -/
structure Su where
  a : Int
  b : Int
structure R2 where
  v : Su
  e : Int
def brkB (l n : Int) : Bool := decide (n < -l) || decide (l < n)
def wiB (x : Cy) (l : Int) : Bool := !(brkB l x.a) && !(brkB l x.b) && !(brkB l x.c) && !(brkB l x.d)
def Cy.In (x : Cy) (l : Int) : Prop := -l ≤ x.a ∧ x.a ≤ l ∧ -l ≤ x.b ∧ x.b ≤ l ∧ -l ≤ x.c ∧ x.c ≤ l ∧ -l ≤ x.d ∧ x.d ≤ l
theorem wiB_iff (x : Cy) (l : Int) : wiB x l = true ↔ x.In l := by
  simp only [wiB, brkB, Cy.In, Bool.and_eq_true, Bool.not_eq_true', Bool.or_eq_false_iff, decide_eq_false_iff_not]
  omega
theorem wiB_of {x : Cy} {l : Int} (h : x.In l) : wiB x l = true := (wiB_iff x l).2 h
theorem wiB_in {x : Cy} {l : Int} (h : wiB x l = true) : x.In l := (wiB_iff x l).1 h
theorem Cy.In.mono {x : Cy} {l m : Int} (h : x.In l) (hm : l ≤ m) : x.In m := by unfold Cy.In at *; omega
theorem wiB_mk {a b c d l : Int} (h1 : -l ≤ a) (h2 : a ≤ l) (h3 : -l ≤ b) (h4 : b ≤ l) (h5 : -l ≤ c) (h6 : c ≤ l) (h7 : -l ≤ d) (h8 : d ≤ l) : wiB ⟨a, b, c, d⟩ l = true :=
  wiB_of ⟨h1, h2, h3, h4, h5, h6, h7, h8⟩

def zeroC : Cy := ⟨0, 0, 0, 0⟩
def limR (x : Cy) : R4 := if wiB x 576460752303423488 then ⟨x, 0⟩ else ⟨zeroC, 2⟩
def Cy.add (x y : Cy) : Cy := ⟨x.a + y.a, x.b + y.b, x.c + y.c, x.d + y.d⟩
def Cy.sub (x y : Cy) : Cy := ⟨x.a - y.a, x.b - y.b, x.c - y.c, x.d - y.d⟩
def Cy.neg (x : Cy) : Cy := ⟨-x.a, -x.b, -x.c, -x.d⟩
def Cy.smul (k : Int) (x : Cy) : Cy := ⟨k * x.a, k * x.b, k * x.c, k * x.d⟩
def Cy.mul (x y : Cy) : Cy :=
  ⟨x.a*y.a - (x.b*y.d + x.c*y.c + x.d*y.b) - x.d*y.d, x.a*y.b + x.b*y.a - (x.c*y.d + x.d*y.c),
   x.a*y.c + x.b*y.b + x.c*y.a + (x.b*y.d + x.c*y.c + x.d*y.b), x.a*y.d + x.b*y.c + x.c*y.b + x.d*y.a + (x.c*y.d + x.d*y.c)⟩
def Cy.conj (x : Cy) : Cy := ⟨x.a + x.c, x.b, -x.c, -x.b - x.d⟩
/-- Times z. -/
def Cy.z (x : Cy) : Cy := ⟨-x.d, x.a, x.b + x.d, x.c⟩
/-- Times z^k. -/
def Cy.tn (x : Cy) : Nat → Cy
  | 0 => x
  | 1 => ⟨-x.d, x.a, x.b + x.d, x.c⟩
  | 2 => ⟨-x.c, -x.d, x.a + x.c, x.b + x.d⟩
  | 3 => ⟨-x.b - x.d, -x.c, x.b, x.a + x.c⟩
  | 4 => ⟨-x.a - x.c, -x.b - x.d, x.a, x.b⟩
  | 5 => ⟨-x.b, -x.a - x.c, -x.d, x.a⟩
  | 6 => ⟨-x.a, -x.b, -x.c, -x.d⟩
  | 7 => ⟨x.d, -x.a, -x.b - x.d, -x.c⟩
  | 8 => ⟨x.c, x.d, -x.a - x.c, -x.b - x.d⟩
  | 9 => ⟨x.b + x.d, x.c, -x.b, -x.a - x.c⟩
  | 10 => ⟨x.a + x.c, x.b + x.d, -x.a, -x.b⟩
  | 11 => ⟨x.b, x.a + x.c, x.d, -x.a⟩
  | _ => x
def Cy.turn (x : Cy) (k : Int) : Cy := x.tn (k % 12).toNat
def rootC (k : Int) : Cy := (Cy.mk 1 0 0 0).tn (k % 12).toNat
def addR (x y : Cy) : R4 := if wiB x 576460752303423488 && wiB y 576460752303423488 then limR (x.add y) else ⟨zeroC, 1⟩
def subR (x y : Cy) : R4 := if wiB x 576460752303423488 && wiB y 576460752303423488 then limR (x.sub y) else ⟨zeroC, 1⟩
def mulR (x y : Cy) : R4 := if wiB x 268435456 && wiB y 268435456 then ⟨x.mul y, 0⟩ else ⟨zeroC, 1⟩
def turnR (x : Cy) (k : Int) : R4 := if wiB x 576460752303423488 then limR (x.turn k) else ⟨zeroC, 1⟩
def conjR (x : Cy) : R4 := if wiB x 576460752303423488 then limR x.conj else ⟨zeroC, 1⟩
def Cy.real (x : Cy) : Su := ⟨2 * x.a + x.c, x.b⟩
def Cy.imag (x : Cy) : Su := ⟨x.b + 2 * x.d, x.c⟩
def Cy.norm (x : Cy) : Su := ⟨x.a*x.a + x.b*x.b + x.c*x.c + x.d*x.d + x.a*x.c + x.b*x.d, x.a*x.b + x.b*x.c + x.c*x.d⟩
def realR (x : Cy) : R2 := if wiB x 144115188075855872 then ⟨x.real, 0⟩ else ⟨⟨0, 0⟩, 1⟩
def imagR (x : Cy) : R2 := if wiB x 144115188075855872 then ⟨x.imag, 0⟩ else ⟨⟨0, 0⟩, 1⟩
def normR (x : Cy) : R2 := if wiB x 268435456 then ⟨x.norm, 0⟩ else ⟨⟨0, 0⟩, 1⟩

theorem bd_mul {a b n m : Int} (h : -n ≤ a) (h' : a ≤ n) (k : -m ≤ b) (k' : b ≤ m) : -(n*m) ≤ a*b ∧ a*b ≤ n*m := by
  have hn : 0 ≤ n := by omega
  have hm : 0 ≤ m := by omega
  rcases Int.le_total 0 a with ha | ha
  · rcases Int.le_total 0 b with hb | hb
    · have h1 := Int.mul_le_mul h' k' hb hn
      have h2 := Int.mul_nonneg ha hb
      have h3 := Int.mul_nonneg hn hm
      omega
    · have h1 := Int.mul_le_mul h' (show -b ≤ m by omega) (show 0 ≤ -b by omega) hn
      have h2 := Int.mul_nonneg ha (show 0 ≤ -b by omega)
      rw [Int.mul_neg] at h1 h2
      have h3 := Int.mul_nonneg hn hm
      omega
  · rcases Int.le_total 0 b with hb | hb
    · have h1 := Int.mul_le_mul (show -a ≤ n by omega) k' hb hn
      have h2 := Int.mul_nonneg (show 0 ≤ -a by omega) hb
      rw [Int.neg_mul] at h1 h2
      have h3 := Int.mul_nonneg hn hm
      omega
    · have h1 := Int.mul_le_mul (show -a ≤ n by omega) (show -b ≤ m by omega) (show 0 ≤ -b by omega) hn
      have h2 := Int.mul_nonneg (show 0 ≤ -a by omega) (show 0 ≤ -b by omega)
      rw [Int.neg_mul_neg] at h1 h2
      have h3 := Int.mul_nonneg hn hm
      omega

/-- The sixteen products of two numbers lie in a range. -/
structure Prods (x y : Cy) (B : Int) : Prop where
  aa : -B ≤ x.a * y.a ∧ x.a * y.a ≤ B
  ab : -B ≤ x.a * y.b ∧ x.a * y.b ≤ B
  ac : -B ≤ x.a * y.c ∧ x.a * y.c ≤ B
  ad : -B ≤ x.a * y.d ∧ x.a * y.d ≤ B
  ba : -B ≤ x.b * y.a ∧ x.b * y.a ≤ B
  bb : -B ≤ x.b * y.b ∧ x.b * y.b ≤ B
  bc : -B ≤ x.b * y.c ∧ x.b * y.c ≤ B
  bd : -B ≤ x.b * y.d ∧ x.b * y.d ≤ B
  ca : -B ≤ x.c * y.a ∧ x.c * y.a ≤ B
  cb : -B ≤ x.c * y.b ∧ x.c * y.b ≤ B
  cc : -B ≤ x.c * y.c ∧ x.c * y.c ≤ B
  cd : -B ≤ x.c * y.d ∧ x.c * y.d ≤ B
  da : -B ≤ x.d * y.a ∧ x.d * y.a ≤ B
  db : -B ≤ x.d * y.b ∧ x.d * y.b ≤ B
  dc : -B ≤ x.d * y.c ∧ x.d * y.c ≤ B
  dd : -B ≤ x.d * y.d ∧ x.d * y.d ≤ B
theorem prods_of {x y : Cy} {n m : Int} (hx : x.In n) (hy : y.In m) : Prods x y (n * m) := by
  obtain ⟨h1, h2, h3, h4, h5, h6, h7, h8⟩ := hx
  obtain ⟨k1, k2, k3, k4, k5, k6, k7, k8⟩ := hy
  constructor <;> (apply bd_mul <;> assumption)
theorem mul_in {x y : Cy} {B : Int} (h : Prods x y B) : (x.mul y).In (6 * B) := by
  obtain ⟨h1, h2, h3, h4, h5, h6, h7, h8, h9, h10, h11, h12, h13, h14, h15, h16⟩ := h
  unfold Cy.In Cy.mul
  refine ⟨?_, ?_, ?_, ?_, ?_, ?_, ?_, ?_⟩ <;> dsimp only <;> omega
theorem dz_cases (k : Int) : k % 12 = 0 ∨ k % 12 = 1 ∨ k % 12 = 2 ∨ k % 12 = 3 ∨ k % 12 = 4 ∨ k % 12 = 5 ∨ k % 12 = 6 ∨ k % 12 = 7 ∨ k % 12 = 8 ∨ k % 12 = 9 ∨ k % 12 = 10 ∨ k % 12 = 11 := by omega
end Go.Sub
/- What the functions of package cyclo that the sums and products are built on return: broken, within, limited, dozen, minus. -/
namespace Go.Proofs.YtfdpnephjpcnbaaDoor
open Go.RowKit Go.Sub

set_option maxHeartbeats 400000 in
theorem broken_any (l n : Int) (w : World) (h0 : 0 ≤ l) (h1 : l ≤ 1000000000000000000) :
    Calls Tryd.prog 68 #[.int .i64 l, .int .i64 n] w fun e w' => e = .returned (.bool (brkB l n)) ∧ w = w' := by
  by_cases h : n < -l
  · go_enter Tryd.func68, Tryd.ntmps68
    go_wp2
    go_ret
    simp [brkB, h]
  · by_cases h2 : l < n
    all_goals
      go_enter Tryd.func68, Tryd.ntmps68
      go_wp2
      go_ret
      simp [brkB, h, h2]

set_option maxHeartbeats 400000 in
theorem within_any (a b c d l : Int) (w : World) (h0 : 0 ≤ l) (h1 : l ≤ 1000000000000000000) :
    Calls Tryd.prog 60 #[.agg #[.int .i64 a, .int .i64 b, .int .i64 c, .int .i64 d], .int .i64 l] w fun e w' => e = .returned (.bool (wiB ⟨a, b, c, d⟩ l)) ∧ Q w w' := by
  go_enter Tryd.func60, Tryd.ntmps60
  go_wp2
  refine wp_loop_rounds 5 ?_
  repeat any_goals (rw [rounds_succ]; go_wp2_with (go_at_call 68; refine (broken_any _ _ _ h0 h1).mono ?_; rintro e w' ⟨rfl, rfl⟩))
  all_goals go_ret
  all_goals (refine ⟨?_, (Q.refl _).alloc _⟩; simp [wiB, *]; done)

set_option maxHeartbeats 400000 in
theorem limited_any (a b c d : Int) (w : World) :
    Calls Tryd.prog 67 #[.agg #[.int .i64 a, .int .i64 b, .int .i64 c, .int .i64 d]] w fun e w' => e = .returned (.tuple #[.agg #[.int .i64 (limR ⟨a, b, c, d⟩).v.a, .int .i64 (limR ⟨a, b, c, d⟩).v.b, .int .i64 (limR ⟨a, b, c, d⟩).v.c, .int .i64 (limR ⟨a, b, c, d⟩).v.d], .int .i64 (limR ⟨a, b, c, d⟩).e]) ∧ Q w w' := by
  by_cases h : wiB ⟨a, b, c, d⟩ 576460752303423488 = true
  · go_enter Tryd.func67, Tryd.ntmps67
    go_wp2_with (go_at_call 60; refine (within_any _ _ _ _ _ _ (by omega) (by omega)).mono ?_; rintro e w' ⟨rfl, k, rfl⟩)
    refine bodyPost_ret (v := .tuple #[.agg #[.int .i64 a, .int .i64 b, .int .i64 c, .int .i64 d], .int .i64 0]) (by simp [results, Tryd.results67, go_sem]) rfl ⟨by simp [limR, h], ?_⟩
    repeat' (first | exact Q.refl _ | refine Q.alloc ?_ _ | refine Q.jk ?_ _ | refine Q.drew ?_)
  · have h : wiB ⟨a, b, c, d⟩ 576460752303423488 = false := by simpa using h
    go_enter Tryd.func67, Tryd.ntmps67
    go_wp2_with (go_at_call 60; refine (within_any _ _ _ _ _ _ (by omega) (by omega)).mono ?_; rintro e w' ⟨rfl, k, rfl⟩)
    refine bodyPost_ret (v := .tuple #[.agg #[.int .i64 0, .int .i64 0, .int .i64 0, .int .i64 0], .int .i64 2]) (by simp [results, Tryd.results67, go_sem]) rfl ⟨by simp [limR, h, zeroC], ?_⟩
    repeat' (first | exact Q.refl _ | refine Q.alloc ?_ _ | refine Q.jk ?_ _ | refine Q.drew ?_)

set_option maxHeartbeats 400000 in
theorem dozen_any (k : Int) (w : World) :
    Calls Tryd.prog 70 #[.int .i64 k] w fun e w' => e = .returned (.int .i64 (k % 12)) ∧ w = w' := by
  have e1 : k.tmod 12 = k % 12 ∨ k.tmod 12 = k % 12 - 12 := by
    rcases Int.le_total 0 k with h | h
    · left; exact Int.tmod_eq_emod_of_nonneg h
    · have := Int.tmod_eq_emod (a := k) (b := 12); split at this <;> omega
  have e2 : 0 ≤ k % 12 := by omega
  have e3 : k % 12 < 12 := by omega
  by_cases h : k.tmod 12 < 0
  · have h3 : k.tmod 12 + 12 = k % 12 := by omega
    have h4 : -12 ≤ k.tmod 12 := by omega
    have H3 := Lib.hid h3
    clear e1 e2 e3 h3
    go_enter Tryd.func70, Tryd.ntmps70
    go_wp2
    go_ret
    exact ⟨by rw [← H3.out]; rfl, rfl⟩
  · have h3 : k.tmod 12 = k % 12 := by omega
    have H3 := Lib.hid h3
    clear e1 e2 e3 h3
    go_enter Tryd.func70, Tryd.ntmps70
    go_wp2
    go_ret
    exact ⟨by rw [← H3.out]; rfl, rfl⟩

set_option maxHeartbeats 400000 in
theorem minus_any (a b c d : Int) (w : World) (h1 : -9223372036854775807 ≤ a) (h2 : a ≤ 9223372036854775807) (h3 : -9223372036854775807 ≤ b) (h4 : b ≤ 9223372036854775807)
    (h5 : -9223372036854775807 ≤ c) (h6 : c ≤ 9223372036854775807) (h7 : -9223372036854775807 ≤ d) (h8 : d ≤ 9223372036854775807) :
    Calls Tryd.prog 71 #[.agg #[.int .i64 a, .int .i64 b, .int .i64 c, .int .i64 d]] w fun e w' => e = .returned (.agg #[.int .i64 (-a), .int .i64 (-b), .int .i64 (-c), .int .i64 (-d)]) ∧ Q w w' := by
  go_enter Tryd.func71, Tryd.ntmps71
  go_wp2
  go_rounds 5
  refine bodyPost_ret (v := .agg #[.int .i64 (-a), .int .i64 (-b), .int .i64 (-c), .int .i64 (-d)]) (by simp [results, Tryd.results71, go_sem]) rfl ⟨rfl, ?_⟩
  repeat' (first | exact Q.refl _ | refine Q.alloc ?_ _ | refine Q.jk ?_ _ | refine Q.drew ?_)
end Go.Proofs.YtfdpnephjpcnbaaDoor
/- What the small functions return that the laws of the sample streams reach: within, between, Count, Check and has of a ring, take. -/
set_option linter.unusedVariables false
set_option linter.unusedSimpArgs false
namespace Go.Sub
theorem tmod_md (n m : Int) (hm : 0 < m) : (n.tmod m < 0 → n.tmod m + m = n % m) ∧ (0 ≤ n.tmod m → n.tmod m = n % m) ∧ -(m - 1) ≤ n.tmod m ∧ n.tmod m ≤ m - 1 := by
  rcases Int.le_total 0 n with h | h
  · rw [Int.tmod_eq_emod_of_nonneg h]
    have h1 := Int.emod_nonneg n (show m ≠ 0 by omega)
    have h2 := Int.emod_lt_of_pos n hm
    omega
  · have e : n.tmod m = -((-n).tmod m) := by rw [Int.neg_tmod, Int.neg_neg]
    rw [Int.tmod_eq_emod_of_nonneg (show 0 ≤ -n by omega)] at e
    have h1 := Int.emod_nonneg (-n) (show m ≠ 0 by omega)
    have h2 := Int.emod_lt_of_pos (-n) hm
    have h3 := Int.emod_nonneg n (show m ≠ 0 by omega)
    have h4 := Int.emod_lt_of_pos n hm
    have h5 := Int.emod_add_mul_ediv n m
    have h6 := Int.emod_add_mul_ediv (-n) m
    have h7 : m * (n / m + (-n) / m) = -(n % m + (-n) % m) := by rw [Int.mul_add]; omega
    rw [e]
    rcases Int.lt_trichotomy (n / m + (-n) / m) (-1) with h8 | h8 | h8
    · have := Int.mul_le_mul_of_nonneg_left (show n / m + (-n) / m ≤ -2 by omega) (show 0 ≤ m by omega)
      omega
    · rw [h8] at h7
      omega
    · rcases Int.lt_or_le (n / m + (-n) / m) 1 with h9 | h9
      · have : n / m + (-n) / m = 0 := by omega
        rw [this] at h7
        omega
      · have := Int.mul_le_mul_of_nonneg_left h9 (show 0 ≤ m by omega)
        omega
end Go.Sub
namespace Go.Proofs.YtfdpnephjpcnbaaDoor
open Go.RowKit Go.Sub
set_option maxHeartbeats 1000000 in
theorem tpwithin_any (n m : Int) (w : World) (h0 : 0 < m) (h1 : m ≤ 1000000000000000000) :
    Calls Tryd.prog 5 #[Value.int .i64 n, Value.int .i64 m] w fun e w' => e = .returned (Value.int .i64 (n % m)) ∧ w = w' := by
  obtain ⟨k1, k2, hb1, hb2⟩ := tmod_md n m h0
  have K1 := Lib.hid k1
  have K2 := Lib.hid k2
  clear k1 k2
  by_cases hn : n.tmod m < 0
  · go_enter Tryd.func5, Tryd.ntmps5
    go_wp2
    go_ret
    exact ⟨by rw [← K1.out hn]; rfl, rfl⟩
  · go_enter Tryd.func5, Tryd.ntmps5
    go_wp2
    go_ret
    exact ⟨by rw [← K2.out (by omega)]; rfl, rfl⟩
set_option maxHeartbeats 1000000 in
theorem l15within_any (n m : Int) (w : World) (h0 : 0 < m) (h1 : m ≤ 1000000000000000000) :
    Calls Tryd.prog 18 #[Value.int .i64 n, Value.int .i64 m] w fun e w' => e = .returned (Value.int .i64 (n % m)) ∧ w = w' := by
  obtain ⟨k1, k2, hb1, hb2⟩ := tmod_md n m h0
  have K1 := Lib.hid k1
  have K2 := Lib.hid k2
  clear k1 k2
  by_cases hn : n.tmod m < 0
  · go_enter Tryd.func18, Tryd.ntmps18
    go_wp2
    go_ret
    exact ⟨by rw [← K1.out hn]; rfl, rfl⟩
  · go_enter Tryd.func18, Tryd.ntmps18
    go_wp2
    go_ret
    exact ⟨by rw [← K2.out (by omega)]; rfl, rfl⟩
set_option maxHeartbeats 1000000 in
theorem sbetween_any (n l h : Int) (w : World) :
    Calls Tryd.prog 19 #[Value.int .i64 n, Value.int .i64 l, Value.int .i64 h] w fun e w' => e = .returned (Value.bool (decide (l ≤ n) && decide (n ≤ h))) ∧ w = w' := by
  go_enter Tryd.func19, Tryd.ntmps19
  go_wp2
  all_goals go_ret
  all_goals
    refine ⟨?_, rfl⟩
    show Ending.returned (Value.bool _) = _
    refine congrArg (fun x => Ending.returned (Value.bool x)) ?_
    rw [Bool.eq_iff_iff]
    simp [*]
    try omega
theorem sbetween_ok (n l h : Int) (w : World) (h0 : l ≤ n) (h1 : n ≤ h) :
    Calls Tryd.prog 19 #[Value.int .i64 n, Value.int .i64 l, Value.int .i64 h] w fun e w' => e = .returned (Value.bool true) ∧ w = w' := by
  have := sbetween_any n l h w
  rw [decide_eq_true h0, decide_eq_true h1] at this
  exact this
set_option maxHeartbeats 1000000 in
theorem count_c (s k : Int) (w : World) (s0 : 0 ≤ s) (s1 : s ≤ 1099511627776) (k0 : 0 ≤ k) (k1 : k ≤ 11) :
    Calls Tryd.prog 20 #[Value.int .i64 s, Value.int .i64 k] w fun e w' => e = .returned (Value.int .i64 ((12 * s + k) % 600)) ∧ w = w' := by
  go_enter Tryd.func20, Tryd.ntmps20
  go_wp2_with (go_at_call 19; refine (sbetween_ok _ _ _ _ (by omega) (by omega)).mono ?_; rintro e w' ⟨rfl, rfl⟩)
  go_ret
  exact ⟨rfl, rfl⟩
set_option maxHeartbeats 1000000 in
theorem rcheck_c (A : Option Addr) (n c : Nat) (w : World) (h0 : 3 ≤ n) (h1 : n ≤ 40) :
    Calls Tryd.prog 72 #[Value.agg #[Value.slice A n c]] w fun e w' => e = .returned (Value.int .i64 0) ∧ Q w w' := by
  go_enter Tryd.func72, Tryd.ntmps72
  go_wp2
  go_ret
  refine ⟨rfl, ?_⟩
  repeat' (first | exact Q.refl _ | refine Q.alloc ?_ _ | refine Q.jk ?_ _ | refine Q.drew ?_)
set_option maxHeartbeats 1000000 in
theorem has_c (A : Option Addr) (n c : Nat) (k : Int) (w : World) (h0 : 3 ≤ n) (h1 : n ≤ 40) (k0 : 0 ≤ k) (k1 : k < n) :
    Calls Tryd.prog 46 #[Value.agg #[Value.slice A n c], Value.int .i64 k] w fun e w' => e = .returned (Value.bool true) ∧ Q w w' := by
  go_enter Tryd.func46, Tryd.ntmps46
  go_wp2_with (go_at_call 72; refine (rcheck_c A n c _ h0 h1).mono ?_; rintro e w' ⟨rfl, kj, rfl⟩)
  go_ret
  refine ⟨rfl, ?_⟩
  repeat' (first | exact Q.refl _ | refine Q.alloc ?_ _ | refine Q.jk ?_ _ | refine Q.drew ?_)
set_option maxHeartbeats 1000000 in
theorem take_new1 (o : Int) (w : World) :
    Calls Tryd.prog 52 #[Value.agg #[Value.int .i64 o, Value.int .i64 65530, Value.int .u64 1], Value.int .i64 65531] w fun e w' => e = .returned (Value.tuple #[Value.agg #[Value.int .i64 o, Value.int .i64 65531, Value.int .u64 3], Value.bool true]) ∧ Q w w' := by
  have b1 : bits .and .i64 1 65535 = 1 := by kernel_rfl
  have b2 : bits .and .i64 (-1) 65535 = 65535 := by kernel_rfl
  have b3 : bits .or .u64 2 1 = 3 := by kernel_rfl
  go_enter Tryd.func52, Tryd.ntmps52
  go_wp2
  refine bodyPost_ret (v := Value.tuple #[Value.agg #[Value.int .i64 o, Value.int .i64 65531, Value.int .u64 3], Value.bool true]) (by simp [results, Tryd.results52, go_sem]) rfl ⟨rfl, ?_⟩
  repeat' (first | exact Q.refl _ | refine Q.alloc ?_ _ | refine Q.jk ?_ _ | refine Q.drew ?_)
set_option maxHeartbeats 1000000 in
theorem take_new2 (o : Int) (w : World) :
    Calls Tryd.prog 52 #[Value.agg #[Value.int .i64 o, Value.int .i64 65531, Value.int .u64 3], Value.int .i64 65532] w fun e w' => e = .returned (Value.tuple #[Value.agg #[Value.int .i64 o, Value.int .i64 65532, Value.int .u64 7], Value.bool true]) ∧ Q w w' := by
  have b1 : bits .and .i64 1 65535 = 1 := by kernel_rfl
  have b2 : bits .and .i64 (-1) 65535 = 65535 := by kernel_rfl
  have b3 : bits .or .u64 6 1 = 7 := by kernel_rfl
  go_enter Tryd.func52, Tryd.ntmps52
  go_wp2
  refine bodyPost_ret (v := Value.tuple #[Value.agg #[Value.int .i64 o, Value.int .i64 65532, Value.int .u64 7], Value.bool true]) (by simp [results, Tryd.results52, go_sem]) rfl ⟨rfl, ?_⟩
  repeat' (first | exact Q.refl _ | refine Q.alloc ?_ _ | refine Q.jk ?_ _ | refine Q.drew ?_)
set_option maxHeartbeats 1000000 in
theorem take_new3 (o : Int) (w : World) :
    Calls Tryd.prog 52 #[Value.agg #[Value.int .i64 o, Value.int .i64 65532, Value.int .u64 7], Value.int .i64 65533] w fun e w' => e = .returned (Value.tuple #[Value.agg #[Value.int .i64 o, Value.int .i64 65533, Value.int .u64 15], Value.bool true]) ∧ Q w w' := by
  have b1 : bits .and .i64 1 65535 = 1 := by kernel_rfl
  have b2 : bits .and .i64 (-1) 65535 = 65535 := by kernel_rfl
  have b3 : bits .or .u64 14 1 = 15 := by kernel_rfl
  go_enter Tryd.func52, Tryd.ntmps52
  go_wp2
  refine bodyPost_ret (v := Value.tuple #[Value.agg #[Value.int .i64 o, Value.int .i64 65533, Value.int .u64 15], Value.bool true]) (by simp [results, Tryd.results52, go_sem]) rfl ⟨rfl, ?_⟩
  repeat' (first | exact Q.refl _ | refine Q.alloc ?_ _ | refine Q.jk ?_ _ | refine Q.drew ?_)
set_option maxHeartbeats 1000000 in
theorem take_new4 (o : Int) (w : World) :
    Calls Tryd.prog 52 #[Value.agg #[Value.int .i64 o, Value.int .i64 65533, Value.int .u64 15], Value.int .i64 65534] w fun e w' => e = .returned (Value.tuple #[Value.agg #[Value.int .i64 o, Value.int .i64 65534, Value.int .u64 31], Value.bool true]) ∧ Q w w' := by
  have b1 : bits .and .i64 1 65535 = 1 := by kernel_rfl
  have b2 : bits .and .i64 (-1) 65535 = 65535 := by kernel_rfl
  have b3 : bits .or .u64 30 1 = 31 := by kernel_rfl
  go_enter Tryd.func52, Tryd.ntmps52
  go_wp2
  refine bodyPost_ret (v := Value.tuple #[Value.agg #[Value.int .i64 o, Value.int .i64 65534, Value.int .u64 31], Value.bool true]) (by simp [results, Tryd.results52, go_sem]) rfl ⟨rfl, ?_⟩
  repeat' (first | exact Q.refl _ | refine Q.alloc ?_ _ | refine Q.jk ?_ _ | refine Q.drew ?_)
set_option maxHeartbeats 1000000 in
theorem take_new5 (o : Int) (w : World) :
    Calls Tryd.prog 52 #[Value.agg #[Value.int .i64 o, Value.int .i64 65534, Value.int .u64 31], Value.int .i64 65535] w fun e w' => e = .returned (Value.tuple #[Value.agg #[Value.int .i64 o, Value.int .i64 65535, Value.int .u64 63], Value.bool true]) ∧ Q w w' := by
  have b1 : bits .and .i64 1 65535 = 1 := by kernel_rfl
  have b2 : bits .and .i64 (-1) 65535 = 65535 := by kernel_rfl
  have b3 : bits .or .u64 62 1 = 63 := by kernel_rfl
  go_enter Tryd.func52, Tryd.ntmps52
  go_wp2
  refine bodyPost_ret (v := Value.tuple #[Value.agg #[Value.int .i64 o, Value.int .i64 65535, Value.int .u64 63], Value.bool true]) (by simp [results, Tryd.results52, go_sem]) rfl ⟨rfl, ?_⟩
  repeat' (first | exact Q.refl _ | refine Q.alloc ?_ _ | refine Q.jk ?_ _ | refine Q.drew ?_)
set_option maxHeartbeats 1000000 in
theorem take_new6 (o : Int) (w : World) :
    Calls Tryd.prog 52 #[Value.agg #[Value.int .i64 o, Value.int .i64 65535, Value.int .u64 63], Value.int .i64 0] w fun e w' => e = .returned (Value.tuple #[Value.agg #[Value.int .i64 o, Value.int .i64 0, Value.int .u64 127], Value.bool true]) ∧ Q w w' := by
  have b1 : bits .and .i64 (-65535) 65535 = 1 := by kernel_rfl
  have b2 : bits .and .i64 65535 65535 = 65535 := by kernel_rfl
  have b3 : bits .or .u64 126 1 = 127 := by kernel_rfl
  go_enter Tryd.func52, Tryd.ntmps52
  go_wp2
  refine bodyPost_ret (v := Value.tuple #[Value.agg #[Value.int .i64 o, Value.int .i64 0, Value.int .u64 127], Value.bool true]) (by simp [results, Tryd.results52, go_sem]) rfl ⟨rfl, ?_⟩
  repeat' (first | exact Q.refl _ | refine Q.alloc ?_ _ | refine Q.jk ?_ _ | refine Q.drew ?_)
set_option maxHeartbeats 1000000 in
theorem take_new7 (o : Int) (w : World) :
    Calls Tryd.prog 52 #[Value.agg #[Value.int .i64 o, Value.int .i64 0, Value.int .u64 127], Value.int .i64 1] w fun e w' => e = .returned (Value.tuple #[Value.agg #[Value.int .i64 o, Value.int .i64 1, Value.int .u64 255], Value.bool true]) ∧ Q w w' := by
  have b1 : bits .and .i64 1 65535 = 1 := by kernel_rfl
  have b2 : bits .and .i64 (-1) 65535 = 65535 := by kernel_rfl
  have b3 : bits .or .u64 254 1 = 255 := by kernel_rfl
  go_enter Tryd.func52, Tryd.ntmps52
  go_wp2
  refine bodyPost_ret (v := Value.tuple #[Value.agg #[Value.int .i64 o, Value.int .i64 1, Value.int .u64 255], Value.bool true]) (by simp [results, Tryd.results52, go_sem]) rfl ⟨rfl, ?_⟩
  repeat' (first | exact Q.refl _ | refine Q.alloc ?_ _ | refine Q.jk ?_ _ | refine Q.drew ?_)
set_option maxHeartbeats 1000000 in
theorem take_new8 (o : Int) (w : World) :
    Calls Tryd.prog 52 #[Value.agg #[Value.int .i64 o, Value.int .i64 1, Value.int .u64 255], Value.int .i64 2] w fun e w' => e = .returned (Value.tuple #[Value.agg #[Value.int .i64 o, Value.int .i64 2, Value.int .u64 511], Value.bool true]) ∧ Q w w' := by
  have b1 : bits .and .i64 1 65535 = 1 := by kernel_rfl
  have b2 : bits .and .i64 (-1) 65535 = 65535 := by kernel_rfl
  have b3 : bits .or .u64 510 1 = 511 := by kernel_rfl
  go_enter Tryd.func52, Tryd.ntmps52
  go_wp2
  refine bodyPost_ret (v := Value.tuple #[Value.agg #[Value.int .i64 o, Value.int .i64 2, Value.int .u64 511], Value.bool true]) (by simp [results, Tryd.results52, go_sem]) rfl ⟨rfl, ?_⟩
  repeat' (first | exact Q.refl _ | refine Q.alloc ?_ _ | refine Q.jk ?_ _ | refine Q.drew ?_)
set_option maxHeartbeats 1000000 in
theorem take_new9 (o : Int) (w : World) :
    Calls Tryd.prog 52 #[Value.agg #[Value.int .i64 o, Value.int .i64 2, Value.int .u64 511], Value.int .i64 3] w fun e w' => e = .returned (Value.tuple #[Value.agg #[Value.int .i64 o, Value.int .i64 3, Value.int .u64 1023], Value.bool true]) ∧ Q w w' := by
  have b1 : bits .and .i64 1 65535 = 1 := by kernel_rfl
  have b2 : bits .and .i64 (-1) 65535 = 65535 := by kernel_rfl
  have b3 : bits .or .u64 1022 1 = 1023 := by kernel_rfl
  go_enter Tryd.func52, Tryd.ntmps52
  go_wp2
  refine bodyPost_ret (v := Value.tuple #[Value.agg #[Value.int .i64 o, Value.int .i64 3, Value.int .u64 1023], Value.bool true]) (by simp [results, Tryd.results52, go_sem]) rfl ⟨rfl, ?_⟩
  repeat' (first | exact Q.refl _ | refine Q.alloc ?_ _ | refine Q.jk ?_ _ | refine Q.drew ?_)
set_option maxHeartbeats 1000000 in
theorem take_new10 (o : Int) (w : World) :
    Calls Tryd.prog 52 #[Value.agg #[Value.int .i64 o, Value.int .i64 3, Value.int .u64 1023], Value.int .i64 4] w fun e w' => e = .returned (Value.tuple #[Value.agg #[Value.int .i64 o, Value.int .i64 4, Value.int .u64 2047], Value.bool true]) ∧ Q w w' := by
  have b1 : bits .and .i64 1 65535 = 1 := by kernel_rfl
  have b2 : bits .and .i64 (-1) 65535 = 65535 := by kernel_rfl
  have b3 : bits .or .u64 2046 1 = 2047 := by kernel_rfl
  go_enter Tryd.func52, Tryd.ntmps52
  go_wp2
  refine bodyPost_ret (v := Value.tuple #[Value.agg #[Value.int .i64 o, Value.int .i64 4, Value.int .u64 2047], Value.bool true]) (by simp [results, Tryd.results52, go_sem]) rfl ⟨rfl, ?_⟩
  repeat' (first | exact Q.refl _ | refine Q.alloc ?_ _ | refine Q.jk ?_ _ | refine Q.drew ?_)
set_option maxHeartbeats 1000000 in
theorem take_new11 (o : Int) (w : World) :
    Calls Tryd.prog 52 #[Value.agg #[Value.int .i64 o, Value.int .i64 4, Value.int .u64 2047], Value.int .i64 5] w fun e w' => e = .returned (Value.tuple #[Value.agg #[Value.int .i64 o, Value.int .i64 5, Value.int .u64 4095], Value.bool true]) ∧ Q w w' := by
  have b1 : bits .and .i64 1 65535 = 1 := by kernel_rfl
  have b2 : bits .and .i64 (-1) 65535 = 65535 := by kernel_rfl
  have b3 : bits .or .u64 4094 1 = 4095 := by kernel_rfl
  go_enter Tryd.func52, Tryd.ntmps52
  go_wp2
  refine bodyPost_ret (v := Value.tuple #[Value.agg #[Value.int .i64 o, Value.int .i64 5, Value.int .u64 4095], Value.bool true]) (by simp [results, Tryd.results52, go_sem]) rfl ⟨rfl, ?_⟩
  repeat' (first | exact Q.refl _ | refine Q.alloc ?_ _ | refine Q.jk ?_ _ | refine Q.drew ?_)
set_option maxHeartbeats 1000000 in
theorem take_old0 (o : Int) (w : World) :
    Calls Tryd.prog 52 #[Value.agg #[Value.int .i64 o, Value.int .i64 5, Value.int .u64 4095], Value.int .i64 65530] w fun e w' => e = .returned (Value.tuple #[Value.agg #[Value.int .i64 o, Value.int .i64 5, Value.int .u64 4095], Value.bool false]) ∧ Q w w' := by
  have b1 : bits .and .i64 65525 65535 = 65525 := by kernel_rfl
  have b2 : bits .and .i64 (-65525) 65535 = 11 := by kernel_rfl
  have b3 : bits .and .u64 1 1 = 1 := by kernel_rfl
  go_enter Tryd.func52, Tryd.ntmps52
  go_wp2
  refine bodyPost_ret (v := Value.tuple #[Value.agg #[Value.int .i64 o, Value.int .i64 5, Value.int .u64 4095], Value.bool false]) (by simp [results, Tryd.results52, go_sem]) rfl ⟨rfl, ?_⟩
  repeat' (first | exact Q.refl _ | refine Q.alloc ?_ _ | refine Q.jk ?_ _ | refine Q.drew ?_)
set_option maxHeartbeats 1000000 in
theorem take_old1 (o : Int) (w : World) :
    Calls Tryd.prog 52 #[Value.agg #[Value.int .i64 o, Value.int .i64 5, Value.int .u64 4095], Value.int .i64 65531] w fun e w' => e = .returned (Value.tuple #[Value.agg #[Value.int .i64 o, Value.int .i64 5, Value.int .u64 4095], Value.bool false]) ∧ Q w w' := by
  have b1 : bits .and .i64 65526 65535 = 65526 := by kernel_rfl
  have b2 : bits .and .i64 (-65526) 65535 = 10 := by kernel_rfl
  have b3 : bits .and .u64 3 1 = 1 := by kernel_rfl
  go_enter Tryd.func52, Tryd.ntmps52
  go_wp2
  refine bodyPost_ret (v := Value.tuple #[Value.agg #[Value.int .i64 o, Value.int .i64 5, Value.int .u64 4095], Value.bool false]) (by simp [results, Tryd.results52, go_sem]) rfl ⟨rfl, ?_⟩
  repeat' (first | exact Q.refl _ | refine Q.alloc ?_ _ | refine Q.jk ?_ _ | refine Q.drew ?_)
set_option maxHeartbeats 1000000 in
theorem take_old2 (o : Int) (w : World) :
    Calls Tryd.prog 52 #[Value.agg #[Value.int .i64 o, Value.int .i64 5, Value.int .u64 4095], Value.int .i64 65532] w fun e w' => e = .returned (Value.tuple #[Value.agg #[Value.int .i64 o, Value.int .i64 5, Value.int .u64 4095], Value.bool false]) ∧ Q w w' := by
  have b1 : bits .and .i64 65527 65535 = 65527 := by kernel_rfl
  have b2 : bits .and .i64 (-65527) 65535 = 9 := by kernel_rfl
  have b3 : bits .and .u64 7 1 = 1 := by kernel_rfl
  go_enter Tryd.func52, Tryd.ntmps52
  go_wp2
  refine bodyPost_ret (v := Value.tuple #[Value.agg #[Value.int .i64 o, Value.int .i64 5, Value.int .u64 4095], Value.bool false]) (by simp [results, Tryd.results52, go_sem]) rfl ⟨rfl, ?_⟩
  repeat' (first | exact Q.refl _ | refine Q.alloc ?_ _ | refine Q.jk ?_ _ | refine Q.drew ?_)
set_option maxHeartbeats 1000000 in
theorem take_old3 (o : Int) (w : World) :
    Calls Tryd.prog 52 #[Value.agg #[Value.int .i64 o, Value.int .i64 5, Value.int .u64 4095], Value.int .i64 65533] w fun e w' => e = .returned (Value.tuple #[Value.agg #[Value.int .i64 o, Value.int .i64 5, Value.int .u64 4095], Value.bool false]) ∧ Q w w' := by
  have b1 : bits .and .i64 65528 65535 = 65528 := by kernel_rfl
  have b2 : bits .and .i64 (-65528) 65535 = 8 := by kernel_rfl
  have b3 : bits .and .u64 15 1 = 1 := by kernel_rfl
  go_enter Tryd.func52, Tryd.ntmps52
  go_wp2
  refine bodyPost_ret (v := Value.tuple #[Value.agg #[Value.int .i64 o, Value.int .i64 5, Value.int .u64 4095], Value.bool false]) (by simp [results, Tryd.results52, go_sem]) rfl ⟨rfl, ?_⟩
  repeat' (first | exact Q.refl _ | refine Q.alloc ?_ _ | refine Q.jk ?_ _ | refine Q.drew ?_)
set_option maxHeartbeats 1000000 in
theorem take_old4 (o : Int) (w : World) :
    Calls Tryd.prog 52 #[Value.agg #[Value.int .i64 o, Value.int .i64 5, Value.int .u64 4095], Value.int .i64 65534] w fun e w' => e = .returned (Value.tuple #[Value.agg #[Value.int .i64 o, Value.int .i64 5, Value.int .u64 4095], Value.bool false]) ∧ Q w w' := by
  have b1 : bits .and .i64 65529 65535 = 65529 := by kernel_rfl
  have b2 : bits .and .i64 (-65529) 65535 = 7 := by kernel_rfl
  have b3 : bits .and .u64 31 1 = 1 := by kernel_rfl
  go_enter Tryd.func52, Tryd.ntmps52
  go_wp2
  refine bodyPost_ret (v := Value.tuple #[Value.agg #[Value.int .i64 o, Value.int .i64 5, Value.int .u64 4095], Value.bool false]) (by simp [results, Tryd.results52, go_sem]) rfl ⟨rfl, ?_⟩
  repeat' (first | exact Q.refl _ | refine Q.alloc ?_ _ | refine Q.jk ?_ _ | refine Q.drew ?_)
set_option maxHeartbeats 1000000 in
theorem take_old5 (o : Int) (w : World) :
    Calls Tryd.prog 52 #[Value.agg #[Value.int .i64 o, Value.int .i64 5, Value.int .u64 4095], Value.int .i64 65535] w fun e w' => e = .returned (Value.tuple #[Value.agg #[Value.int .i64 o, Value.int .i64 5, Value.int .u64 4095], Value.bool false]) ∧ Q w w' := by
  have b1 : bits .and .i64 65530 65535 = 65530 := by kernel_rfl
  have b2 : bits .and .i64 (-65530) 65535 = 6 := by kernel_rfl
  have b3 : bits .and .u64 63 1 = 1 := by kernel_rfl
  go_enter Tryd.func52, Tryd.ntmps52
  go_wp2
  refine bodyPost_ret (v := Value.tuple #[Value.agg #[Value.int .i64 o, Value.int .i64 5, Value.int .u64 4095], Value.bool false]) (by simp [results, Tryd.results52, go_sem]) rfl ⟨rfl, ?_⟩
  repeat' (first | exact Q.refl _ | refine Q.alloc ?_ _ | refine Q.jk ?_ _ | refine Q.drew ?_)
set_option maxHeartbeats 1000000 in
theorem take_old6 (o : Int) (w : World) :
    Calls Tryd.prog 52 #[Value.agg #[Value.int .i64 o, Value.int .i64 5, Value.int .u64 4095], Value.int .i64 0] w fun e w' => e = .returned (Value.tuple #[Value.agg #[Value.int .i64 o, Value.int .i64 5, Value.int .u64 4095], Value.bool false]) ∧ Q w w' := by
  have b1 : bits .and .i64 (-5) 65535 = 65531 := by kernel_rfl
  have b2 : bits .and .i64 5 65535 = 5 := by kernel_rfl
  have b3 : bits .and .u64 127 1 = 1 := by kernel_rfl
  go_enter Tryd.func52, Tryd.ntmps52
  go_wp2
  refine bodyPost_ret (v := Value.tuple #[Value.agg #[Value.int .i64 o, Value.int .i64 5, Value.int .u64 4095], Value.bool false]) (by simp [results, Tryd.results52, go_sem]) rfl ⟨rfl, ?_⟩
  repeat' (first | exact Q.refl _ | refine Q.alloc ?_ _ | refine Q.jk ?_ _ | refine Q.drew ?_)
set_option maxHeartbeats 1000000 in
theorem take_old7 (o : Int) (w : World) :
    Calls Tryd.prog 52 #[Value.agg #[Value.int .i64 o, Value.int .i64 5, Value.int .u64 4095], Value.int .i64 1] w fun e w' => e = .returned (Value.tuple #[Value.agg #[Value.int .i64 o, Value.int .i64 5, Value.int .u64 4095], Value.bool false]) ∧ Q w w' := by
  have b1 : bits .and .i64 (-4) 65535 = 65532 := by kernel_rfl
  have b2 : bits .and .i64 4 65535 = 4 := by kernel_rfl
  have b3 : bits .and .u64 255 1 = 1 := by kernel_rfl
  go_enter Tryd.func52, Tryd.ntmps52
  go_wp2
  refine bodyPost_ret (v := Value.tuple #[Value.agg #[Value.int .i64 o, Value.int .i64 5, Value.int .u64 4095], Value.bool false]) (by simp [results, Tryd.results52, go_sem]) rfl ⟨rfl, ?_⟩
  repeat' (first | exact Q.refl _ | refine Q.alloc ?_ _ | refine Q.jk ?_ _ | refine Q.drew ?_)
set_option maxHeartbeats 1000000 in
theorem take_old8 (o : Int) (w : World) :
    Calls Tryd.prog 52 #[Value.agg #[Value.int .i64 o, Value.int .i64 5, Value.int .u64 4095], Value.int .i64 2] w fun e w' => e = .returned (Value.tuple #[Value.agg #[Value.int .i64 o, Value.int .i64 5, Value.int .u64 4095], Value.bool false]) ∧ Q w w' := by
  have b1 : bits .and .i64 (-3) 65535 = 65533 := by kernel_rfl
  have b2 : bits .and .i64 3 65535 = 3 := by kernel_rfl
  have b3 : bits .and .u64 511 1 = 1 := by kernel_rfl
  go_enter Tryd.func52, Tryd.ntmps52
  go_wp2
  refine bodyPost_ret (v := Value.tuple #[Value.agg #[Value.int .i64 o, Value.int .i64 5, Value.int .u64 4095], Value.bool false]) (by simp [results, Tryd.results52, go_sem]) rfl ⟨rfl, ?_⟩
  repeat' (first | exact Q.refl _ | refine Q.alloc ?_ _ | refine Q.jk ?_ _ | refine Q.drew ?_)
set_option maxHeartbeats 1000000 in
theorem take_old9 (o : Int) (w : World) :
    Calls Tryd.prog 52 #[Value.agg #[Value.int .i64 o, Value.int .i64 5, Value.int .u64 4095], Value.int .i64 3] w fun e w' => e = .returned (Value.tuple #[Value.agg #[Value.int .i64 o, Value.int .i64 5, Value.int .u64 4095], Value.bool false]) ∧ Q w w' := by
  have b1 : bits .and .i64 (-2) 65535 = 65534 := by kernel_rfl
  have b2 : bits .and .i64 2 65535 = 2 := by kernel_rfl
  have b3 : bits .and .u64 1023 1 = 1 := by kernel_rfl
  go_enter Tryd.func52, Tryd.ntmps52
  go_wp2
  refine bodyPost_ret (v := Value.tuple #[Value.agg #[Value.int .i64 o, Value.int .i64 5, Value.int .u64 4095], Value.bool false]) (by simp [results, Tryd.results52, go_sem]) rfl ⟨rfl, ?_⟩
  repeat' (first | exact Q.refl _ | refine Q.alloc ?_ _ | refine Q.jk ?_ _ | refine Q.drew ?_)
set_option maxHeartbeats 1000000 in
theorem take_old10 (o : Int) (w : World) :
    Calls Tryd.prog 52 #[Value.agg #[Value.int .i64 o, Value.int .i64 5, Value.int .u64 4095], Value.int .i64 4] w fun e w' => e = .returned (Value.tuple #[Value.agg #[Value.int .i64 o, Value.int .i64 5, Value.int .u64 4095], Value.bool false]) ∧ Q w w' := by
  have b1 : bits .and .i64 (-1) 65535 = 65535 := by kernel_rfl
  have b2 : bits .and .i64 1 65535 = 1 := by kernel_rfl
  have b3 : bits .and .u64 2047 1 = 1 := by kernel_rfl
  go_enter Tryd.func52, Tryd.ntmps52
  go_wp2
  refine bodyPost_ret (v := Value.tuple #[Value.agg #[Value.int .i64 o, Value.int .i64 5, Value.int .u64 4095], Value.bool false]) (by simp [results, Tryd.results52, go_sem]) rfl ⟨rfl, ?_⟩
  repeat' (first | exact Q.refl _ | refine Q.alloc ?_ _ | refine Q.jk ?_ _ | refine Q.drew ?_)
set_option maxHeartbeats 1000000 in
theorem take_old11 (o : Int) (w : World) :
    Calls Tryd.prog 52 #[Value.agg #[Value.int .i64 o, Value.int .i64 5, Value.int .u64 4095], Value.int .i64 5] w fun e w' => e = .returned (Value.tuple #[Value.agg #[Value.int .i64 o, Value.int .i64 5, Value.int .u64 4095], Value.bool false]) ∧ Q w w' := by
  have b1 : bits .and .i64 0 65535 = 0 := by kernel_rfl
  have b3 : bits .and .u64 4095 1 = 1 := by kernel_rfl
  go_enter Tryd.func52, Tryd.ntmps52
  go_wp2
  refine bodyPost_ret (v := Value.tuple #[Value.agg #[Value.int .i64 o, Value.int .i64 5, Value.int .u64 4095], Value.bool false]) (by simp [results, Tryd.results52, go_sem]) rfl ⟨rfl, ?_⟩
  repeat' (first | exact Q.refl _ | refine Q.alloc ?_ _ | refine Q.jk ?_ _ | refine Q.drew ?_)
end Go.Proofs.YtfdpnephjpcnbaaDoor
/- What Check of a frame returns for a frame in its ranges; pair. -/
set_option linter.unusedVariables false
set_option linter.unusedSimpArgs false
namespace Go.Sub
def InB (lo hi : Int) (l : List Int) : Prop := ∀ k, k < l.length → lo ≤ l.getD k 0 ∧ l.getD k 0 ≤ hi
end Go.Sub
namespace Go
open Go.RowKit
/-- The slice holds the numbers. -/
def RdN (w : World) (A : Option Addr) (n c : Nat) (k : IntKind) (l : List Int) : Prop := RdV w A n c 1 (l.map (Value.int k))
theorem RdN.q {w w' : World} {A : Option Addr} {n c : Nat} {k : IntKind} {l : List Int} (h : RdN w A n c k l) (hq : Q w w') : RdN w' A n c k l := RdV.q h hq
theorem RdN.len {w : World} {A : Option Addr} {n c : Nat} {k : IntKind} {l : List Int} (h : RdN w A n c k l) : l.length = n := by
  have := h.1
  simpa using this
theorem RdN.at_ {w : World} {A : Option Addr} {n c : Nat} {k : IntKind} {l : List Int} (h : RdN w A n c k l) (hn : 0 < n) : ∃ g o, A = some ⟨g, o, none⟩ ∧ Old g w ∧ Hid (∀ i, i < n → w.cell? ⟨g, o + i, none⟩ = some (Value.int k (l.getD i 0))) := by
  obtain ⟨g, o, e, ho, hc⟩ := RdV.at_ h hn
  refine ⟨g, o, e, ho, Lib.hid fun i hi => hc.out i _ ?_⟩
  have hl := h.len
  rw [List.getElem?_map, List.getD_eq_getElem?_getD, List.getElem?_eq_getElem (by omega)]
  rfl
end Go
namespace Go.Proofs.YtfdpnephjpcnbaaDoor
open Go.RowKit Go.Sub
set_option maxHeartbeats 2000000 in
theorem scheck_c (u c : Int) (s : Bool) (A : Option Addr) (n ca : Nat) (B : Option Addr) (cb : Nat) (xs qs : List Int) (w : World) (hx : RdN w A n ca .i64 xs) (hq : RdN w B n cb .i64 qs)
    (u0 : 0 ≤ u) (u1 : u ≤ 999) (c0 : 0 ≤ c) (c1 : c ≤ 599) (n0 : 1 ≤ n) (n1 : n ≤ 8) (bx : InB (-16383) 16383 xs) (bq : InB 0 255 qs) :
    Calls Tryd.prog 21 #[Value.agg #[Value.int .i64 u, Value.int .i64 c, Value.bool s, Value.slice A n ca, Value.slice B n cb]] w fun e w' => e = .returned (Value.int .i64 0) ∧ Q w w' := by
  obtain ⟨g, o, rfl, ho, hc⟩ := hx.at_ (by omega)
  obtain ⟨g', o', rfl, ho', hc'⟩ := hq.at_ (by omega)
  have lx := Lib.hid hx.len
  have lq := Lib.hid hq.len
  have BX := Lib.hid bx
  have BQ := Lib.hid bq
  clear hx hq bx bq
  go_enter Tryd.func21, Tryd.ntmps21
  go_wp2_with (go_at_call 19; refine (sbetween_ok _ _ _ _ (by omega) (by omega)).mono ?_; rintro e w' ⟨rfl, rfl⟩)
  go_loop [31] (fun i => ∃ k : Nat, k ≤ n ∧ i = Value.int .i64 k) (fun i => n - (intOf i).toNat)
  case atStart => exact ⟨0, by omega, rfl⟩
  case round =>
    obtain ⟨k, hk, rfl⟩ := hrel
    by_cases hlt : k < n
    · have h1 := hc.out k hlt
      have h2 := hc'.out k hlt
      obtain ⟨a, ea⟩ : ∃ a, xs.getD k 0 = a := ⟨_, rfl⟩
      obtain ⟨b, eb⟩ : ∃ b, qs.getD k 0 = b := ⟨_, rfl⟩
      have h3 := BX.out k (by rw [lx.out]; exact hlt)
      have h4 := BQ.out k (by rw [lq.out]; exact hlt)
      rw [ea] at h1 h3
      rw [eb] at h2 h4
      obtain ⟨h31, h32⟩ := h3
      obtain ⟨h41, h42⟩ := h4
      clear ea eb
      go_wp2_with (go_at_call 19; refine (sbetween_ok _ _ _ _ (by omega) (by omega)).mono ?_; rintro e w' ⟨rfl, rfl⟩)
      go_round
      case rel => exact ⟨k + 1, by omega, by go_num⟩
      case measure => simp [intOf]; omega
    · obtain rfl : k = n := by omega
      go_wp2_with fail
      go_ret
      refine ⟨rfl, ?_⟩
      repeat' (first | exact Q.refl _ | refine Q.alloc ?_ _ | refine Q.jk ?_ _ | refine Q.drew ?_)
set_option maxHeartbeats 1000000 in
theorem pair_c (A : Option Addr) (n c : Nat) (l : List Int) (a b r : Int) (w : World) (hx : RdN w A n c .u8 l) (n0 : 2 ≤ n) (ha : l.getD 0 0 = a) (hb : l.getD 1 0 = b) (a0 : 0 ≤ a) (a1 : a ≤ 255) (b0 : 0 ≤ b) (b1 : b ≤ 255)
    (hr : bits .or .i64 (a * 256) b = r) :
    Calls Tryd.prog 48 #[Value.slice A n c] w fun e w' => e = .returned (Value.int .i64 r) ∧ Q w w' := by
  obtain ⟨g, o, rfl, ho, hc⟩ := hx.at_ (by omega)
  have h0 := hc.out 0 (by omega)
  have h1 := hc.out 1 (by omega)
  rw [ha, Nat.add_zero] at h0
  rw [hb] at h1
  clear hx ha hb
  go_enter Tryd.func48, Tryd.ntmps48
  go_wp2_with fail
  try simp only [List.append]
  refine wp_region_jk (by kernel_rfl) (by kernel_rfl) ?_
  repeat (go_big_quiet_step (fail))
  refine wpQuiet_nil ?_
  intro _ hw'
  obtain ⟨kq, rfl⟩ := hw'
  go_wp2_with fail
  go_ret
  refine ⟨rfl, ?_⟩
  repeat' (first | exact Q.refl _ | refine Q.alloc ?_ _ | refine Q.jk ?_ _ | refine Q.drew ?_)
end Go.Proofs.YtfdpnephjpcnbaaDoor
/- Rows of numbers of a kind as cells, and copy into a row that lies ahead of other new blocks. -/
set_option linter.unusedVariables false
set_option linter.unusedSimpArgs false
namespace Go.Sub
/-- The cells of numbers of a kind. -/
def cellsN (k : IntKind) (o : List Int) : Array Value := (o.map (Value.int k)).toArray
theorem cellsN_at {k : IntKind} {o : List Int} {j : Nat} (h : j < o.length) : (cellsN k o)[j]? = some (.int k (o.getD j 0)) := by
  simp [cellsN, List.getD, h]
theorem cellsN_set (k : IntKind) (o : List Int) (j : Nat) (d : Int) : (cellsN k o).setIfInBounds j (.int k d) = cellsN k (o.set j d) := by
  simp [cellsN, List.map_set]
theorem madeCells_N (k : IntKind) (n : Nat) : madeCells (Value.int k 0).cells n = cellsN k (List.replicate n 0) := by
  unfold madeCells cellsN
  apply Array.ext
  · simp
  · intro i h1 h2
    have e : i % 1 = 0 := Nat.mod_one i
    simp [Value.cells, e]
end Go.Sub
namespace Go
open Go.RowKit Go.Sub
theorem step_copy {P : Program} {ops : Array Oper} {o : Oper} {a : Act} {w w' : World} {K : Act → World → Prop} {Q : Exit → Act → World → Prop} {E : Prop} {t : TypeId} {sv xv v : Value}
    (hg : o.guard = none) (s x : Operand) (hop : o.op = Op.call { callee := Callee.builtin Builtin.copy, args := #[s, x], argTypes := #[t, t] })
    (hs : a.eval s = sv) (hx : a.eval x = xv) (hrun : (Builtin.copy_ #[t, t] o.type #[sv, xv]).run P w = .ok v w') (hK : K (a.put o.dst v) w') :
    if Region.wanted o (yielded ops a.tmps) = true then Oper.wp P o a w K Q else E := by
  have hw : Region.wanted o (yielded ops a.tmps) = true := by simp [Region.wanted, hg]
  rw [if_pos hw]
  unfold Oper.wp
  simp [execOp, hop, resolve, invoke, builtin, hs, hx, hrun, Result.andThen]
  exact hK
theorem World.setRow_alloc_self (w : World) (cur cur' : Array Value) (t : TypeId) (g : Nat) (hg : g = w.heap.size) : (w.alloc (.cells cur t)).setRow g cur' = w.alloc (.cells cur' t) := by
  subst hg
  unfold World.setRow World.alloc
  congr 1
  apply Array.ext
  · simp
  · intro k h1 h2
    have h3 : k < w.heap.size + 1 := by simpa using h2
    simp only [Array.getElem_modify, Array.getElem_push]
    by_cases hk : k = w.heap.size
    · subst hk
      simp
    · have h4 : k < w.heap.size := by omega
      have h5 : ¬ w.heap.size = k := by omega
      simp [h4, h5]
theorem World.setRow_alloc_lt (w : World) (cur' : Array Value) (o : Obj) (g : Nat) (hg : g < w.heap.size) : (w.alloc o).setRow g cur' = (w.setRow g cur').alloc o := by
  unfold World.setRow World.alloc
  simp only
  congr 1
  apply Array.ext
  · simp
  · intro k h1 h2
    have h3 : k < w.heap.size + 1 := by simpa using h1
    simp only [Array.getElem_modify, Array.getElem_push]
    by_cases hk : k < w.heap.size
    · simp [hk, Array.getElem_modify]
    · have h5 : ¬ g = k := by omega
      simp [hk, h5]
theorem World.setRow_jk_lt (w : World) (kx : Jk) (g : Nat) (r : Array Value) (hg : g < w.heap.size) : (w.jk kx).setRow g r = (w.setRow g r).jk kx := by
  unfold World.setRow World.jk
  simp only
  congr 1
  apply Array.ext_getElem?
  intro j
  simp only [Array.getElem?_modify, Array.getElem?_append, Array.size_modify]
  by_cases hj : j < w.heap.size
  · simp [hj]
  · have h5 : ¬ g = j := by omega
    simp [hj, h5]
theorem addr_add0 (b o j : Nat) : (⟨b, o, none⟩ : Addr).add j = ⟨b, o + j, none⟩ := by unfold Addr.add; split <;> simp_all
theorem one_ints (k : IntKind) (l : List Int) : ∀ v ∈ l.map (Value.int k), v.oneCell' = true := by
  intro v hv
  obtain ⟨x, _, rfl⟩ := List.mem_map.1 hv
  rfl
theorem World.jk_alloc (w : World) (kx : Jk) (o : Obj) : (w.jk kx).alloc o = w.jk ⟨kx.os.push o, kx.n⟩ := by
  unfold World.jk World.alloc
  simp
theorem World.alloc_as_jk (w : World) (o : Obj) : w.alloc o = w.jk ⟨#[o], w.drawn⟩ := by
  unfold World.jk World.alloc
  simp
theorem World.drew_as_jk (w : World) : w.drew = w.jk ⟨#[], w.drawn + 1⟩ := by
  show World.mk w.heap w.tape (w.drawn + 1) w.os w.output = World.mk (w.heap ++ #[]) w.tape (w.drawn + 1) w.os w.output
  simp
/-- The splice that a copy makes. -/
def splice (cur : List Int) (lo : Nat) (cs : List Int) : List Int := cur.take lo ++ cs ++ cur.drop (lo + cs.length)
theorem splice_cells (k : IntKind) (cur : List Int) (lo : Nat) (cs : List Int) : ((cellsN k cur).toList.take lo ++ cs.map (Value.int k) ++ (cellsN k cur).toList.drop (lo + (cs.map (Value.int k)).length)).toArray = cellsN k (splice cur lo cs) := by
  simp [cellsN, splice, List.map_take, List.map_drop]
/-- copy into a row of the world's last block but those of kx and one more. -/
theorem run_copy_jk {P : Program} (W : World) (kx : Jk) (ob : Obj) (dT sT ty elem t : TypeId) (q : IntKind) (g lo dLen dCap n c : Nat) (a : Addr) (cur cs : List Int)
    (hu : P.underlying dT = some (.slice elem)) (hs : (P.info? elem).map (·.size) = some 1) (hg : g = W.heap.size) (hn : cs.length = Nat.min n dLen)
    (hsrc : ∀ j v, cs[j]? = some v → (((W.alloc (.cells (cellsN q cur) t)).jk kx).alloc ob).cell? (a.add j) = some (Value.int q v)) (hfit : lo + cs.length ≤ cur.length) :
    (Builtin.copy_ #[dT, sT] ty #[.slice (some ⟨g, lo, none⟩) dLen dCap, .slice (some a) n c]).run P (((W.alloc (.cells (cellsN q cur) t)).jk kx).alloc ob)
      = .ok (goInt cs.length) (((W.alloc (.cells (cellsN q (splice cur lo cs)) t)).jk kx).alloc ob) := by
  subst hg
  have hrow : (((W.alloc (.cells (cellsN q cur) t)).jk kx).alloc ob).heap[W.heap.size]? = some (.cells (cellsN q cur) t (0, 0)) := by
    show (((W.heap.push (.cells (cellsN q cur) t)) ++ kx.os).push ob)[W.heap.size]? = _
    rw [Array.getElem?_push, if_neg (by simp <;> omega), Array.getElem?_append, if_pos (by simp), Array.getElem?_push, if_pos rfl]
  rw [run_copy_row (P := P) _ dT sT ty elem W.heap.size lo dLen dCap a n c (cellsN q cur) t (cs.map (Value.int q)) hu hs hrow (by simpa using hn) (by
    intro j v hv
    rw [List.getElem?_map] at hv
    cases hc : cs[j]? with
    | none => rw [hc] at hv; cases hv
    | some x => rw [hc] at hv; cases hv; exact hsrc j x hc) (by simpa [cellsN] using hfit) (one_ints q cs), splice_cells, World.setRow_alloc_lt _ _ _ _ (by simp [World.size_jk] <;> omega), World.setRow_jk_lt _ _ _ _ (by simp), World.setRow_alloc_self _ _ _ _ _ rfl]
  simp
/-- The same, where the row is the last block but one. -/
theorem run_copy_al {P : Program} (W : World) (ob : Obj) (dT sT ty elem t : TypeId) (q : IntKind) (g lo dLen dCap n c : Nat) (a : Addr) (cur cs : List Int)
    (hu : P.underlying dT = some (.slice elem)) (hs : (P.info? elem).map (·.size) = some 1) (hg : g = W.heap.size) (hn : cs.length = Nat.min n dLen)
    (hsrc : ∀ j v, cs[j]? = some v → ((W.alloc (.cells (cellsN q cur) t)).alloc ob).cell? (a.add j) = some (Value.int q v)) (hfit : lo + cs.length ≤ cur.length) :
    (Builtin.copy_ #[dT, sT] ty #[.slice (some ⟨g, lo, none⟩) dLen dCap, .slice (some a) n c]).run P ((W.alloc (.cells (cellsN q cur) t)).alloc ob)
      = .ok (goInt cs.length) ((W.alloc (.cells (cellsN q (splice cur lo cs)) t)).alloc ob) := by
  subst hg
  have hrow : ((W.alloc (.cells (cellsN q cur) t)).alloc ob).heap[W.heap.size]? = some (.cells (cellsN q cur) t (0, 0)) := by
    show ((W.heap.push (.cells (cellsN q cur) t)).push ob)[W.heap.size]? = _
    rw [Array.getElem?_push, if_neg (by simp <;> omega), Array.getElem?_push, if_pos rfl]
  rw [run_copy_row (P := P) _ dT sT ty elem W.heap.size lo dLen dCap a n c (cellsN q cur) t (cs.map (Value.int q)) hu hs hrow (by simpa using hn) (by
    intro j v hv
    rw [List.getElem?_map] at hv
    cases hc : cs[j]? with
    | none => rw [hc] at hv; cases hv
    | some x => rw [hc] at hv; cases hv; exact hsrc j x hc) (by simpa [cellsN] using hfit) (one_ints q cs), splice_cells, World.setRow_alloc_lt _ _ _ _ (by simp), World.setRow_alloc_self _ _ _ _ _ rfl]
  simp
/-- The same, where the row is the last block. -/
theorem run_copy_last {P : Program} (W : World) (dT sT ty elem t : TypeId) (q : IntKind) (g lo dLen dCap n c : Nat) (a : Addr) (cur cs : List Int)
    (hu : P.underlying dT = some (.slice elem)) (hs : (P.info? elem).map (·.size) = some 1) (hg : g = W.heap.size) (hn : cs.length = Nat.min n dLen)
    (hsrc : ∀ j v, cs[j]? = some v → (W.alloc (.cells (cellsN q cur) t)).cell? (a.add j) = some (Value.int q v)) (hfit : lo + cs.length ≤ cur.length) :
    (Builtin.copy_ #[dT, sT] ty #[.slice (some ⟨g, lo, none⟩) dLen dCap, .slice (some a) n c]).run P (W.alloc (.cells (cellsN q cur) t))
      = .ok (goInt cs.length) (W.alloc (.cells (cellsN q (splice cur lo cs)) t)) := by
  subst hg
  have hrow : (W.alloc (.cells (cellsN q cur) t)).heap[W.heap.size]? = some (.cells (cellsN q cur) t (0, 0)) := by
    show (W.heap.push (.cells (cellsN q cur) t))[W.heap.size]? = _
    rw [Array.getElem?_push, if_pos rfl]
  rw [run_copy_row (P := P) _ dT sT ty elem W.heap.size lo dLen dCap a n c (cellsN q cur) t (cs.map (Value.int q)) hu hs hrow (by simpa using hn) (by
    intro j v hv
    rw [List.getElem?_map] at hv
    cases hc : cs[j]? with
    | none => rw [hc] at hv; cases hv
    | some x => rw [hc] at hv; cases hv; exact hsrc j x hc) (by simpa [cellsN] using hfit) (one_ints q cs), splice_cells, World.setRow_alloc_self _ _ _ _ _ rfl]
  simp
theorem lit_cell (W : World) (l : List Int) (q : IntKind) (t : TypeId) (b : Nat) (hb : b = W.heap.size) (j : Nat) (v : Int) (h : l[j]? = some v) : (W.alloc (.cells (cellsN q l) t)).cell? ((⟨b, 0, none⟩ : Addr).add j) = some (Value.int q v) := by
  subst hb
  rw [addr_add0, cell_of_row _ _ _ (cellsN q l) _ (0, 0) (heap_alloc_new W _)]
  simp [cellsN, h]
/-- A row that has just been made, behind which there are other blocks. -/
theorem rdn_row (W : World) (kx : Jk) (q : IntKind) (t : TypeId) (l : List Int) (g : Nat) (hg : g = W.heap.size) (n : Nat) (hn : n = l.length) (c : Nat) (hc : n ≤ c) : RdN ((W.alloc (.cells (cellsN q l) t)).jk kx) (some ⟨g, 0, none⟩) n c q l := by
  subst hg
  subst hn
  refine ⟨by simp, hc, fun _ => ⟨_, 0, rfl, by simp [World.size_jk]; omega, fun i u hi => ?_⟩, fun h => by cases h⟩
  rw [World.cell?_jk, cell_of_row _ _ _ (cellsN q l) _ (0, 0) (heap_alloc_new W _)]
  simpa [cellsN] using hi
end Go
namespace Go.Proofs.YtfdpnephjpcnbaaDoor
open Go.RowKit Go.Sub
theorem infoU8 : ∃ i, Tryd.prog.info? 5 = some i ∧ i.zero = some (.int .u8 0) ∧ i.size = 1 ∧ i.bytes = 1 := by
  have h : (Tryd.prog.info? 5).map (fun i => (i.zero, i.size, i.bytes)) = some (some (.int .u8 0), 1, 1) := by kernel_rfl
  cases hi : Tryd.prog.info? 5 with
  | none => rw [hi] at h; cases h
  | some i =>
    rw [hi] at h
    simp only [Option.map_some, Option.some.injEq, Prod.mk.injEq] at h
    exact ⟨i, rfl, h.1, h.2.1, h.2.2⟩
theorem make_u8 (w : World) (k c : Int) (n m : Nat) (hk : k = n) (hc : c = m) (hnm : n ≤ m) (hn : m < 1000000) :
    (Instr.makeSlice 73 (.int .i64 k) (.int .i64 c)).run Tryd.prog w = .ok (.slice (some ⟨w.heap.size, 0, none⟩) n m) (w.alloc (.cells (cellsN .u8 (List.replicate m 0)) 5)) := by
  obtain ⟨i, hi, hz, hs1, hb⟩ := infoU8
  subst hk
  subst hc
  have := run_make (P := Tryd.prog) w 73 5 i (.int .u8 0) Tryd.underlying73 hi hz .i64 .i64 n m (by omega) (by omega) (by rw [hb]; omega) (by omega)
  rw [this, hs1]
  simp only [Int.toNat_natCast, Nat.mul_one]
  rw [madeCells_N]
theorem make_int (w : World) (k : Int) (n : Nat) (hk : k = n) (hn : n < 1000000) :
    (Instr.makeSlice 26 (.int .i64 k) (.int .i64 k)).run Tryd.prog w = .ok (.slice (some ⟨w.heap.size, 0, none⟩) n n) (w.alloc (.cells (cellsN .i64 (List.replicate n 0)) 3)) := by
  obtain ⟨i, hi, hz, hs1, hb⟩ := infoInt
  subst hk
  have := run_make (P := Tryd.prog) w 26 3 i (.int .i64 0) Tryd.underlying26 hi hz .i64 .i64 n n (by omega) (Int.le_refl _) (by rw [hb]; omega) (by omega)
  rw [this, hs1]
  simp only [Int.toNat_natCast, Nat.mul_one]
  rw [madeCells_N]
end Go.Proofs.YtfdpnephjpcnbaaDoor
set_option linter.unusedVariables false
set_option linter.unusedSimpArgs false
namespace Go.Sub
/-- The three bytes of a sample and its quality. -/
def enc1 (x q : Int) : List Int := [x / 256 % 256, x % 256, q % 256]
def encBody : List Int → List Int → List Int
  | x :: xs, q :: qs => enc1 x q ++ encBody xs qs
  | _, _ => []
def encHead (u c : Int) (n : Nat) : List Int := [136, 186, u / 256, u % 256, c / 256, c % 256, 1, n]
def encL (u c : Int) (xs qs : List Int) : List Int := encHead u c xs.length ++ encBody xs qs
theorem encBody_len (xs qs : List Int) (h : xs.length = qs.length) : (encBody xs qs).length = 3 * xs.length := by
  induction xs generalizing qs with
  | nil => simp [encBody]
  | cons x xs ih =>
    cases qs with
    | nil => simp at h
    | cons q qs =>
      have := ih qs (by simpa using h)
      simp only [encBody, enc1, List.length_append, List.length_cons, List.length_nil, this]
      omega
theorem encL_len (u c : Int) (xs qs : List Int) (h : xs.length = qs.length) : (encL u c xs qs).length = 8 + 3 * xs.length := by
  simp [encL, encHead, encBody_len xs qs h]
  omega
theorem encBody_snoc (xs qs : List Int) (k : Nat) (h : xs.length = qs.length) (hk : k < xs.length) : encBody (xs.take (k + 1)) (qs.take (k + 1)) = encBody (xs.take k) (qs.take k) ++ enc1 (xs.getD k 0) (qs.getD k 0) := by
  induction k generalizing xs qs with
  | zero =>
    cases xs with
    | nil => simp at hk
    | cons x xs =>
      cases qs with
      | nil => simp at h
      | cons q qs => simp [encBody]
  | succ k ih =>
    cases xs with
    | nil => simp at hk
    | cons x xs =>
      cases qs with
      | nil => simp at h
      | cons q qs =>
        have := ih xs qs (by simpa using h) (by simpa using hk)
        simp only [List.take_succ_cons, encBody, this, List.getD_cons_succ, List.append_assoc]
/-- The bytes behind k samples. -/
def encS (u c : Int) (xs qs : List Int) (k : Nat) : List Int := encHead u c xs.length ++ encBody (xs.take k) (qs.take k) ++ List.replicate (3 * (xs.length - k)) 0
theorem encS_len (u c : Int) (xs qs : List Int) (k : Nat) (h : xs.length = qs.length) (hk : k ≤ xs.length) : (encS u c xs qs k).length = 8 + 3 * xs.length := by
  have := encBody_len (xs.take k) (qs.take k) (by simp [h])
  simp only [encS, List.length_append, this, List.length_take, List.length_replicate, encHead, List.length_cons, List.length_nil]
  omega
theorem encS_step (u c : Int) (xs qs : List Int) (k : Nat) (h : xs.length = qs.length) (hk : k < xs.length) : splice (encS u c xs qs k) (8 + 3 * k) (enc1 (xs.getD k 0) (qs.getD k 0)) = encS u c xs qs (k + 1) := by
  have hl : (encHead u c xs.length ++ encBody (xs.take k) (qs.take k)).length = 8 + 3 * k := by
    rw [List.length_append, encBody_len _ _ (by simp [h]), List.length_take]
    simp only [encHead, List.length_cons, List.length_nil]
    omega
  unfold splice encS
  rw [List.take_append_of_le_length (by omega), List.take_of_length_le (by omega), List.drop_append, hl, List.drop_of_length_le (by rw [hl]; omega), List.nil_append, List.drop_replicate, encBody_snoc xs qs k h hk]
  simp only [List.append_assoc]
  congr 4
  simp [enc1]
  omega
theorem encS_last (u c : Int) (xs qs : List Int) (h : xs.length = qs.length) : encS u c xs qs xs.length = encL u c xs qs := by
  unfold encS encL
  rw [List.take_length, h, List.take_length]
  simp
end Go.Sub
namespace Go.Proofs.YtfdpnephjpcnbaaDoor
open Go.RowKit Go.Sub
/-- A slice of bytes of the call's own, and no error. -/
def RetB (l : List Int) (w : World) (e : Ending) (w' : World) : Prop := ∃ g n, e = .returned (.tuple #[Value.slice (some ⟨g, 0, none⟩) n n, Value.int .i64 0]) ∧ Q w w' ∧ RdN w' (some ⟨g, 0, none⟩) n n .u8 l
theorem copy6 (W : World) (m g b : Nat) (s0 s1 s2 s3 s4 s5 : Int) (hg : g = W.heap.size) (hb : b = W.heap.size + 1) :
    (Builtin.copy_ #[73, 73] 3 #[.slice (some ⟨g, 0, none⟩) (8 + m) (8 + m), .slice (some ⟨b, 0, none⟩) 6 6]).run Tryd.prog ((W.alloc (.cells (cellsN .u8 (List.replicate (8 + m) 0)) 5)).alloc (.cells #[.int .u8 s0, .int .u8 s1, .int .u8 s2, .int .u8 s3, .int .u8 s4, .int .u8 s5] 5))
      = .ok (goInt 6) ((W.alloc (.cells (cellsN .u8 ([s0, s1, s2, s3, s4, s5, 0, 0] ++ List.replicate m 0)) 5)).alloc (.cells #[.int .u8 s0, .int .u8 s1, .int .u8 s2, .int .u8 s3, .int .u8 s4, .int .u8 s5] 5)) := by
  have := run_copy_al (P := Tryd.prog) W (.cells (cellsN .u8 [s0, s1, s2, s3, s4, s5]) 5) 73 73 3 5 5 .u8 g 0 (8 + m) (8 + m) 6 6 ⟨b, 0, none⟩ (List.replicate (8 + m) 0) [s0, s1, s2, s3, s4, s5] (by kernel_rfl) (by kernel_rfl) hg (by simp [Nat.min_def]; omega)
    (fun j v h => lit_cell _ _ _ _ _ (by simp [hb]) j v h) (by simp; omega)
  have e : splice (List.replicate (8 + m) 0) 0 [s0, s1, s2, s3, s4, s5] = [s0, s1, s2, s3, s4, s5, 0, 0] ++ List.replicate m 0 := by
    rw [Nat.add_comm]
    simp [splice, List.replicate_succ]
  rw [e] at this
  exact this
theorem copy3 (W : World) (kx : Jk) (cur : List Int) (g b lo d e : Nat) (s0 s1 s2 : Int) (hg : g = W.heap.size) (hb : b = W.heap.size + 1 + kx.os.size) (hd : 3 ≤ d) (hf : lo + 3 ≤ cur.length) :
    (Builtin.copy_ #[73, 73] 3 #[.slice (some ⟨g, lo, none⟩) d e, .slice (some ⟨b, 0, none⟩) 3 3]).run Tryd.prog (((W.alloc (.cells (cellsN .u8 cur) 5)).jk kx).alloc (.cells #[.int .u8 s0, .int .u8 s1, .int .u8 s2] 5))
      = .ok (goInt 3) (((W.alloc (.cells (cellsN .u8 (splice cur lo [s0, s1, s2])) 5)).jk kx).alloc (.cells #[.int .u8 s0, .int .u8 s1, .int .u8 s2] 5)) :=
  run_copy_jk (P := Tryd.prog) W kx (.cells (cellsN .u8 [s0, s1, s2]) 5) 73 73 3 5 5 .u8 g lo d e 3 3 ⟨b, 0, none⟩ cur [s0, s1, s2] (by kernel_rfl) (by kernel_rfl) hg (by simp [Nat.min_def]; omega)
    (fun j v h => lit_cell _ _ _ _ _ (by simp [hb, World.size_jk]) j v h) (by simpa using hf)
set_option maxRecDepth 100000 in
set_option maxHeartbeats 2000000 in
theorem enc_c (u c : Int) (A : Option Addr) (n ca : Nat) (B : Option Addr) (cb : Nat) (xs qs : List Int) (w : World) (hx : RdN w A n ca .i64 xs) (hq : RdN w B n cb .i64 qs)
    (u0 : 0 ≤ u) (u1 : u ≤ 999) (c0 : 0 ≤ c) (c1 : c ≤ 599) (n0 : 1 ≤ n) (n1 : n ≤ 8) (bx : InB (-16383) 16383 xs) (bq : InB 0 255 qs) :
    Calls Tryd.prog 23 #[Value.agg #[Value.int .i64 u, Value.int .i64 c, Value.bool true, Value.slice A n ca, Value.slice B n cb]] w (RetB (encL u c xs qs) w) := by
  have CK : Hid (∀ w' : World, Q w w' → Calls Tryd.prog 21 #[Value.agg #[Value.int .i64 u, Value.int .i64 c, Value.bool true, Value.slice A n ca, Value.slice B n cb]] w' fun e w'' => e = .returned (Value.int .i64 0) ∧ Q w' w'') :=
    Lib.hid fun w' h => scheck_c u c true A n ca B cb xs qs w' (hx.q h) (hq.q h) u0 u1 c0 c1 n0 n1 bx bq
  obtain ⟨ga, oa, rfl, hoa, hca⟩ := hx.at_ (by omega)
  obtain ⟨gb, ob, rfl, hob, hcb⟩ := hq.at_ (by omega)
  have lx := Lib.hid hx.len
  have lq := Lib.hid hq.len
  clear hx hq bx bq
  have hmk := fun w' => make_u8 w' (8 + 3 * (n : Int)) (8 + 3 * (n : Int)) (8 + 3 * n) (8 + 3 * n) (by omega) (by omega) (by omega) (by omega)
  have HC6 := fun W g b s0 s1 s2 s3 s4 s5 => copy6 W (3 * n) g b s0 s1 s2 s3 s4 s5
  go_enter Tryd.func23, Tryd.ntmps23
  go_wp2_with (go_at_call 21; (with_reducible refine (CK.out _ (by repeat' (first | exact Q.refl _ | refine Q.alloc ?_ _ | refine Q.jk ?_ _ | refine Q.drew ?_))).mono ?_); rintro e w' ⟨rfl, kj, rfl⟩)
  clear hmk HC6
  go_loopw [49] (fun i wr => ∃ (k : Nat) (kx : Jk), i = .int .i64 k ∧ k ≤ n ∧ wr = (((w.alloc (.cells #[Value.int .i64 u, Value.int .i64 c, Value.bool true, Value.slice (some ⟨ga, oa, none⟩) n ca, Value.slice (some ⟨gb, ob, none⟩) n cb] 63)).jk kj).alloc (.cells (cellsN .u8 (encS u c xs qs k)) 5)).jk kx) (fun i _ => n - (intOf i).toNat)
  case atStart =>
    have e : ((136 :: 186 :: u / 256 :: u % 256 :: c / 256 :: c % 256 :: 0 :: 0 :: List.replicate (3 * n) (0 : Int)).set 6 1).set 7 (n : Int) = encS u c xs qs 0 := by simp [encS, encHead, encBody, lx.out]
    rw [cellsN_set, cellsN_set, e, World.alloc_as_jk (((w.alloc _).jk _).alloc _)]
    exact ⟨0, _, rfl, Nat.zero_le _, rfl⟩
  case round =>
    obtain ⟨k, kx, rfl, hk, rfl⟩ := hrel
    by_cases hlt : k < n
    · have hax := hca.out k hlt
      have hbq := hcb.out k hlt
      have HS := Lib.hid (encS_step u c xs qs k (by rw [lx.out, lq.out]) (by rw [lx.out]; exact hlt))
      have hl := encS_len u c xs qs k (by rw [lx.out, lq.out]) (by rw [lx.out]; exact hk)
      obtain ⟨x, ex⟩ : ∃ x, xs.getD k 0 = x := ⟨_, rfl⟩
      obtain ⟨q, eq⟩ : ∃ q, qs.getD k 0 = q := ⟨_, rfl⟩
      rw [ex] at hax
      rw [eq] at hbq
      rw [ex, eq] at HS
      rw [lx.out] at hl
      have HL := Lib.hid hl
      obtain ⟨cur, ec⟩ : ∃ cur, encS u c xs qs k = cur := ⟨_, rfl⟩
      rw [ec] at HS HL ⊢
      clear ex eq hl ec
      have E1 : IntKind.i64.wrap (3 * (k : Int)) = 3 * (k : Int) := IntWalk.i64_in _ (by omega)
      have E2 : IntKind.i64.wrap (8 + 3 * (k : Int)) = 8 + 3 * (k : Int) := IntWalk.i64_in _ (by omega)
      have E3 : (8 + 3 * (k : Int)).toNat = 8 + 3 * k := by omega
      have E4 : (0 : Int) ≤ 8 + 3 * (k : Int) := by omega
      have E5 : 8 + 3 * (k : Int) ≤ 8 + 3 * (n : Int) := by omega
      have E6 : 8 + 3 * (k : Int) < 8 + 3 * (n : Int) := by omega
      have E7 : ¬ 3 * n = 3 * k := by omega
      go_wp2_with fail
      go_region_law (refine step_copy rfl _ _ rfl rfl rfl (copy3 _ _ cur _ _ (8 + 3 * k) (8 + 3 * n - (8 + 3 * k)) (8 + 3 * n - (8 + 3 * k)) _ _ _ (by simp only [World.size_jk, World.size_alloc]) (by simp only [World.size_jk, World.size_alloc]) (by omega) (by rw [HL.out]; omega)) ?_)
      clear E1 E2 E3 E4 E5 E6 E7
      go_wp2_with fail
      go_roundw
      case rel =>
        have e : splice cur (8 + 3 * k) [x / 256 % 256, x % 256, q % 256] = encS u c xs qs (k + 1) := HS.out
        rw [e, World.jk_alloc]
        exact ⟨k + 1, _, by go_num, by omega, rfl⟩
      case measure => simp [intOf]; omega
    · obtain rfl : k = n := by omega
      have HE := encS_last u c xs qs (by rw [lx.out, lq.out])
      rw [lx.out] at HE
      have HL := encL_len u c xs qs (by rw [lx.out, lq.out])
      rw [lx.out] at HL
      rw [HE]
      have HL' := Lib.hid HL
      clear HE HL
      go_wp2_with fail
      go_ret2
      refine ⟨w.heap.size + 1 + kj.os.size, 8 + 3 * k, rfl, ?_, rdn_row _ _ _ _ _ _ ?_ _ HL'.out.symm _ (Nat.le_refl _)⟩
      · repeat' (first | exact Q.refl _ | refine Q.alloc ?_ _ | refine Q.jk ?_ _ | refine Q.drew ?_)
      · simp [World.size_jk]
end Go.Proofs.YtfdpnephjpcnbaaDoor
