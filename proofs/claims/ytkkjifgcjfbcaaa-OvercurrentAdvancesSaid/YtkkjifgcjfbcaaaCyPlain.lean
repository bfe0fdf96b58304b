
/- The plain arithmetic of the cyclotomic ring: numbers with four coefficients, with the errors of the program. No program in sight. -/
import Derived.WalkKit
namespace Go.Sub

/-- A number of the ring. -/
structure Cy where
  a : Int
  b : Int
  c : Int
  d : Int
theorem Cy.ext' {x y : Cy} (h1 : x.a = y.a) (h2 : x.b = y.b) (h3 : x.c = y.c) (h4 : x.d = y.d) : x = y := by
  cases x; cases y; simp_all
theorem Cy.eta (x : Cy) : Cy.mk x.a x.b x.c x.d = x := rfl
/-- A number and an error. -/
structure R4 where
  v : Cy
  e : Int
/-- Surds. -/
structure Su where
  a : Int
  b : Int
structure R2 where
  v : Su
  e : Int
def brkB (l n : Int) : Bool := decide (n < -l) || decide (l < n)
def wiB (x : Cy) (l : Int) : Bool := !(brkB l x.a) && !(brkB l x.b) && !(brkB l x.c) && !(brkB l x.d)
def Cy.In (x : Cy) (l : Int) : Prop := -l ≤ x.a ∧ x.a ≤ l ∧ -l ≤ x.b ∧ x.b ≤ l ∧ -l ≤ x.c ∧ x.c ≤ l ∧ -l ≤ x.d ∧ x.d ≤ l
theorem wiB_iff (x : Cy) (l : Int) : wiB x l = true ↔ x.In l := by
  simp only [wiB, brkB, Cy.In, Bool.and_eq_true, Bool.not_eq_true', Bool.or_eq_false_iff, decide_eq_false_iff_not]
  omega
theorem wiB_of {x : Cy} {l : Int} (h : x.In l) : wiB x l = true := (wiB_iff x l).2 h
theorem wiB_in {x : Cy} {l : Int} (h : wiB x l = true) : x.In l := (wiB_iff x l).1 h
theorem Cy.In.mono {x : Cy} {l m : Int} (h : x.In l) (hm : l ≤ m) : x.In m := by unfold Cy.In at *; omega
theorem wiB_mk {a b c d l : Int} (h1 : -l ≤ a) (h2 : a ≤ l) (h3 : -l ≤ b) (h4 : b ≤ l) (h5 : -l ≤ c) (h6 : c ≤ l) (h7 : -l ≤ d) (h8 : d ≤ l) : wiB ⟨a, b, c, d⟩ l = true :=
  wiB_of ⟨h1, h2, h3, h4, h5, h6, h7, h8⟩

def zeroC : Cy := ⟨0, 0, 0, 0⟩
def limR (x : Cy) : R4 := if wiB x 576460752303423488 then ⟨x, 0⟩ else ⟨zeroC, 2⟩
def Cy.add (x y : Cy) : Cy := ⟨x.a + y.a, x.b + y.b, x.c + y.c, x.d + y.d⟩
def Cy.sub (x y : Cy) : Cy := ⟨x.a - y.a, x.b - y.b, x.c - y.c, x.d - y.d⟩
def Cy.neg (x : Cy) : Cy := ⟨-x.a, -x.b, -x.c, -x.d⟩
def Cy.smul (k : Int) (x : Cy) : Cy := ⟨k * x.a, k * x.b, k * x.c, k * x.d⟩
def Cy.mul (x y : Cy) : Cy :=
  ⟨x.a*y.a - (x.b*y.d + x.c*y.c + x.d*y.b) - x.d*y.d, x.a*y.b + x.b*y.a - (x.c*y.d + x.d*y.c),
   x.a*y.c + x.b*y.b + x.c*y.a + (x.b*y.d + x.c*y.c + x.d*y.b), x.a*y.d + x.b*y.c + x.c*y.b + x.d*y.a + (x.c*y.d + x.d*y.c)⟩
def Cy.conj (x : Cy) : Cy := ⟨x.a + x.c, x.b, -x.c, -x.b - x.d⟩
/-- Times z. -/
def Cy.z (x : Cy) : Cy := ⟨-x.d, x.a, x.b + x.d, x.c⟩
/-- Times z^k. -/
def Cy.tn (x : Cy) : Nat → Cy
  | 0 => x
  | 1 => ⟨-x.d, x.a, x.b + x.d, x.c⟩
  | 2 => ⟨-x.c, -x.d, x.a + x.c, x.b + x.d⟩
  | 3 => ⟨-x.b - x.d, -x.c, x.b, x.a + x.c⟩
  | 4 => ⟨-x.a - x.c, -x.b - x.d, x.a, x.b⟩
  | 5 => ⟨-x.b, -x.a - x.c, -x.d, x.a⟩
  | 6 => ⟨-x.a, -x.b, -x.c, -x.d⟩
  | 7 => ⟨x.d, -x.a, -x.b - x.d, -x.c⟩
  | 8 => ⟨x.c, x.d, -x.a - x.c, -x.b - x.d⟩
  | 9 => ⟨x.b + x.d, x.c, -x.b, -x.a - x.c⟩
  | 10 => ⟨x.a + x.c, x.b + x.d, -x.a, -x.b⟩
  | 11 => ⟨x.b, x.a + x.c, x.d, -x.a⟩
  | _ => x
def Cy.turn (x : Cy) (k : Int) : Cy := x.tn (k % 12).toNat
def rootC (k : Int) : Cy := (Cy.mk 1 0 0 0).tn (k % 12).toNat
def addR (x y : Cy) : R4 := if wiB x 576460752303423488 && wiB y 576460752303423488 then limR (x.add y) else ⟨zeroC, 1⟩
def subR (x y : Cy) : R4 := if wiB x 576460752303423488 && wiB y 576460752303423488 then limR (x.sub y) else ⟨zeroC, 1⟩
def mulR (x y : Cy) : R4 := if wiB x 268435456 && wiB y 268435456 then ⟨x.mul y, 0⟩ else ⟨zeroC, 1⟩
def turnR (x : Cy) (k : Int) : R4 := if wiB x 576460752303423488 then limR (x.turn k) else ⟨zeroC, 1⟩
def conjR (x : Cy) : R4 := if wiB x 576460752303423488 then limR x.conj else ⟨zeroC, 1⟩
def Cy.real (x : Cy) : Su := ⟨2 * x.a + x.c, x.b⟩
def Cy.imag (x : Cy) : Su := ⟨x.b + 2 * x.d, x.c⟩
def Cy.norm (x : Cy) : Su := ⟨x.a*x.a + x.b*x.b + x.c*x.c + x.d*x.d + x.a*x.c + x.b*x.d, x.a*x.b + x.b*x.c + x.c*x.d⟩
def realR (x : Cy) : R2 := if wiB x 144115188075855872 then ⟨x.real, 0⟩ else ⟨⟨0, 0⟩, 1⟩
def imagR (x : Cy) : R2 := if wiB x 144115188075855872 then ⟨x.imag, 0⟩ else ⟨⟨0, 0⟩, 1⟩
def normR (x : Cy) : R2 := if wiB x 268435456 then ⟨x.norm, 0⟩ else ⟨⟨0, 0⟩, 1⟩

theorem bd_mul {a b n m : Int} (h : -n ≤ a) (h' : a ≤ n) (k : -m ≤ b) (k' : b ≤ m) : -(n*m) ≤ a*b ∧ a*b ≤ n*m := by
  have hn : 0 ≤ n := by omega
  have hm : 0 ≤ m := by omega
  rcases Int.le_total 0 a with ha | ha
  · rcases Int.le_total 0 b with hb | hb
    · have h1 := Int.mul_le_mul h' k' hb hn
      have h2 := Int.mul_nonneg ha hb
      have h3 := Int.mul_nonneg hn hm
      omega
    · have h1 := Int.mul_le_mul h' (show -b ≤ m by omega) (show 0 ≤ -b by omega) hn
      have h2 := Int.mul_nonneg ha (show 0 ≤ -b by omega)
      rw [Int.mul_neg] at h1 h2
      have h3 := Int.mul_nonneg hn hm
      omega
  · rcases Int.le_total 0 b with hb | hb
    · have h1 := Int.mul_le_mul (show -a ≤ n by omega) k' hb hn
      have h2 := Int.mul_nonneg (show 0 ≤ -a by omega) hb
      rw [Int.neg_mul] at h1 h2
      have h3 := Int.mul_nonneg hn hm
      omega
    · have h1 := Int.mul_le_mul (show -a ≤ n by omega) (show -b ≤ m by omega) (show 0 ≤ -b by omega) hn
      have h2 := Int.mul_nonneg (show 0 ≤ -a by omega) (show 0 ≤ -b by omega)
      rw [Int.neg_mul_neg] at h1 h2
      have h3 := Int.mul_nonneg hn hm
      omega

/-- The sixteen products of two numbers lie in a range. -/
structure Prods (x y : Cy) (B : Int) : Prop where
  aa : -B ≤ x.a * y.a ∧ x.a * y.a ≤ B
  ab : -B ≤ x.a * y.b ∧ x.a * y.b ≤ B
  ac : -B ≤ x.a * y.c ∧ x.a * y.c ≤ B
  ad : -B ≤ x.a * y.d ∧ x.a * y.d ≤ B
  ba : -B ≤ x.b * y.a ∧ x.b * y.a ≤ B
  bb : -B ≤ x.b * y.b ∧ x.b * y.b ≤ B
  bc : -B ≤ x.b * y.c ∧ x.b * y.c ≤ B
  bd : -B ≤ x.b * y.d ∧ x.b * y.d ≤ B
  ca : -B ≤ x.c * y.a ∧ x.c * y.a ≤ B
  cb : -B ≤ x.c * y.b ∧ x.c * y.b ≤ B
  cc : -B ≤ x.c * y.c ∧ x.c * y.c ≤ B
  cd : -B ≤ x.c * y.d ∧ x.c * y.d ≤ B
  da : -B ≤ x.d * y.a ∧ x.d * y.a ≤ B
  db : -B ≤ x.d * y.b ∧ x.d * y.b ≤ B
  dc : -B ≤ x.d * y.c ∧ x.d * y.c ≤ B
  dd : -B ≤ x.d * y.d ∧ x.d * y.d ≤ B
theorem prods_of {x y : Cy} {n m : Int} (hx : x.In n) (hy : y.In m) : Prods x y (n * m) := by
  obtain ⟨h1, h2, h3, h4, h5, h6, h7, h8⟩ := hx
  obtain ⟨k1, k2, k3, k4, k5, k6, k7, k8⟩ := hy
  constructor <;> (apply bd_mul <;> assumption)
theorem mul_in {x y : Cy} {B : Int} (h : Prods x y B) : (x.mul y).In (6 * B) := by
  obtain ⟨h1, h2, h3, h4, h5, h6, h7, h8, h9, h10, h11, h12, h13, h14, h15, h16⟩ := h
  unfold Cy.In Cy.mul
  refine ⟨?_, ?_, ?_, ?_, ?_, ?_, ?_, ?_⟩ <;> dsimp only <;> omega
theorem dz_cases (k : Int) : k % 12 = 0 ∨ k % 12 = 1 ∨ k % 12 = 2 ∨ k % 12 = 3 ∨ k % 12 = 4 ∨ k % 12 = 5 ∨ k % 12 = 6 ∨ k % 12 = 7 ∨ k % 12 = 8 ∨ k % 12 = 9 ∨ k % 12 = 10 ∨ k % 12 = 11 := by omega
end Go.Sub
