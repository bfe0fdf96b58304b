
/- The plain arithmetic of numbers A + B*sqrt(3), with the errors of the program. No program in sight. -/
import Derived.Test.YtkkjifgcjfbcaaaCyPlain
namespace Go.Sub
def wi4 (l a b c d : Int) : Bool := !(brkB l a) && !(brkB l b) && !(brkB l c) && !(brkB l d)
def wi3 (l a b c : Int) : Bool := !(brkB l a) && !(brkB l b) && !(brkB l c)
def wi2 (l a b : Int) : Bool := !(brkB l a) && !(brkB l b)
theorem wi4_iff (l a b c d : Int) : wi4 l a b c d = true ↔ -l ≤ a ∧ a ≤ l ∧ -l ≤ b ∧ b ≤ l ∧ -l ≤ c ∧ c ≤ l ∧ -l ≤ d ∧ d ≤ l := by
  simp only [wi4, brkB, Bool.and_eq_true, Bool.not_eq_true', Bool.or_eq_false_iff, decide_eq_false_iff_not]
  omega
theorem wi3_iff (l a b c : Int) : wi3 l a b c = true ↔ -l ≤ a ∧ a ≤ l ∧ -l ≤ b ∧ b ≤ l ∧ -l ≤ c ∧ c ≤ l := by
  simp only [wi3, brkB, Bool.and_eq_true, Bool.not_eq_true', Bool.or_eq_false_iff, decide_eq_false_iff_not]
  omega
theorem wi2_iff (l a b : Int) : wi2 l a b = true ↔ -l ≤ a ∧ a ≤ l ∧ -l ≤ b ∧ b ≤ l := by
  simp only [wi2, brkB, Bool.and_eq_true, Bool.not_eq_true', Bool.or_eq_false_iff, decide_eq_false_iff_not]
  omega
def Su.In (x : Su) (l : Int) : Prop := -l ≤ x.a ∧ x.a ≤ l ∧ -l ≤ x.b ∧ x.b ≤ l
def Su.add (x y : Su) : Su := ⟨x.a + y.a, x.b + y.b⟩
def Su.sub (x y : Su) : Su := ⟨x.a - y.a, x.b - y.b⟩
def Su.mul (x y : Su) : Su := ⟨x.a * y.a + 3 * x.b * y.b, x.a * y.b + x.b * y.a⟩
def Su.conj (x : Su) : Su := ⟨x.a, -x.b⟩
def Su.norm (x : Su) : Int := x.a * x.a - 3 * x.b * x.b
def zeroS : Su := ⟨0, 0⟩
def limS (x : Su) : R2 := if wi2 1152921504606846976 x.a x.b then ⟨x, 0⟩ else ⟨zeroS, 2⟩
def saddR (x y : Su) : R2 := if wi4 1152921504606846976 x.a x.b y.a y.b then limS (x.add y) else ⟨zeroS, 1⟩
def ssubR (x y : Su) : R2 := if wi4 1152921504606846976 x.a x.b y.a y.b then limS (x.sub y) else ⟨zeroS, 1⟩
def smulR (x y : Su) : R2 := if wi4 268435456 x.a x.b y.a y.b then limS (x.mul y) else ⟨zeroS, 1⟩
theorem Su.ext' {x y : Su} (h1 : x.a = y.a) (h2 : x.b = y.b) : x = y := by cases x; cases y; simp_all
end Go.Sub
