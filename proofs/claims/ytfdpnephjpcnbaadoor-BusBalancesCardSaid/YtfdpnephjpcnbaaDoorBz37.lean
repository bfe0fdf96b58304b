
/- What Neg, Add and Sub of package substationref01, and combined and Versus of substationref02 return. -/
import Derived.Test.YtfdpnephjpcnbaaDoorBz32
import Derived.Test.YtfdpnephjpcnbaaDoorBz36
import Derived.Test.YtfdpnephjpcnbaaDoorBz25
set_option linter.unusedSimpArgs false
set_option linter.unusedVariables false
namespace Go
theorem World.alloc_jk (W : World) (k : Jk) (o : Obj) : (W.jk k).alloc o = W.jk ⟨k.os.push o, k.n⟩ := by
  unfold World.jk World.alloc
  congr 1
  simp
theorem Rd.swap5 {W W' : World} {k k2 k3 k4 k5 : Jk} {A : Option Addr} {n c : Nat} {l : List Int} (hs : W.heap.size = W'.heap.size) (h : Rd (((((W.jk k).jk k2).jk k3).jk k4).jk k5) A n c l) (hf : Fr W A) : Rd (((((W'.jk k).jk k2).jk k3).jk k4).jk k5) A n c l := by
  rw [World.jk_jk] at *
  exact h.swap4 hs hf
end Go
namespace Go.Sub
theorem neg_sgn {y : Int} (l : List Int) (hl : l = dig y.natAbs) : ((!(decide (y < 0))) && decide (l ≠ [])) = decide (-y < 0) := by
  have e : (l ≠ []) ↔ y ≠ 0 := by rw [hl, Ne, dig_nil]; omega
  rw [Bool.eq_iff_iff]
  simp only [Bool.and_eq_true, Bool.not_eq_true', decide_eq_false_iff_not, decide_eq_true_eq, e]
  omega
theorem ne_nil_iff {n : Nat} : dig n ≠ [] ↔ n ≠ 0 := by rw [Ne, dig_nil]
/-- What Versus returns. -/
def versR (x : Su) (j : Int) (y : Su) (k : Int) : Int × Int := if wi4 1152921504606846976 x.a x.b y.a y.b && wi2 1073741824 j k then (versS x j y k, 0) else (0, 1)
end Go.Sub
namespace Go.Proofs.YtfdpnephjpcnbaaDoor
open Go.RowKit Go.Sub
end Go.Proofs.YtfdpnephjpcnbaaDoor
