
/- The ways round a ring with one cut at most reach every node. Plain. -/
import Derived.Test.YtfdpnephjpcnbaaDoorBz01
set_option linter.unusedSimpArgs false
set_option linter.unusedVariables false
namespace Go.Sub
/-- The nodes in direction 0 from a node on, with their hops; f hops are left. -/
def ascL (C : Nat → Bool) (n : Nat) : Nat → Nat → List (Nat × Nat)
  | 0, _ => []
  | f + 1, x => if C x then [] else ((x + 1) % n, n - (f + 1)) :: ascL C n f ((x + 1) % n)
/-- The same in direction 1. -/
def descL (C : Nat → Bool) (n : Nat) : Nat → Nat → List (Nat × Nat)
  | 0, _ => []
  | f + 1, x => if C ((x + n - 1) % n) then [] else ((x + n - 1) % n, n - (f + 1)) :: descL C n f ((x + n - 1) % n)
theorem reach_all : ∀ n, n < 15 → 3 ≤ n → ∀ s, s < n → ∀ p, p < 16 → ∀ j, j < n → (j == s || ((ascL (fun i => i == p) n (n - 1) s).any fun x => x.1 == j) || ((descL (fun i => i == p) n (n - 1) s).any fun x => x.1 == j)) = true := by
  decide +kernel
end Go.Sub
