
/- Small on a number, and what turns, conjugates and sums come to: plain laws. -/
import Derived.Test.YtkkjifgcjfbcaaaCyL1
import Derived.Test.YtkkjifgcjfbcaaaCyLaws
namespace Go.Sub
def smallC (x : Cy) : Cy := ⟨x.a.tmod 4096, x.b.tmod 4096, x.c.tmod 4096, x.d.tmod 4096⟩
theorem smallC_in (x : Cy) : (smallC x).In 4095 := by
  have h1 := tmod_bd x.a 4096 (by decide)
  have h2 := tmod_bd x.b 4096 (by decide)
  have h3 := tmod_bd x.c 4096 (by decide)
  have h4 := tmod_bd x.d 4096 (by decide)
  unfold Cy.In smallC
  dsimp only
  omega
theorem tn_z (x : Cy) : ∀ n : Nat, n < 12 → (x.tn n).z = x.tn ((n + 1) % 12) := by
  intro n hn
  have hn' : n = 0 ∨ n = 1 ∨ n = 2 ∨ n = 3 ∨ n = 4 ∨ n = 5 ∨ n = 6 ∨ n = 7 ∨ n = 8 ∨ n = 9 ∨ n = 10 ∨ n = 11 := by omega
  rcases hn' with rfl | rfl | rfl | rfl | rfl | rfl | rfl | rfl | rfl | rfl | rfl | rfl <;>
    (apply Cy.ext' <;> simp only [Cy.tn, Cy.z, Nat.reduceAdd, Nat.reduceMod] <;> omega)
theorem tn_tn (x : Cy) (i : Nat) (hi : i < 12) (j : Nat) (hj : j < 12) : (x.tn i).tn j = x.tn ((i + j) % 12) := by
  induction j with
  | zero => rw [Nat.add_zero, Nat.mod_eq_of_lt hi]; rfl
  | succ j ih =>
    have h1 := tn_z (x.tn i) j (by omega)
    rw [Nat.mod_eq_of_lt hj] at h1
    rw [← h1, ih (by omega), tn_z x _ (by omega)]
    congr 1
    omega
theorem Cy.turn_turn (x : Cy) (j k : Int) : (x.turn k).turn j = x.turn (j + k) := by
  have h := tn_tn x (k % 12).toNat (by omega) (j % 12).toNat (by omega)
  unfold Cy.turn
  rw [h]
  congr 1
  show ((k % 12).toNat + (j % 12).toNat) % 12 = ((j + k) % 12).toNat
  omega
theorem Cy.turn_zero' (x : Cy) (k : Int) (h : k % 12 = 0) : x.turn k = x := by
  unfold Cy.turn
  rw [h]
  rfl
theorem mul_tn (x : Cy) : ∀ n : Nat, n < 12 → x.mul ((Cy.mk 1 0 0 0).tn n) = x.tn n := by
  intro n hn
  have hn' : n = 0 ∨ n = 1 ∨ n = 2 ∨ n = 3 ∨ n = 4 ∨ n = 5 ∨ n = 6 ∨ n = 7 ∨ n = 8 ∨ n = 9 ∨ n = 10 ∨ n = 11 := by omega
  rcases hn' with rfl | rfl | rfl | rfl | rfl | rfl | rfl | rfl | rfl | rfl | rfl | rfl <;>
    (apply Cy.ext' <;> simp only [Cy.tn, Cy.mul] <;> omega)
theorem Cy.mul_root (x : Cy) (k : Int) : x.mul (rootC k) = x.turn k := mul_tn x _ (by omega)
theorem rootC_in (k : Int) : (rootC k).In 2 := Go.Proofs.Ytkkjifgcjfbcaaa.turn_in k (x := ⟨1, 0, 0, 0⟩) (l := 1) (by unfold Cy.In; decide)
theorem Cy.balanced (x : Cy) : (x.add (x.turn 4)).add (x.turn 8) = ⟨0, 0, 0, 0⟩ := by
  apply Cy.ext' <;> simp only [Cy.turn, Cy.add, Cy.tn, Int.reduceMod, Int.reduceToNat] <;> omega
theorem Cy.half (x : Cy) : x.add (x.turn 6) = ⟨0, 0, 0, 0⟩ := by
  apply Cy.ext' <;> simp only [Cy.turn, Cy.add, Cy.tn, Int.reduceMod, Int.reduceToNat] <;> omega
theorem Cy.conj_conj (x : Cy) : x.conj.conj = x := by
  apply Cy.ext' <;> simp only [Cy.conj] <;> omega
theorem Cy.conj_mul (x y : Cy) : (x.mul y).conj = x.conj.mul y.conj := by
  apply Cy.ext' <;> simp only [Cy.conj, Cy.mul] <;> grind
theorem Cy.conj_add (x y : Cy) : (x.add y).conj = x.conj.add y.conj := by
  apply Cy.ext' <;> simp only [Cy.conj, Cy.add] <;> omega
theorem Cy.real_conj (x : Cy) : x.conj.real = x.real := by
  simp only [Cy.conj, Cy.real, Su.mk.injEq, and_true]; omega
def Su.eqB (x y : Su) : Bool := x.a == y.a && x.b == y.b
@[go_sem] theorem Su.eqB_self (x : Su) : x.eqB x = true := by simp [Su.eqB]
theorem Su.eqB_of {x y : Su} (h : x = y) : x.eqB y = true := h ▸ Su.eqB_self x
theorem Su.eqB_iff (x y : Su) : x.eqB y = true ↔ x = y := by cases x; cases y; simp [Su.eqB]
end Go.Sub
namespace Go.Proofs.Ytkkjifgcjfbcaaa
open Go.RowKit Go.Sub
@[go_sem high] theorem eqlSurd (w : World) (a b a' b' : Int) :
    (binOp .eql 23 (.agg #[.int .i64 a, .int .i64 b]) (.agg #[.int .i64 a', .int .i64 b'])).run Try.prog w = .ok (.bool (Su.eqB ⟨a, b⟩ ⟨a', b'⟩)) w := by
  simp only [Su.eqB]
  by_cases h : a = a'
  · subst h; by_cases h2 : b = b' <;> simp [go_sem, h2]
  · simp [go_sem, h]
end Go.Proofs.Ytkkjifgcjfbcaaa
