
/- Small on a number, and what turns, conjugates and sums come to: plain laws. -/
import Derived.Test.YtfdpnephjpcnbaaDoorBz09
import Derived.Test.YtfdpnephjpcnbaaDoorBz03
import Derived.Test.YtfdpnephjpcnbaaDoorBz02
set_option linter.unusedSimpArgs false
set_option linter.unusedVariables false
/- What the helpers of the laws on the ring return: Small, mul, add, conj, known; and the contracts of package cyclo within the limits. -/
namespace Go.Proofs.YtfdpnephjpcnbaaDoor
open Go.RowKit Go.Sub

theorem addR_ok {x y : Cy} (hx : x.In 100000000000000000) (hy : y.In 100000000000000000) : addR x y = ⟨x.add y, 0⟩ := by
  have h1 := wiB_of (hx.mono (show (100000000000000000 : Int) ≤ 576460752303423488 by decide))
  have h2 := wiB_of (hy.mono (show (100000000000000000 : Int) ≤ 576460752303423488 by decide))
  have h3 : wiB (x.add y) 576460752303423488 = true := wiB_of (by unfold Cy.In at *; unfold Cy.add; dsimp only; omega)
  simp [addR, limR, h1, h2, h3]
theorem subR_ok {x y : Cy} (hx : x.In 100000000000000000) (hy : y.In 100000000000000000) : subR x y = ⟨x.sub y, 0⟩ := by
  have h1 := wiB_of (hx.mono (show (100000000000000000 : Int) ≤ 576460752303423488 by decide))
  have h2 := wiB_of (hy.mono (show (100000000000000000 : Int) ≤ 576460752303423488 by decide))
  have h3 : wiB (x.sub y) 576460752303423488 = true := wiB_of (by unfold Cy.In at *; unfold Cy.sub; dsimp only; omega)
  simp [subR, limR, h1, h2, h3]
theorem mulR_ok {x y : Cy} (hx : x.In 268435456) (hy : y.In 268435456) : mulR x y = ⟨x.mul y, 0⟩ := by
  simp [mulR, wiB_of hx, wiB_of hy]
theorem conjR_ok {x : Cy} (hx : x.In 100000000000000000) : conjR x = ⟨x.conj, 0⟩ := by
  have h1 := wiB_of (hx.mono (show (100000000000000000 : Int) ≤ 576460752303423488 by decide))
  have h3 : wiB x.conj 576460752303423488 = true := wiB_of (by unfold Cy.In at *; unfold Cy.conj; dsimp only; omega)
  simp [conjR, limR, h1, h3]
theorem tn_in {x : Cy} {l : Int} (hx : x.In l) : ∀ n, n < 12 → (x.tn n).In (2 * l)
  | 0, _ | 1, _ | 2, _ | 3, _ | 4, _ | 5, _ | 6, _ | 7, _ | 8, _ | 9, _ | 10, _ | 11, _ => by
    unfold Cy.In at *
    simp only [Cy.tn]
    omega
  | _ + 12, h => by omega
theorem turn_in {x : Cy} {l : Int} (k : Int) (hx : x.In l) : (x.turn k).In (2 * l) := tn_in hx _ (by omega)
theorem turnR_ok {x : Cy} (k : Int) (hx : x.In 100000000000000000) : turnR x k = ⟨x.turn k, 0⟩ := by
  have h1 := wiB_of (hx.mono (show (100000000000000000 : Int) ≤ 576460752303423488 by decide))
  have h3 : wiB (x.turn k) 576460752303423488 = true := wiB_of ((turn_in k hx).mono (by decide))
  simp [turnR, limR, h1, h3]
theorem realR_ok {x : Cy} (hx : x.In 100000000000000000) : realR x = ⟨x.real, 0⟩ := by
  simp [realR, wiB_of (hx.mono (show (100000000000000000 : Int) ≤ 144115188075855872 by decide))]
theorem imagR_ok {x : Cy} (hx : x.In 100000000000000000) : imagR x = ⟨x.imag, 0⟩ := by
  simp [imagR, wiB_of (hx.mono (show (100000000000000000 : Int) ≤ 144115188075855872 by decide))]
theorem normR_ok {x : Cy} (hx : x.In 268435456) : normR x = ⟨x.norm, 0⟩ := by
  simp [normR, wiB_of hx]

theorem add_c (x y : Cy) (w : World) (hx : x.In 100000000000000000) (hy : y.In 100000000000000000) : Calls Tryd.prog 38 #[.agg #[.int .i64 x.a, .int .i64 x.b, .int .i64 x.c, .int .i64 x.d], .agg #[.int .i64 y.a, .int .i64 y.b, .int .i64 y.c, .int .i64 y.d]] w fun e w' => e = .returned (.tuple #[.agg #[.int .i64 (x.add y).a, .int .i64 (x.add y).b, .int .i64 (x.add y).c, .int .i64 (x.add y).d], .int .i64 0]) ∧ Q w w' := by
  have h := add_any x.a x.b x.c x.d y.a y.b y.c y.d w
  rw [addR_ok hx hy] at h
  exact h
theorem norm_c (x : Cy) (w : World) (hx : x.In 268435456) : Calls Tryd.prog 33 #[.agg #[.int .i64 x.a, .int .i64 x.b, .int .i64 x.c, .int .i64 x.d]] w fun e w' => e = .returned (.tuple #[.agg #[.int .i64 (x.norm).a, .int .i64 (x.norm).b], .int .i64 0]) ∧ Q w w' := by
  have h := norm_any x.a x.b x.c x.d w
  rw [normR_ok hx] at h
  exact h

end Go.Proofs.YtfdpnephjpcnbaaDoor
/- The laws of the ring, in plain arithmetic. No program in sight. -/
namespace Go.Sub
theorem Cy.mul_comm (x y : Cy) : y.mul x = x.mul y := by
  apply Cy.ext' <;> simp only [Cy.mul] <;> grind
theorem Cy.mul_assoc (x y z : Cy) : x.mul (y.mul z) = (x.mul y).mul z := by
  apply Cy.ext' <;> simp only [Cy.mul] <;> grind
theorem Cy.mul_add (x y z : Cy) : x.mul (y.add z) = (x.mul y).add (x.mul z) := by
  apply Cy.ext' <;> simp only [Cy.mul, Cy.add] <;> grind
theorem Cy.add_comm3 (x y z : Cy) : z.add (y.add x) = (x.add y).add z := by
  apply Cy.ext' <;> simp only [Cy.add] <;> omega
theorem rootC_0 : rootC 0 = ⟨1, 0, 0, 0⟩ := rfl
theorem Cy.mul_root0 (x : Cy) : x.mul (rootC 0) = x := by
  rw [rootC_0]
  apply Cy.ext' <;> simp [Cy.mul]
theorem Cy.add_in {x y : Cy} {l m : Int} (hx : x.In l) (hy : y.In m) : (x.add y).In (l + m) := by
  unfold Cy.In at *; unfold Cy.add; dsimp only; omega
theorem Cy.sub_in {x y : Cy} {l m : Int} (hx : x.In l) (hy : y.In m) : (x.sub y).In (l + m) := by
  unfold Cy.In at *; unfold Cy.sub; dsimp only; omega
theorem Cy.conj_in {x : Cy} {l : Int} (hx : x.In l) : x.conj.In (2 * l) := by
  unfold Cy.In at *; unfold Cy.conj; dsimp only; omega
theorem Cy.mul_in' {x y : Cy} {l m : Int} (hx : x.In l) (hy : y.In m) : (x.mul y).In (6 * (l * m)) := mul_in (prods_of hx hy)
theorem tmod_bd (a : Int) (n : Int) (hn : 0 < n) : -(n - 1) ≤ a.tmod n ∧ a.tmod n ≤ n - 1 := by
  rcases Int.le_total 0 a with h | h
  · rw [Int.tmod_eq_emod_of_nonneg h]
    have h1 := Int.emod_nonneg a (show n ≠ 0 by omega)
    have h2 := Int.emod_lt_of_pos a hn
    omega
  · obtain ⟨b, rfl⟩ : ∃ b, a = -b := ⟨-a, by omega⟩
    rw [Int.neg_tmod, Int.tmod_eq_emod_of_nonneg (show 0 ≤ b by omega)]
    have h1 := Int.emod_nonneg b (show n ≠ 0 by omega)
    have h2 := Int.emod_lt_of_pos b hn
    omega
end Go.Sub
namespace Go.Sub
def smallC (x : Cy) : Cy := ⟨x.a.tmod 4096, x.b.tmod 4096, x.c.tmod 4096, x.d.tmod 4096⟩
theorem smallC_in (x : Cy) : (smallC x).In 4095 := by
  have h1 := tmod_bd x.a 4096 (by decide)
  have h2 := tmod_bd x.b 4096 (by decide)
  have h3 := tmod_bd x.c 4096 (by decide)
  have h4 := tmod_bd x.d 4096 (by decide)
  unfold Cy.In smallC
  dsimp only
  omega
theorem tn_z (x : Cy) : ∀ n : Nat, n < 12 → (x.tn n).z = x.tn ((n + 1) % 12) := by
  intro n hn
  have hn' : n = 0 ∨ n = 1 ∨ n = 2 ∨ n = 3 ∨ n = 4 ∨ n = 5 ∨ n = 6 ∨ n = 7 ∨ n = 8 ∨ n = 9 ∨ n = 10 ∨ n = 11 := by omega
  rcases hn' with rfl | rfl | rfl | rfl | rfl | rfl | rfl | rfl | rfl | rfl | rfl | rfl <;>
    (apply Cy.ext' <;> simp only [Cy.tn, Cy.z, Nat.reduceAdd, Nat.reduceMod] <;> omega)
theorem tn_tn (x : Cy) (i : Nat) (hi : i < 12) (j : Nat) (hj : j < 12) : (x.tn i).tn j = x.tn ((i + j) % 12) := by
  induction j with
  | zero => rw [Nat.add_zero, Nat.mod_eq_of_lt hi]; rfl
  | succ j ih =>
    have h1 := tn_z (x.tn i) j (by omega)
    rw [Nat.mod_eq_of_lt hj] at h1
    rw [← h1, ih (by omega), tn_z x _ (by omega)]
    congr 1
    omega
theorem Cy.turn_turn (x : Cy) (j k : Int) : (x.turn k).turn j = x.turn (j + k) := by
  have h := tn_tn x (k % 12).toNat (by omega) (j % 12).toNat (by omega)
  unfold Cy.turn
  rw [h]
  congr 1
  show ((k % 12).toNat + (j % 12).toNat) % 12 = ((j + k) % 12).toNat
  omega
theorem Cy.turn_zero' (x : Cy) (k : Int) (h : k % 12 = 0) : x.turn k = x := by
  unfold Cy.turn
  rw [h]
  rfl
theorem mul_tn (x : Cy) : ∀ n : Nat, n < 12 → x.mul ((Cy.mk 1 0 0 0).tn n) = x.tn n := by
  intro n hn
  have hn' : n = 0 ∨ n = 1 ∨ n = 2 ∨ n = 3 ∨ n = 4 ∨ n = 5 ∨ n = 6 ∨ n = 7 ∨ n = 8 ∨ n = 9 ∨ n = 10 ∨ n = 11 := by omega
  rcases hn' with rfl | rfl | rfl | rfl | rfl | rfl | rfl | rfl | rfl | rfl | rfl | rfl <;>
    (apply Cy.ext' <;> simp only [Cy.tn, Cy.mul] <;> omega)
theorem Cy.mul_root (x : Cy) (k : Int) : x.mul (rootC k) = x.turn k := mul_tn x _ (by omega)
theorem rootC_in (k : Int) : (rootC k).In 2 := Go.Proofs.YtfdpnephjpcnbaaDoor.turn_in k (x := ⟨1, 0, 0, 0⟩) (l := 1) (by unfold Cy.In; decide)
theorem Cy.balanced (x : Cy) : (x.add (x.turn 4)).add (x.turn 8) = ⟨0, 0, 0, 0⟩ := by
  apply Cy.ext' <;> simp only [Cy.turn, Cy.add, Cy.tn, Int.reduceMod, Int.reduceToNat] <;> omega
theorem Cy.half (x : Cy) : x.add (x.turn 6) = ⟨0, 0, 0, 0⟩ := by
  apply Cy.ext' <;> simp only [Cy.turn, Cy.add, Cy.tn, Int.reduceMod, Int.reduceToNat] <;> omega
theorem Cy.conj_conj (x : Cy) : x.conj.conj = x := by
  apply Cy.ext' <;> simp only [Cy.conj] <;> omega
theorem Cy.conj_mul (x y : Cy) : (x.mul y).conj = x.conj.mul y.conj := by
  apply Cy.ext' <;> simp only [Cy.conj, Cy.mul] <;> grind
theorem Cy.conj_add (x y : Cy) : (x.add y).conj = x.conj.add y.conj := by
  apply Cy.ext' <;> simp only [Cy.conj, Cy.add] <;> omega
theorem Cy.real_conj (x : Cy) : x.conj.real = x.real := by
  simp only [Cy.conj, Cy.real, Su.mk.injEq, and_true]; omega
def Su.eqB (x y : Su) : Bool := x.a == y.a && x.b == y.b
@[go_sem] theorem Su.eqB_self (x : Su) : x.eqB x = true := by simp [Su.eqB]
theorem Su.eqB_of {x y : Su} (h : x = y) : x.eqB y = true := h ▸ Su.eqB_self x
theorem Su.eqB_iff (x y : Su) : x.eqB y = true ↔ x = y := by cases x; cases y; simp [Su.eqB]
end Go.Sub
namespace Go.Proofs.YtfdpnephjpcnbaaDoor
open Go.RowKit Go.Sub
@[go_sem high] theorem eqlSurd (w : World) (a b a' b' : Int) :
    (binOp .eql 99 (.agg #[.int .i64 a, .int .i64 b]) (.agg #[.int .i64 a', .int .i64 b'])).run Tryd.prog w = .ok (.bool (Su.eqB ⟨a, b⟩ ⟨a', b'⟩)) w := by
  simp only [Su.eqB]
  by_cases h : a = a'
  · subst h; by_cases h2 : b = b' <;> simp [go_sem, h2]
  · simp [go_sem, h]
end Go.Proofs.YtfdpnephjpcnbaaDoor
