
/- Harmonics of windows: plain arithmetic. No program in sight. -/
import Derived.Test.YtfdpnephjpcnbaaDoorCyL2
import Derived.Test.YtfdpnephjpcnbaaDoorCyS
namespace Go.Sub
/-- The sum of the first n terms. -/
def sumC (y : Nat → Cy) : Nat → Cy
  | 0 => ⟨0, 0, 0, 0⟩
  | n + 1 => (sumC y n).add (y n)
theorem sumC_in {y : Nat → Cy} {l : Int} (n : Nat) (h : ∀ k, k < n → (y k).In l) : (sumC y n).In (n * l) := by
  induction n with
  | zero => unfold Cy.In sumC; simp
  | succ n ih =>
    have h1 := Cy.add_in (ih fun k hk => h k (by omega)) (h n (by omega))
    refine Cy.In.mono h1 ?_
    have : ((n + 1 : Nat) : Int) * l = n * l + l := by rw [Int.natCast_add, Int.add_mul]; simp
    omega
def Cy.scl (x : Cy) (k : Int) : Cy := ⟨x.a * k, x.b * k, x.c * k, x.d * k⟩
/-- The term k of harmonic h. -/
def hterm (x : Nat → Int) (h : Int) (k : Nat) : Cy := (rootC (-h * k)).scl (x k)
def harm (x : Nat → Int) (h : Int) : Cy := sumC (hterm x h) 12
theorem hterm_in {x : Nat → Int} {h l : Int} {k : Nat} (h1 : -l ≤ x k) (h2 : x k ≤ l) : (hterm x h k).In (2 * l) := by
  obtain ⟨r1, r2, r3, r4, r5, r6, r7, r8⟩ := rootC_in (-h * k)
  have p1 := bd_mul r1 r2 h1 h2
  have p2 := bd_mul r3 r4 h1 h2
  have p3 := bd_mul r5 r6 h1 h2
  have p4 := bd_mul r7 r8 h1 h2
  unfold Cy.In hterm Cy.scl
  dsimp only
  omega
def WinOK (x : Nat → Int) (l : Int) : Prop := ∀ k, k < 12 → -l ≤ x k ∧ x k ≤ l
theorem harm_in {x : Nat → Int} {l : Int} (h : Int) (hx : WinOK x l) : (harm x h).In (24 * l) :=
  Cy.In.mono (sumC_in (l := 2 * l) 12 fun k hk => hterm_in (hx k hk).1 (hx k hk).2) (by omega)
theorem rootC_congr {j k : Int} (h : j % 12 = k % 12) : rootC j = rootC k := by unfold rootC; rw [h]
theorem neg_tmod (h : Int) (k : Nat) : (-(h.tmod 12) * k) % 12 = (-h * k) % 12 := by
  have e : h = 12 * h.tdiv 12 + h.tmod 12 := (Int.mul_tdiv_add_tmod h 12).symm
  generalize h.tdiv 12 = q at e
  generalize h.tmod 12 = r at e ⊢
  subst e
  have : -(12 * q + r) * (k : Int) = -r * k + 12 * (-(q * k)) := by grind
  rw [this, Int.add_mul_emod_self_left]
theorem hterm_tmod (x : Nat → Int) (h : Int) (k : Nat) : hterm x (h.tmod 12) k = hterm x h k := by
  unfold hterm
  rw [rootC_congr (neg_tmod h k)]
theorem harm_tmod (x : Nat → Int) (h : Int) : harm x (h.tmod 12) = harm x h := by
  have : ∀ n, sumC (hterm x (h.tmod 12)) n = sumC (hterm x h) n := by
    intro n
    induction n with
    | zero => rfl
    | succ n ih => unfold sumC; rw [ih, hterm_tmod]
  exact this 12
theorem scaleR_ok {x : Cy} {k : Int} (hx : x.In 1000000) (hk : -1000000000 ≤ k ∧ k ≤ 1000000000) : scaleR x k = ⟨x.scl k, 0⟩ := by
  obtain ⟨r1, r2, r3, r4, r5, r6, r7, r8⟩ := hx
  have p1 := bd_mul r1 r2 hk.1 hk.2
  have p2 := bd_mul r3 r4 hk.1 hk.2
  have p3 := bd_mul r5 r6 hk.1 hk.2
  have p4 := bd_mul r7 r8 hk.1 hk.2
  have h1 : wiB x 576460752303423488 = true := wiB_of ⟨by omega, by omega, by omega, by omega, by omega, by omega, by omega, by omega⟩
  have h2 : brkB 576460752303423488 k = false := by
    simp only [brkB, Bool.or_eq_false_iff, decide_eq_false_iff_not]
    omega
  have h3 : wiB ⟨x.a * k, x.b * k, x.c * k, x.d * k⟩ 576460752303423488 = true := wiB_of ⟨by dsimp only; omega, by dsimp only; omega, by dsimp only; omega, by dsimp only; omega, by dsimp only; omega, by dsimp only; omega, by dsimp only; omega, by dsimp only; omega⟩
  simp [scaleR, limR, h1, h2, h3, Cy.scl]
def enrg (x : Nat → Int) : Nat → Int
  | 0 => 0
  | n + 1 => enrg x n + x n * x n
theorem enrg_bd {x : Nat → Int} (n : Nat) (h : ∀ k, k < n → -16383 ≤ x k ∧ x k ≤ 16383) : 0 ≤ enrg x n ∧ enrg x n ≤ n * 268402689 := by
  induction n with
  | zero => simp [enrg]
  | succ n ih =>
    have h1 := ih fun k hk => h k (by omega)
    have h2 := bd_mul (h n (by omega)).1 (h n (by omega)).2 (h n (by omega)).1 (h n (by omega)).2
    have h3 : 0 ≤ x n * x n := by
      rcases Int.le_total 0 (x n) with g | g
      · exact Int.mul_nonneg g g
      · exact Int.mul_nonneg_of_nonpos_of_nonpos g g
    unfold enrg
    omega
end Go.Sub
