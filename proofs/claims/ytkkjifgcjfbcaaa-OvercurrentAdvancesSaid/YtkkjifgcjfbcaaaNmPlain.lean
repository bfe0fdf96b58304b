
/- Squared magnitudes: plain laws. No program in sight. -/
import Derived.Test.YtkkjifgcjfbcaaaCyL2
import Derived.Test.YtkkjifgcjfbcaaaSuM
namespace Go.Sub
theorem norm_in {x : Cy} {l : Int} (h : x.In l) : x.norm.In (6 * (l * l)) := by
  have p := prods_of h h
  obtain ⟨h1, h2, h3, h4, h5, h6, h7, h8, h9, h10, h11, h12, h13, h14, h15, h16⟩ := p
  unfold Su.In Cy.norm
  dsimp only
  omega
theorem parallelogram (x y : Cy) : (x.add y).norm.add (x.sub y).norm = ⟨2 * (x.norm.add y.norm).a, 2 * (x.norm.add y.norm).b⟩ := by
  apply Su.ext' <;> simp only [Cy.norm, Cy.add, Cy.sub, Su.add] <;> grind
theorem norm_mul (x y : Cy) : (x.mul y).norm = x.norm.mul y.norm := by
  apply Su.ext' <;> simp only [Cy.norm, Cy.mul, Su.mul] <;> grind
theorem norm_tn (x : Cy) (n : Nat) (hn : n < 12) : (x.tn n).norm = x.norm := by
  have hn' : n = 0 ∨ n = 1 ∨ n = 2 ∨ n = 3 ∨ n = 4 ∨ n = 5 ∨ n = 6 ∨ n = 7 ∨ n = 8 ∨ n = 9 ∨ n = 10 ∨ n = 11 := by omega
  rcases hn' with rfl | rfl | rfl | rfl | rfl | rfl | rfl | rfl | rfl | rfl | rfl | rfl <;>
    (apply Su.ext' <;> simp only [Cy.norm, Cy.tn] <;> grind)
theorem norm_turn (x : Cy) (k : Int) : (x.turn k).norm = x.norm := norm_tn x _ (by omega)
theorem real_norm (x : Cy) : (x.mul x.conj).real = ⟨2 * x.norm.a, 2 * x.norm.b⟩ := by
  apply Su.ext' <;> simp only [Cy.norm, Cy.mul, Cy.conj, Cy.real] <;> grind
/-- The square root of 3 is no fraction. -/
theorem sq3_nat (n : Nat) : ∀ a b : Nat, a < n → a * a = 3 * (b * b) → a = 0 := by
  induction n with
  | zero => intro a b h; omega
  | succ n ih =>
    intro a b ha h
    have h3 : a % 3 = 0 := by
      have h1 : a * a % 3 = 0 := by rw [h]; omega
      rw [Nat.mul_mod] at h1
      have : a % 3 = 0 ∨ a % 3 = 1 ∨ a % 3 = 2 := by omega
      rcases this with e | e | e <;> rw [e] at h1 <;> simp_all
    obtain ⟨c, rfl⟩ : ∃ c, a = 3 * c := ⟨a / 3, by omega⟩
    have h4 : b * b = 3 * (c * c) := by
      have : 3 * c * (3 * c) = 9 * (c * c) := by grind
      omega
    rcases Nat.eq_zero_or_pos c with rfl | hc
    · rfl
    · have hb : b < 3 * c := by
        rcases Nat.lt_or_ge b (3 * c) with h | h
        · exact h
        · have := Nat.mul_le_mul h h
          have e : 3 * c * (3 * c) = 9 * (c * c) := by grind
          have : 0 < c * c := Nat.mul_pos hc hc
          omega
      have hb0 := ih b c (by omega) h4
      subst hb0
      have : 0 < c * c := Nat.mul_pos hc hc
      omega
theorem sq3 (a b : Int) (h : a * a = 3 * (b * b)) : a = 0 ∧ b = 0 := by
  have h1 : a.natAbs * a.natAbs = 3 * (b.natAbs * b.natAbs) := by
    have := congrArg Int.natAbs h
    simpa [Int.natAbs_mul] using this
  have ha := sq3_nat (a.natAbs + 1) a.natAbs b.natAbs (by omega) h1
  have ha' : a = 0 := Int.natAbs_eq_zero.1 ha
  subst ha'
  have : b * b = 0 := by omega
  exact ⟨rfl, by rcases Int.mul_eq_zero.1 this with h | h <;> exact h⟩
theorem sq_nonneg (a : Int) : 0 ≤ a * a := by
  rcases Int.le_total 0 a with h | h
  · exact Int.mul_nonneg h h
  · have := Int.mul_nonneg (show 0 ≤ -a by omega) (show 0 ≤ -a by omega); rwa [Int.neg_mul_neg] at this
theorem sq_zero {a : Int} (h : a * a = 0) : a = 0 := by rcases Int.mul_eq_zero.1 h with h | h <;> exact h
theorem mag_sq (n : Int) : mag n * mag n = n * n := by
  unfold mag
  split
  · exact Int.neg_mul_neg n n
  · rfl
theorem norm_pos (x : Cy) (h : x ≠ ⟨0, 0, 0, 0⟩) : 0 < x.norm.a := by
  have e : 4 * x.norm.a = (2 * x.a + x.c) * (2 * x.a + x.c) + 3 * (x.c * x.c) + (2 * x.b + x.d) * (2 * x.b + x.d) + 3 * (x.d * x.d) := by
    simp only [Cy.norm]; grind
  have h1 := sq_nonneg (2 * x.a + x.c)
  have h2 := sq_nonneg x.c
  have h3 := sq_nonneg (2 * x.b + x.d)
  have h4 := sq_nonneg x.d
  rcases Int.lt_or_le 0 x.norm.a with hp | hp
  · exact hp
  · exfalso
    have c0 := sq_zero (show x.c * x.c = 0 by omega)
    have d0 := sq_zero (show x.d * x.d = 0 by omega)
    have a0 := sq_zero (show (2 * x.a + x.c) * (2 * x.a + x.c) = 0 by omega)
    have b0 := sq_zero (show (2 * x.b + x.d) * (2 * x.b + x.d) = 0 by omega)
    exact h (Cy.ext' (show x.a = 0 by omega) (show x.b = 0 by omega) c0 d0)
theorem norm_field (x : Cy) : x.norm.a * x.norm.a - 3 * (x.norm.b * x.norm.b) =
    (x.a*x.a + x.a*x.c + x.c*x.c - (x.b*x.b + x.b*x.d + x.d*x.d)) * (x.a*x.a + x.a*x.c + x.c*x.c - (x.b*x.b + x.b*x.d + x.d*x.d)) +
    (x.a*x.b + 2*x.a*x.d - x.b*x.c + x.c*x.d) * (x.a*x.b + 2*x.a*x.d - x.b*x.c + x.c*x.d) := by
  simp only [Cy.norm]; grind
theorem sgn_norm (x : Cy) (h : x ≠ ⟨0, 0, 0, 0⟩) : sgnS x.norm = 1 := by
  have ha := norm_pos x h
  have hs : sgn x.norm.a = 1 := by unfold sgn; rw [if_neg (by omega), if_pos ha]
  have hf := norm_field x
  have q1 := sq_nonneg (x.a*x.a + x.a*x.c + x.c*x.c - (x.b*x.b + x.b*x.d + x.d*x.d))
  have q2 := sq_nonneg (x.a*x.b + 2*x.a*x.d - x.b*x.c + x.c*x.d)
  have hle : 3 * (x.norm.b * x.norm.b) ≤ x.norm.a * x.norm.a := by omega
  have hne : x.norm.a * x.norm.a ≠ 3 * (x.norm.b * x.norm.b) := fun e => by have := (sq3 _ _ e).1; omega
  have hlt : 3 * mag x.norm.b * mag x.norm.b < mag x.norm.a * mag x.norm.a := by
    rw [Int.mul_assoc, mag_sq, mag_sq]; omega
  unfold sgnS
  rw [hs]
  simp [hlt]
theorem sgn_norm0 (x : Cy) (h : x = ⟨0, 0, 0, 0⟩) : sgnS x.norm = 0 := by subst h; decide
end Go.Sub
