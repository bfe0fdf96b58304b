
/- The order of the numbers a + b * sqrt(3). No program in sight. -/
import Derived.Test.YtkkjifgcjfbcaaaNmPlain
namespace Go.Sub
theorem sq_le_of {p q : Int} (hq : 0 ≤ q) (h : p * p ≤ q * q) : p ≤ q := by
  rcases Int.lt_or_le q p with h1 | h1
  · have h2 := Int.mul_le_mul (show q + 1 ≤ p by omega) (show q + 1 ≤ p by omega) (by omega) (by omega)
    have e : (q + 1) * (q + 1) = q * q + 2 * q + 1 := by grind
    omega
  · exact h1
theorem sq_lt_of {p q : Int} (hq : 0 ≤ q) (h : p * p < q * q) : p < q := by
  rcases Int.lt_or_le p q with h1 | h1
  · exact h1
  · have := Int.mul_le_mul h1 h1 hq (by omega)
    omega
theorem sq_le_sq {p q : Int} (hp : 0 ≤ p) (h : p ≤ q) : p * p ≤ q * q := Int.mul_le_mul h h hp (by omega)
/-- p ≤ q * sqrt(3), for p, q that are not negative: products. -/
theorem low_mul {p q c d : Int} (_ : 0 ≤ p) (hq : 0 ≤ q) (hc : 0 ≤ c) (hd : 0 ≤ d) (h1 : p * p ≤ 3 * (q * q)) (h2 : c * c ≤ 3 * (d * d)) : p * c ≤ 3 * (q * d) := by
  have hqd := Int.mul_nonneg hq hd
  refine sq_le_of (by omega) ?_
  have h3 := Int.mul_le_mul h1 h2 (Int.mul_nonneg hc hc) (by have := Int.mul_nonneg hq hq; omega)
  have e1 : p * c * (p * c) = p * p * (c * c) := by grind
  have e2 : 3 * (q * d) * (3 * (q * d)) = 3 * (q * q) * (3 * (d * d)) := by grind
  rw [e1, e2]
  exact h3
theorem up_mul {p q c d : Int} (hp : 0 ≤ p) (hq : 0 ≤ q) (hc : 0 ≤ c) (hd : 0 ≤ d) (h1 : 3 * (q * q) ≤ p * p) (h2 : 3 * (d * d) ≤ c * c) : 3 * (q * d) ≤ p * c := by
  have hqd := Int.mul_nonneg hq hd
  refine sq_le_of (Int.mul_nonneg hp hc) ?_
  have h3 := Int.mul_le_mul h1 h2 (by have := Int.mul_nonneg hd hd; omega) (Int.mul_nonneg hp hp)
  have e1 : p * c * (p * c) = p * p * (c * c) := by grind
  have e2 : 3 * (q * d) * (3 * (q * d)) = 3 * (q * q) * (3 * (d * d)) := by grind
  rw [e1, e2]
  exact h3
theorem low_add {p q c d : Int} (hp : 0 ≤ p) (hq : 0 ≤ q) (hc : 0 ≤ c) (hd : 0 ≤ d) (h1 : p * p ≤ 3 * (q * q)) (h2 : c * c ≤ 3 * (d * d)) : (p + c) * (p + c) ≤ 3 * ((q + d) * (q + d)) := by
  have h3 := low_mul hp hq hc hd h1 h2
  have e1 : (p + c) * (p + c) = p * p + 2 * (p * c) + c * c := by grind
  have e2 : (q + d) * (q + d) = q * q + 2 * (q * d) + d * d := by grind
  rw [e1, e2]
  omega
theorem low_add' {p q c d : Int} (hp : 0 ≤ p) (hq : 0 ≤ q) (hc : 0 ≤ c) (hd : 0 ≤ d) (h1 : p * p < 3 * (q * q)) (h2 : c * c ≤ 3 * (d * d)) : (p + c) * (p + c) < 3 * ((q + d) * (q + d)) := by
  have h3 := low_mul hp hq hc hd (Int.le_of_lt h1) h2
  have e1 : (p + c) * (p + c) = p * p + 2 * (p * c) + c * c := by grind
  have e2 : (q + d) * (q + d) = q * q + 2 * (q * d) + d * d := by grind
  rw [e1, e2]
  omega
theorem up_add {p q c d : Int} (hp : 0 ≤ p) (hq : 0 ≤ q) (hc : 0 ≤ c) (hd : 0 ≤ d) (h1 : 3 * (q * q) ≤ p * p) (h2 : 3 * (d * d) ≤ c * c) : 3 * ((q + d) * (q + d)) ≤ (p + c) * (p + c) := by
  have h3 := up_mul hp hq hc hd h1 h2
  have e1 : (p + c) * (p + c) = p * p + 2 * (p * c) + c * c := by grind
  have e2 : (q + d) * (q + d) = q * q + 2 * (q * d) + d * d := by grind
  rw [e1, e2]
  omega
theorem up_add' {p q c d : Int} (hp : 0 ≤ p) (hq : 0 ≤ q) (hc : 0 ≤ c) (hd : 0 ≤ d) (h1 : 3 * (q * q) < p * p) (h2 : 3 * (d * d) ≤ c * c) : 3 * ((q + d) * (q + d)) < (p + c) * (p + c) := by
  have h3 := up_mul hp hq hc hd (Int.le_of_lt h1) h2
  have e1 : (p + c) * (p + c) = p * p + 2 * (p * c) + c * c := by grind
  have e2 : (q + d) * (q + d) = q * q + 2 * (q * d) + d * d := by grind
  rw [e1, e2]
  omega
/-- a + b * sqrt(3) is not negative. -/
def Nn (a b : Int) : Prop := (0 ≤ a ∧ 0 ≤ b) ∨ (0 ≤ a ∧ b ≤ 0 ∧ 3 * (b * b) ≤ a * a) ∨ (a ≤ 0 ∧ 0 ≤ b ∧ a * a ≤ 3 * (b * b))
theorem sgn_neg {n : Int} (h : n < 0) : sgn n = -1 := if_pos h
theorem sgn_zero : sgn 0 = 0 := rfl
theorem sgn_pos {n : Int} (h : 0 < n) : sgn n = 1 := by unfold sgn; rw [if_neg (by omega), if_pos h]
/-- The sign, by cases. -/
theorem sgnS_eq (x : Su) : sgnS x = if sgn x.a = sgn x.b ∨ sgn x.b = 0 then sgn x.a else if sgn x.a = 0 then sgn x.b else if 3 * (x.b * x.b) < x.a * x.a then sgn x.a else sgn x.b := by
  have e1 := mag_sq x.a
  have e2 := mag_sq x.b
  have e3 : 3 * mag x.b * mag x.b = 3 * (x.b * x.b) := by rw [Int.mul_assoc, e2]
  unfold sgnS
  rw [e1, e3]
theorem nn_iff (x : Su) : 0 ≤ sgnS x ↔ Nn x.a x.b := by
  rw [sgnS_eq]
  have n1 := sq_nonneg x.a
  have n2 := sq_nonneg x.b
  have hs := sq3 x.a x.b
  unfold Nn
  generalize x.a = a at *
  generalize x.b = b at *
  rcases Int.lt_trichotomy a 0 with ha | ha | ha
  · rw [sgn_neg ha]
    rcases Int.lt_trichotomy b 0 with hb | hb | hb
    · rw [sgn_neg hb]
      simp
      omega
    · subst hb
      simp [sgn_zero]
      omega
    · rw [sgn_pos hb]
      by_cases hc : 3 * (b * b) < a * a
      · simp [hc]
        omega
      · simp [hc]
        omega
  · subst ha
    rcases Int.lt_trichotomy b 0 with hb | hb | hb
    · rw [sgn_neg hb]
      have := Int.mul_pos_of_neg_of_neg hb hb
      simp [sgn_zero]
      omega
    · subst hb
      simp [sgn_zero]
    · rw [sgn_pos hb]
      simp [sgn_zero]
      omega
  · rw [sgn_pos ha]
    rcases Int.lt_trichotomy b 0 with hb | hb | hb
    · rw [sgn_neg hb]
      by_cases hc : 3 * (b * b) < a * a
      · simp [hc]
        omega
      · simp [hc]
        have : a * a ≠ 3 * (b * b) := fun e => by have := hs e; omega
        omega
    · subst hb
      simp [sgn_zero]
      omega
    · rw [sgn_pos hb]
      simp
      omega
theorem sgnS_neg (x : Su) : sgnS ⟨-x.a, -x.b⟩ = -sgnS x := by
  rw [sgnS_eq, sgnS_eq]
  have e1 : ∀ n : Int, sgn (-n) = -sgn n := by
    intro n
    rcases Int.lt_trichotomy n 0 with h | h | h
    · rw [sgn_neg h, sgn_pos (by omega)]
      rfl
    · subst h
      rfl
    · rw [sgn_pos h, sgn_neg (by omega)]
  dsimp only
  rw [e1, e1, Int.neg_mul_neg, Int.neg_mul_neg]
  generalize sgn x.a = s
  generalize sgn x.b = t
  by_cases h1 : s = t ∨ t = 0
  · rw [if_pos h1, if_pos (by omega)]
  · rw [if_neg h1, if_neg (by omega)]
    by_cases h2 : s = 0
    · rw [if_pos h2, if_pos (by omega)]
    · rw [if_neg h2, if_neg (by omega)]
      split <;> rfl
theorem sgnS_range (x : Su) : sgnS x = -1 ∨ sgnS x = 0 ∨ sgnS x = 1 := by
  have h : ∀ n, sgn n = -1 ∨ sgn n = 0 ∨ sgn n = 1 := by
    intro n
    unfold sgn
    split
    · exact .inl rfl
    · split
      · exact .inr (.inr rfl)
      · exact .inr (.inl rfl)
  have h1 := h x.a
  have h2 := h x.b
  rw [sgnS_eq]
  repeat' split
  all_goals assumption
theorem sgnS_zero (x : Su) : sgnS x = 0 ↔ x = ⟨0, 0⟩ := by
  constructor
  · intro h
    rw [sgnS_eq] at h
    have hz : ∀ n, sgn n = 0 → n = 0 := by
      intro n hn
      unfold sgn at hn
      split at hn
      · omega
      · split at hn <;> omega
    have : x.a = 0 ∧ x.b = 0 := by
      split at h
      · rename_i h1
        have ha := hz _ h
        rcases h1 with h1 | h1
        · exact ⟨ha, hz _ (h1 ▸ h)⟩
        · exact ⟨ha, hz _ h1⟩
      · rename_i h1
        split at h
        · rename_i h2
          exact absurd (.inr h) h1
        · split at h
          · rename_i h2 _
            exact absurd h h2
          · exact absurd (.inr h) h1
    exact Su.ext' this.1 this.2
  · rintro rfl
    rfl
theorem sq_abs_le {p q : Int} (h1 : -q ≤ p) (h2 : p ≤ q) : p * p ≤ q * q := by
  rcases Int.le_total 0 p with h | h
  · exact sq_le_sq h h2
  · have := sq_le_sq (p := -p) (q := q) (by omega) (by omega)
    rwa [Int.neg_mul_neg] at this
theorem nn_add23 {a b c d : Int} (ha : 0 ≤ a) (hb : b ≤ 0) (h1 : 3 * (b * b) ≤ a * a) (hc : c ≤ 0) (hd : 0 ≤ d) (h2 : c * c ≤ 3 * (d * d)) : Nn (a + c) (b + d) := by
  have eb : -b * -b = b * b := Int.neg_mul_neg b b
  have ec : -c * -c = c * c := Int.neg_mul_neg c c
  rcases Int.lt_or_le (a + c) 0 with hp | hp
  · rcases Int.lt_or_le (b + d) 0 with hq | hq
    · exfalso
      have k1 := sq_le_sq ha (show a ≤ -c - 1 by omega)
      have k2 := sq_le_sq hd (show d ≤ -b by omega)
      have e : (-c - 1) * (-c - 1) = c * c + 2 * c + 1 := by grind
      rw [eb] at k2
      omega
    · refine .inr (.inr ⟨by omega, hq, ?_⟩)
      rcases Int.lt_or_le (3 * ((b + d) * (b + d))) ((a + c) * (a + c)) with hx | hx
      · exfalso
        have k := up_add' (p := -(a + c)) (q := b + d) (c := a) (d := -b) (by omega) hq ha (by omega) (by rw [Int.neg_mul_neg]; exact hx) (by rw [eb]; exact h1)
        have e1 : b + d + -b = d := by omega
        have e2 : -(a + c) + a = -c := by omega
        rw [e1, e2, ec] at k
        omega
      · exact hx
  · rcases Int.lt_or_le (b + d) 0 with hq | hq
    · refine .inr (.inl ⟨hp, by omega, ?_⟩)
      rcases Int.lt_or_le ((a + c) * (a + c)) (3 * ((b + d) * (b + d))) with hx | hx
      · exfalso
        have k := low_add' (p := a + c) (q := -(b + d)) (c := -c) (d := d) hp (by omega) (by omega) hd (by rw [Int.neg_mul_neg]; exact hx) (by rw [ec]; exact h2)
        have e1 : a + c + -c = a := by omega
        have e2 : -(b + d) + d = -b := by omega
        rw [e1, e2, eb] at k
        omega
      · exact hx
    · exact .inl ⟨hp, hq⟩
theorem nn_add12 {a b c d : Int} (ha : 0 ≤ a) (hb : 0 ≤ b) (hc : 0 ≤ c) (_ : d ≤ 0) (h2 : 3 * (d * d) ≤ c * c) : Nn (a + c) (b + d) := by
  rcases Int.lt_or_le (b + d) 0 with hq | hq
  · refine .inr (.inl ⟨by omega, by omega, ?_⟩)
    have k1 := sq_abs_le (p := b + d) (q := -d) (by omega) (by omega)
    have k2 := sq_le_sq hc (show c ≤ a + c by omega)
    rw [Int.neg_mul_neg] at k1
    omega
  · exact .inl ⟨by omega, hq⟩
theorem nn_add13 {a b c d : Int} (ha : 0 ≤ a) (hb : 0 ≤ b) (hc : c ≤ 0) (hd : 0 ≤ d) (h2 : c * c ≤ 3 * (d * d)) : Nn (a + c) (b + d) := by
  rcases Int.lt_or_le (a + c) 0 with hp | hp
  · refine .inr (.inr ⟨by omega, by omega, ?_⟩)
    have k1 := sq_abs_le (p := a + c) (q := -c) (by omega) (by omega)
    have k2 := sq_le_sq hd (show d ≤ b + d by omega)
    rw [Int.neg_mul_neg] at k1
    omega
  · exact .inl ⟨hp, by omega⟩
theorem nn_add {a b c d : Int} (h1 : Nn a b) (h2 : Nn c d) : Nn (a + c) (b + d) := by
  rcases h1 with ⟨a1, b1⟩ | ⟨a1, b1, k1⟩ | ⟨a1, b1, k1⟩
  · rcases h2 with ⟨c1, d1⟩ | ⟨c1, d1, k2⟩ | ⟨c1, d1, k2⟩
    · exact .inl ⟨by omega, by omega⟩
    · exact nn_add12 a1 b1 c1 d1 k2
    · exact nn_add13 a1 b1 c1 d1 k2
  · rcases h2 with ⟨c1, d1⟩ | ⟨c1, d1, k2⟩ | ⟨c1, d1, k2⟩
    · rw [Int.add_comm a, Int.add_comm b]
      exact nn_add12 c1 d1 a1 b1 k1
    · refine .inr (.inl ⟨by omega, by omega, ?_⟩)
      have k := up_add (p := a) (q := -b) (c := c) (d := -d) a1 (by omega) c1 (by omega) (by rw [Int.neg_mul_neg]; exact k1) (by rw [Int.neg_mul_neg]; exact k2)
      have e : -b + -d = -(b + d) := by omega
      rwa [e, Int.neg_mul_neg] at k
    · exact nn_add23 a1 b1 k1 c1 d1 k2
  · rcases h2 with ⟨c1, d1⟩ | ⟨c1, d1, k2⟩ | ⟨c1, d1, k2⟩
    · rw [Int.add_comm a, Int.add_comm b]
      exact nn_add13 c1 d1 a1 b1 k1
    · rw [Int.add_comm a, Int.add_comm b]
      exact nn_add23 c1 d1 k2 a1 b1 k1
    · refine .inr (.inr ⟨by omega, by omega, ?_⟩)
      have k := low_add (p := -a) (q := b) (c := -c) (d := d) (by omega) b1 (by omega) d1 (by rw [Int.neg_mul_neg]; exact k1) (by rw [Int.neg_mul_neg]; exact k2)
      have e : -a + -c = -(a + c) := by omega
      rwa [e, Int.neg_mul_neg] at k
theorem nn_smul {a b k : Int} (hk : 0 ≤ k) (h : Nn a b) : Nn (k * a) (k * b) := by
  have e : ∀ n : Int, k * n * (k * n) = k * k * (n * n) := by intro n; grind
  have hkk := Int.mul_nonneg hk hk
  rcases h with ⟨a1, b1⟩ | ⟨a1, b1, k1⟩ | ⟨a1, b1, k1⟩
  · exact .inl ⟨Int.mul_nonneg hk a1, Int.mul_nonneg hk b1⟩
  · refine .inr (.inl ⟨Int.mul_nonneg hk a1, Int.mul_nonpos_of_nonneg_of_nonpos hk b1, ?_⟩)
    rw [e, e]
    have := Int.mul_le_mul_of_nonneg_left k1 hkk
    grind
  · refine .inr (.inr ⟨Int.mul_nonpos_of_nonneg_of_nonpos hk a1, Int.mul_nonneg hk b1, ?_⟩)
    rw [e, e]
    have := Int.mul_le_mul_of_nonneg_left k1 hkk
    grind
/-- The sign of a sum. -/
theorem sgnS_add {x y : Su} (hx : 0 ≤ sgnS x) (hy : 0 ≤ sgnS y) : 0 ≤ sgnS (x.add y) := (nn_iff _).2 (nn_add ((nn_iff x).1 hx) ((nn_iff y).1 hy))
theorem sgnS_neg' (x : Su) : sgnS ⟨-x.a, -x.b⟩ = -sgnS x := sgnS_neg x
theorem sgnS_add_pos {x y : Su} (hx : 0 < sgnS x) (hy : 0 ≤ sgnS y) : 0 < sgnS (x.add y) := by
  have h := sgnS_add (Int.le_of_lt hx) hy
  rcases Int.lt_or_le 0 (sgnS (x.add y)) with h1 | h1
  · exact h1
  · exfalso
    have h0 : sgnS (x.add y) = 0 := by omega
    rw [sgnS_zero] at h0
    have ea : x.a + y.a = 0 := congrArg Su.a h0
    have eb : x.b + y.b = 0 := congrArg Su.b h0
    have : (⟨-x.a, -x.b⟩ : Su) = y := Su.ext' (by dsimp only; omega) (by dsimp only; omega)
    have h2 := sgnS_neg x
    rw [this] at h2
    omega
theorem sgnS_smul {x : Su} {k : Int} (hk : 0 < k) : sgnS ⟨k * x.a, k * x.b⟩ = sgnS x := by
  have key : ∀ y : Su, 0 ≤ sgnS y → 0 ≤ sgnS ⟨k * y.a, k * y.b⟩ := fun y hy => (nn_iff _).2 (nn_smul (Int.le_of_lt hk) ((nn_iff y).1 hy))
  have hz : sgnS ⟨k * x.a, k * x.b⟩ = 0 → sgnS x = 0 := by
    rw [sgnS_zero, sgnS_zero]
    intro h
    have ea : k * x.a = 0 := congrArg Su.a h
    have eb : k * x.b = 0 := congrArg Su.b h
    have za : x.a = 0 := (Int.mul_eq_zero.1 ea).resolve_left (by omega)
    have zb : x.b = 0 := (Int.mul_eq_zero.1 eb).resolve_left (by omega)
    exact Su.ext' za zb
  have hz' : sgnS x = 0 → sgnS ⟨k * x.a, k * x.b⟩ = 0 := by
    rw [sgnS_zero, sgnS_zero]
    rintro rfl
    simp
  have h1 := key x
  have h2 := key ⟨-x.a, -x.b⟩
  rw [sgnS_neg] at h2
  dsimp only at h2
  rw [Int.mul_neg, Int.mul_neg, sgnS_neg ⟨k * x.a, k * x.b⟩] at h2
  have r1 := sgnS_range x
  have r2 := sgnS_range ⟨k * x.a, k * x.b⟩
  omega
/-- The product of two numbers that are not negative. -/
theorem nn_mul {a b c d : Int} (h1 : Nn a b) (h2 : Nn c d) : Nn (a * c + 3 * (b * d)) (a * d + b * c) := by
  -- the norm is multiplicative
  have key : (a * c + 3 * (b * d)) * (a * c + 3 * (b * d)) - 3 * ((a * d + b * c) * (a * d + b * c)) = (a * a - 3 * (b * b)) * (c * c - 3 * (d * d)) := by grind
  rcases h1 with ⟨a1, b1⟩ | ⟨a1, b1, k1⟩ | ⟨a1, b1, k1⟩
  · rcases h2 with ⟨c1, d1⟩ | ⟨c1, d1, k2⟩ | ⟨c1, d1, k2⟩
    · have p1 := Int.mul_nonneg a1 c1
      have p2 := Int.mul_nonneg b1 d1
      have p3 := Int.mul_nonneg a1 d1
      have p4 := Int.mul_nonneg b1 c1
      exact .inl ⟨by omega, by omega⟩
    · -- c ≥ |d| sqrt 3: both factors: a * (c - |d| r) + b r * (c - |d| r)
      have q1 := nn_smul a1 (show Nn c d from .inr (.inl ⟨c1, d1, k2⟩))
      have q2 : Nn (3 * (b * d)) (b * c) := by
        refine .inr (.inr ⟨?_, Int.mul_nonneg b1 c1, ?_⟩)
        · have := Int.mul_nonpos_of_nonneg_of_nonpos b1 d1
          omega
        · have := Int.mul_le_mul_of_nonneg_left k2 (Int.mul_nonneg b1 b1)
          grind
      have := nn_add q1 q2
      exact this
    · have q1 := nn_smul a1 (show Nn c d from .inr (.inr ⟨c1, d1, k2⟩))
      have q2 : Nn (3 * (b * d)) (b * c) := by
        refine .inr (.inl ⟨?_, Int.mul_nonpos_of_nonneg_of_nonpos b1 c1, ?_⟩)
        · have := Int.mul_nonneg b1 d1
          omega
        · have := Int.mul_le_mul_of_nonneg_left k2 (Int.mul_nonneg b1 b1)
          grind
      exact nn_add q1 q2
  · rcases h2 with ⟨c1, d1⟩ | ⟨c1, d1, k2⟩ | ⟨c1, d1, k2⟩
    · have q1 := nn_smul c1 (show Nn a b from .inr (.inl ⟨a1, b1, k1⟩))
      have q2 : Nn (3 * (b * d)) (a * d) := by
        refine .inr (.inr ⟨?_, Int.mul_nonneg a1 d1, ?_⟩)
        · have := Int.mul_nonpos_of_nonneg_of_nonpos d1 b1
          rw [Int.mul_comm] at this
          omega
        · have := Int.mul_le_mul_of_nonneg_left k1 (Int.mul_nonneg d1 d1)
          grind
      have := nn_add q1 q2
      rw [Int.mul_comm c a, Int.mul_comm c b, Int.add_comm (b * c)] at this
      exact this
    · have p1 := Int.mul_nonneg a1 c1
      have p2 := Int.mul_nonneg_of_nonpos_of_nonpos b1 d1
      have p3 := Int.mul_nonpos_of_nonneg_of_nonpos a1 d1
      have p4 := Int.mul_nonpos_of_nonpos_of_nonneg b1 c1
      refine .inr (.inl ⟨by omega, by omega, ?_⟩)
      have := Int.mul_nonneg (show 0 ≤ a * a - 3 * (b * b) by omega) (show 0 ≤ c * c - 3 * (d * d) by omega)
      omega
    · have p1 := Int.mul_nonpos_of_nonneg_of_nonpos a1 c1
      have p2 := Int.mul_nonpos_of_nonpos_of_nonneg b1 d1
      have p3 := Int.mul_nonneg a1 d1
      have p4 := Int.mul_nonneg_of_nonpos_of_nonpos b1 c1
      refine .inr (.inr ⟨by omega, by omega, ?_⟩)
      have := Int.mul_nonpos_of_nonneg_of_nonpos (show 0 ≤ a * a - 3 * (b * b) by omega) (show c * c - 3 * (d * d) ≤ 0 by omega)
      omega
  · rcases h2 with ⟨c1, d1⟩ | ⟨c1, d1, k2⟩ | ⟨c1, d1, k2⟩
    · have q1 := nn_smul c1 (show Nn a b from .inr (.inr ⟨a1, b1, k1⟩))
      have q2 : Nn (3 * (b * d)) (a * d) := by
        refine .inr (.inl ⟨?_, Int.mul_nonpos_of_nonpos_of_nonneg a1 d1, ?_⟩)
        · have := Int.mul_nonneg b1 d1
          omega
        · have := Int.mul_le_mul_of_nonneg_left k1 (Int.mul_nonneg d1 d1)
          grind
      have := nn_add q1 q2
      rw [Int.mul_comm c a, Int.mul_comm c b, Int.add_comm (b * c)] at this
      exact this
    · have p1 := Int.mul_nonpos_of_nonpos_of_nonneg a1 c1
      have p2 := Int.mul_nonpos_of_nonneg_of_nonpos b1 d1
      have p3 := Int.mul_nonneg_of_nonpos_of_nonpos a1 d1
      have p4 := Int.mul_nonneg b1 c1
      refine .inr (.inr ⟨by omega, by omega, ?_⟩)
      have := Int.mul_nonpos_of_nonpos_of_nonneg (show a * a - 3 * (b * b) ≤ 0 by omega) (show 0 ≤ c * c - 3 * (d * d) by omega)
      omega
    · have p1 := Int.mul_nonneg_of_nonpos_of_nonpos a1 c1
      have p2 := Int.mul_nonneg b1 d1
      have p3 := Int.mul_nonpos_of_nonpos_of_nonneg a1 d1
      have p4 := Int.mul_nonpos_of_nonneg_of_nonpos b1 c1
      refine .inr (.inl ⟨by omega, by omega, ?_⟩)
      have := Int.mul_nonneg_of_nonpos_of_nonpos (show a * a - 3 * (b * b) ≤ 0 by omega) (show c * c - 3 * (d * d) ≤ 0 by omega)
      omega
theorem sgnS_mul_nn {x y : Su} (hx : 0 ≤ sgnS x) (hy : 0 ≤ sgnS y) : 0 ≤ sgnS (x.mul y) := by
  have h := nn_mul ((nn_iff x).1 hx) ((nn_iff y).1 hy)
  rw [nn_iff]
  unfold Su.mul
  dsimp only
  rw [Int.mul_assoc]
  exact h
theorem sgnS_mul (x y : Su) : sgnS (x.mul y) = sgnS x * sgnS y := by
  have hz : sgnS (x.mul y) = 0 → sgnS x = 0 ∨ sgnS y = 0 := by
    rw [sgnS_zero, sgnS_zero, sgnS_zero]
    intro h
    have ha : x.a * y.a + 3 * x.b * y.b = 0 := congrArg Su.a h
    have hb : x.a * y.b + x.b * y.a = 0 := congrArg Su.b h
    have hn : (x.a * x.a - 3 * (x.b * x.b)) * (y.a * y.a - 3 * (y.b * y.b)) = 0 := by
      have : (x.a * x.a - 3 * (x.b * x.b)) * (y.a * y.a - 3 * (y.b * y.b)) = (x.a * y.a + 3 * x.b * y.b) * (x.a * y.a + 3 * x.b * y.b) - 3 * ((x.a * y.b + x.b * y.a) * (x.a * y.b + x.b * y.a)) := by grind
      rw [this, ha, hb]
      rfl
    rcases Int.mul_eq_zero.1 hn with h1 | h1
    · obtain ⟨e1, e2⟩ := sq3 x.a x.b (by omega)
      exact .inl (Su.ext' e1 e2)
    · obtain ⟨e1, e2⟩ := sq3 y.a y.b (by omega)
      exact .inr (Su.ext' e1 e2)
  have hz1 : sgnS x = 0 → sgnS (x.mul y) = 0 := by
    rw [sgnS_zero, sgnS_zero]
    rintro rfl
    simp [Su.mul]
  have hz2 : sgnS y = 0 → sgnS (x.mul y) = 0 := by
    rw [sgnS_zero, sgnS_zero]
    rintro rfl
    simp [Su.mul]
  have n1 : (Su.mk (-x.a) (-x.b)).mul y = ⟨-(x.mul y).a, -(x.mul y).b⟩ := by apply Su.ext' <;> simp only [Su.mul] <;> grind
  have n2 : x.mul (Su.mk (-y.a) (-y.b)) = ⟨-(x.mul y).a, -(x.mul y).b⟩ := by apply Su.ext' <;> simp only [Su.mul] <;> grind
  have n3 : (Su.mk (-x.a) (-x.b)).mul (Su.mk (-y.a) (-y.b)) = x.mul y := by apply Su.ext' <;> simp only [Su.mul] <;> grind
  have k1 := sgnS_mul_nn (x := x) (y := y)
  have k2 := sgnS_mul_nn (x := ⟨-x.a, -x.b⟩) (y := y)
  have k3 := sgnS_mul_nn (x := x) (y := ⟨-y.a, -y.b⟩)
  have k4 := sgnS_mul_nn (x := ⟨-x.a, -x.b⟩) (y := ⟨-y.a, -y.b⟩)
  rw [n1, sgnS_neg, sgnS_neg] at k2
  rw [n2, sgnS_neg, sgnS_neg] at k3
  rw [n3, sgnS_neg, sgnS_neg] at k4
  have rz := sgnS_range (x.mul y)
  have rx := sgnS_range x
  have ry := sgnS_range y
  clear n1 n2 n3
  generalize sgnS (x.mul y) = m at *
  generalize sgnS x = p at *
  generalize sgnS y = q at *
  rcases rx with rfl | rfl | rfl <;> rcases ry with rfl | rfl | rfl <;> omega
theorem sgnS_mono {a a' b : Int} (h : a ≤ a') (hn : 0 ≤ sgnS ⟨a, b⟩) : 0 ≤ sgnS ⟨a', b⟩ := by
  have h1 : 0 ≤ sgnS ⟨a' - a, 0⟩ := (nn_iff _).2 (.inl ⟨by dsimp only; omega, Int.le_refl _⟩)
  have := sgnS_add hn h1
  have e : (Su.mk a b).add ⟨a' - a, 0⟩ = ⟨a', b⟩ := by apply Su.ext' <;> simp only [Su.add] <;> omega
  rwa [e] at this
end Go.Sub
