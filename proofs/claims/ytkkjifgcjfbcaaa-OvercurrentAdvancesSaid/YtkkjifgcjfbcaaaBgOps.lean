
/- Products, sums and differences of digits: the steps of the loops. No program in sight. -/
import Derived.Test.YtkkjifgcjfbcaaaBgPlain
namespace Go.Sub
theorem mul_bd {x y : Int} (hx : 0 ≤ x ∧ x < 4294967296) (hy : 0 ≤ y ∧ y < 4294967296) : 0 ≤ x * y ∧ x * y ≤ 18446744065119617025 := by
  have h1 := Int.mul_nonneg hx.1 hy.1
  have h2 := Int.mul_le_mul (show x ≤ 4294967295 by omega) (show y ≤ 4294967295 by omega) hy.1 (by decide)
  omega
/-- Within a row of the product: i digits of a are done, and k of b for the next one; c is carried. -/
structure MulInv (a b o : List Int) (i k : Nat) (c : Int) : Prop where
  len : o.length = a.length + b.length
  dg : Dg o
  c0 : 0 ≤ c
  c1 : c < 4294967296
  zero : ∀ j, i + b.length ≤ j → o.getD j 0 = 0
  val : dval o + wt (i + k) * c = dval (a.take i) * dval b + wt i * (a.getD i 0 * dval (b.take k))
theorem MulInv.step {a b o : List Int} {i k : Nat} {c t : Int} (h : MulInv a b o i k c) (ha : Dg a) (hb : Dg b) (hi : i < a.length) (hk : k < b.length) (ht : t = a.getD i 0 * b.getD k 0 + o.getD (i + k) 0 + c) :
    MulInv a b (o.set (i + k) (t % 4294967296)) i (k + 1) (t / 4294967296) ∧ 0 ≤ t ∧ t < 18446744073709551616 := by
  have h1 := mul_bd (ha.getD i) (hb.getD k)
  have h2 := h.dg.getD (i + k)
  have h3 := h.c0
  have h4 := h.c1
  have hl := h.len
  have ht0 : 0 ≤ t := by omega
  have ht1 : t < 18446744073709551616 := by omega
  refine ⟨⟨by simp [hl], h.dg.set _ (by omega) (by omega), by omega, by omega, fun j hj => ?_, ?_⟩, ht0, ht1⟩
  · rw [List.getD_eq_getElem?_getD, List.getElem?_set_ne (by omega), ← List.getD_eq_getElem?_getD]
    exact h.zero j hj
  · have hv := h.val
    rw [dval_set _ _ (by omega), dval_take_succ b k hk]
    have e1 : wt (i + (k + 1)) = 4294967296 * wt (i + k) := by rw [show i + (k + 1) = i + k + 1 by omega]; rfl
    have e2 : wt (i + k) = wt i * wt k := wt_add i k
    rw [e1]
    generalize dval o = D at *
    generalize dval (a.take i) * dval b = X at *
    generalize dval (b.take k) = Y at *
    generalize o.getD (i + k) 0 = z at *
    generalize a.getD i 0 = x at *
    generalize b.getD k 0 = y at *
    have e3 : t % 4294967296 = t - 4294967296 * (t / 4294967296) := by omega
    rw [e3]
    generalize t / 4294967296 = q at *
    subst ht
    rw [e2] at *
    generalize wt i = p at *
    generalize wt k = r at *
    grind
theorem MulInv.row {a b o : List Int} {i : Nat} {c : Int} (h : MulInv a b o i b.length c) (hi : i < a.length) : MulInv a b (o.set (i + b.length) c) (i + 1) 0 0 := by
  have hl := h.len
  refine ⟨by simp [hl], h.dg.set _ h.c0 h.c1, by decide, by decide, fun j hj => ?_, ?_⟩
  · rw [List.getD_eq_getElem?_getD, List.getElem?_set_ne (by omega), ← List.getD_eq_getElem?_getD]
    exact h.zero j (by omega)
  · have hv := h.val
    rw [dval_set _ _ (by omega), h.zero (i + b.length) (Nat.le_refl _), dval_take_succ a i hi, Int.mul_zero, Int.add_zero]
    rw [List.take_length] at hv
    simp only [List.take_zero, dval, Int.mul_zero, Int.add_zero, Int.sub_zero]
    rw [Int.add_mul, ← Int.mul_assoc (wt i)] at *
    omega
theorem MulInv.start (a b : List Int) : MulInv a b (List.replicate (a.length + b.length) 0) 0 0 0 := by
  have hz : ∀ n, dval (List.replicate n 0) = 0 := fun n => by
    induction n with
    | zero => rfl
    | succ n ih => rw [List.replicate_succ]; simp [dval, ih]
  refine ⟨by simp, fun d hd => by have := List.eq_of_mem_replicate hd; omega, by decide, by decide, fun j _ => ?_, ?_⟩
  · simp [List.getD, List.getElem?_replicate]
    split <;> rfl
  · rw [hz]
    simp [dval]
theorem MulInv.done {a b o : List Int} (h : MulInv a b o a.length 0 0) : dval o = dval a * dval b := by
  have := h.val
  simpa [List.take_length, dval] using this
/-- A sum: i digits are done, c is carried. -/
structure AddInv (a b o : List Int) (i : Nat) (c : Int) : Prop where
  len : o.length = i
  dg : Dg o
  c0 : 0 ≤ c
  c1 : c ≤ 1
  val : dval o + wt i * c = dval (a.take i) + dval (b.take i)
theorem dval_take_next (a : List Int) (i : Nat) : dval (a.take (i + 1)) = dval (a.take i) + wt i * a.getD i 0 := by
  rcases Nat.lt_or_ge i a.length with h | h
  · exact dval_take_succ a i h
  · rw [List.take_of_length_le (by omega), List.take_of_length_le h, getD_ge h]
    omega
theorem AddInv.step {a b o : List Int} {i : Nat} {c t : Int} (h : AddInv a b o i c) (ha : Dg a) (hb : Dg b) (ht : t = c + a.getD i 0 + b.getD i 0) :
    AddInv a b (o ++ [t % 4294967296]) (i + 1) (t / 4294967296) ∧ 0 ≤ t ∧ t < 8589934592 := by
  have h1 := ha.getD i
  have h2 := hb.getD i
  have h3 := h.c0
  have h4 := h.c1
  have hl := h.len
  refine ⟨⟨by simp [hl], h.dg.append (Dg.cons (by omega) (by omega) Dg.nil), by omega, by omega, ?_⟩, by omega, by omega⟩
  have hv := h.val
  rw [dval_snoc, dval_take_next, dval_take_next, hl]
  have e1 : wt (i + 1) = 4294967296 * wt i := rfl
  have e3 : t % 4294967296 = t - 4294967296 * (t / 4294967296) := by omega
  rw [e1, e3]
  generalize t / 4294967296 = q at *
  generalize dval o = D at *
  generalize dval (a.take i) = X at *
  generalize dval (b.take i) = Y at *
  generalize a.getD i 0 = x at *
  generalize b.getD i 0 = y at *
  subst ht
  generalize wt i = p at *
  grind
theorem AddInv.start (a b : List Int) : AddInv a b [] 0 0 := ⟨rfl, Dg.nil, by decide, by decide, by simp [dval]⟩
theorem AddInv.done {a b o : List Int} {i : Nat} (h : AddInv a b o i 0) (ha : a.length ≤ i) (hb : b.length ≤ i) : dval o = dval a + dval b := by
  have := h.val
  rw [List.take_of_length_le ha, List.take_of_length_le hb] at this
  omega
/-- A difference: i digits are done, c is borrowed. -/
structure SubInv (a b o : List Int) (i : Nat) (c : Int) : Prop where
  len : o.length = i
  dg : Dg o
  c0 : 0 ≤ c
  c1 : c ≤ 1
  val : dval o = dval (a.take i) - dval (b.take i) + wt i * c
theorem SubInv.step {a b o : List Int} {i : Nat} {c t : Int} (h : SubInv a b o i c) (ha : Dg a) (hb : Dg b) (ht : t = (a.getD i 0 - c - b.getD i 0) % 18446744073709551616) :
    SubInv a b (o ++ [t % 4294967296]) (i + 1) (t / 9223372036854775808) ∧ 0 ≤ t ∧ t < 18446744073709551616 := by
  have h1 := ha.getD i
  have h2 := hb.getD i
  have h3 := h.c0
  have h4 := h.c1
  have hl := h.len
  refine ⟨⟨by simp [hl], h.dg.append (Dg.cons (by omega) (by omega) Dg.nil), by omega, by omega, ?_⟩, by omega, by omega⟩
  have hv := h.val
  rw [dval_snoc, dval_take_next, dval_take_next, hl]
  have e1 : wt (i + 1) = 4294967296 * wt i := rfl
  have e3 : t % 4294967296 = a.getD i 0 - c - b.getD i 0 + 4294967296 * (t / 9223372036854775808) := by omega
  rw [e1, e3]
  generalize t / 9223372036854775808 = q at *
  generalize dval o = D at *
  generalize dval (a.take i) = X at *
  generalize dval (b.take i) = Y at *
  generalize a.getD i 0 = x at *
  generalize b.getD i 0 = y at *
  clear ht e3 e1
  generalize wt i = p at *
  grind
theorem SubInv.start (a b : List Int) : SubInv a b [] 0 0 := ⟨rfl, Dg.nil, by decide, by decide, by simp [dval]⟩
theorem SubInv.done {a b o : List Int} {c : Int} (h : SubInv a b o a.length c) (hb : b.length ≤ a.length) (hle : dval b ≤ dval a) : dval o = dval a - dval b := by
  have hv := h.val
  have h1 := dval_lt h.dg
  rw [h.len] at h1
  rw [List.take_length, List.take_of_length_le hb] at hv
  have h0 := h.c0
  have h2 := h.c1
  have hc : c = 0 ∨ c = 1 := by omega
  rcases hc with rfl | rfl
  · omega
  · omega
theorem len_le_of_dval {a b : List Int} (ha : Dg a) (hb : Dg b) (tb : Tr b) (h : dval b ≤ dval a) : b.length ≤ a.length := by
  rcases Nat.lt_or_ge a.length b.length with hx | hx
  · have := dval_longer ha hb tb hx
    omega
  · exact hx
/-- What a comparison says. -/
def cmpI (x y : Int) : Int := if x < y then -1 else if y < x then 1 else 0
end Go.Sub
