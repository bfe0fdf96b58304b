
/- Numbers as digits of 32 bits: plain laws. No program in sight. -/
import Derived.Test.YtkkjifgcjfbcaaaOrd
namespace Go.Sub
abbrev B32 : Int := 4294967296
/-- The value of digits, the least one first. -/
def dval : List Int → Int
  | [] => 0
  | d :: l => d + 4294967296 * dval l
/-- Each is a digit. -/
def Dg (l : List Int) : Prop := ∀ d ∈ l, 0 ≤ d ∧ d < 4294967296
/-- The weight of the n-th digit. -/
def wt : Nat → Int
  | 0 => 1
  | n + 1 => 4294967296 * wt n
theorem wt_pos (n : Nat) : 0 < wt n := by
  induction n with
  | zero => decide
  | succ n ih => unfold wt; omega
theorem wt_add (n m : Nat) : wt (n + m) = wt n * wt m := by
  induction n with
  | zero => simp [wt]
  | succ n ih => rw [show n + 1 + m = n + m + 1 by omega]; simp only [wt]; rw [ih, Int.mul_assoc]
theorem getD_lt {l : List Int} {n : Nat} (h : n < l.length) : l.getD n 0 = l[n] := by simp [List.getD, h]
theorem getD_ge {l : List Int} {n : Nat} (h : l.length ≤ n) : l.getD n 0 = 0 := by simp [List.getD, List.getElem?_eq_none h]
theorem Dg.nil : Dg [] := fun _ h => by cases h
theorem Dg.cons {d : Int} {l : List Int} (h0 : 0 ≤ d) (h1 : d < 4294967296) (h : Dg l) : Dg (d :: l) := fun x hx => by
  rcases List.mem_cons.1 hx with rfl | hx
  · exact ⟨h0, h1⟩
  · exact h x hx
theorem Dg.head {d : Int} {l : List Int} (h : Dg (d :: l)) : 0 ≤ d ∧ d < 4294967296 := h d (List.mem_cons_self ..)
theorem Dg.tail {d : Int} {l : List Int} (h : Dg (d :: l)) : Dg l := fun x hx => h x (List.mem_cons_of_mem _ hx)
theorem Dg.append {l m : List Int} (h : Dg l) (h' : Dg m) : Dg (l ++ m) := fun x hx => (List.mem_append.1 hx).elim (h x) (h' x)
theorem Dg.take {l : List Int} (h : Dg l) (n : Nat) : Dg (l.take n) := fun x hx => h x (List.mem_of_mem_take hx)
theorem Dg.getD {l : List Int} (h : Dg l) (n : Nat) : 0 ≤ l.getD n 0 ∧ l.getD n 0 < 4294967296 := by
  rcases Nat.lt_or_ge n l.length with hn | hn
  · rw [getD_lt hn]; exact h _ (List.getElem_mem hn)
  · rw [getD_ge hn]; omega
theorem dval_append (l m : List Int) : dval (l ++ m) = dval l + wt l.length * dval m := by
  induction l with
  | nil => simp [dval, wt]
  | cons d l ih =>
    simp only [List.cons_append, dval, List.length_cons, wt, ih]
    rw [Int.mul_add, Int.mul_assoc]
    omega
theorem dval_snoc (l : List Int) (d : Int) : dval (l ++ [d]) = dval l + wt l.length * d := by
  rw [dval_append]; simp [dval]
theorem dval_nonneg {l : List Int} (h : Dg l) : 0 ≤ dval l := by
  induction l with
  | nil => exact Int.le_refl _
  | cons d l ih => have := ih h.tail; have := h.head; simp only [dval]; omega
theorem dval_lt {l : List Int} (h : Dg l) : dval l < wt l.length := by
  induction l with
  | nil => exact Int.zero_lt_one
  | cons d l ih => have := ih h.tail; have := h.head; simp only [dval, List.length_cons, wt]; omega
theorem dval_take_succ (l : List Int) (k : Nat) (hk : k < l.length) : dval (l.take (k + 1)) = dval (l.take k) + wt k * l.getD k 0 := by
  rw [List.take_succ_eq_append_getElem hk, dval_snoc, List.length_take, Nat.min_eq_left (by omega), getD_lt hk]
theorem dval_set (l : List Int) (k : Nat) (hk : k < l.length) (d : Int) : dval (l.set k d) = dval l + wt k * (d - l.getD k 0) := by
  induction l generalizing k with
  | nil => simp at hk
  | cons x l ih =>
    match k with
    | 0 => simp [dval, wt]; omega
    | k + 1 =>
      simp only [List.length_cons] at hk
      simp only [List.set_cons_succ, dval, ih k (by omega), List.getD_cons_succ, wt]
      rw [Int.mul_add, Int.mul_assoc]
      omega
theorem Dg.set {l : List Int} (h : Dg l) (k : Nat) {d : Int} (h0 : 0 ≤ d) (h1 : d < 4294967296) : Dg (l.set k d) := fun x hx => by
  rcases List.mem_or_eq_of_mem_set hx with hx | rfl
  · exact h x hx
  · exact ⟨h0, h1⟩
/-- No leading zero. -/
def Tr (l : List Int) : Prop := l = [] ∨ l.getD (l.length - 1) 0 ≠ 0
/-- The digits of a number. -/
def dig (n : Nat) : List Int := if h : n = 0 then [] else ((n % 4294967296 : Nat) : Int) :: dig (n / 4294967296)
termination_by n
decreasing_by omega
theorem dig_zero : dig 0 = [] := by unfold dig; simp
theorem dig_pos {n : Nat} (h : n ≠ 0) : dig n = ((n % 4294967296 : Nat) : Int) :: dig (n / 4294967296) := by
  conv => lhs; unfold dig
  simp [h]
theorem dig_Dg (n : Nat) : Dg (dig n) := by
  induction n using Nat.strongRecOn with
  | _ n ih =>
    rcases Nat.decEq n 0 with h | h
    · rw [dig_pos h]; exact Dg.cons (by omega) (by omega) (ih _ (by omega))
    · subst h; rw [dig_zero]; exact Dg.nil
theorem dval_dig (n : Nat) : dval (dig n) = n := by
  induction n using Nat.strongRecOn with
  | _ n ih =>
    rcases Nat.decEq n 0 with h | h
    · rw [dig_pos h]; simp only [dval]; rw [ih _ (by omega)]; omega
    · subst h; rw [dig_zero]; rfl
theorem dig_nil {n : Nat} : dig n = [] ↔ n = 0 := by
  constructor
  · intro h
    rcases Nat.decEq n 0 with h' | h'
    · rw [dig_pos h'] at h; cases h
    · exact h'
  · rintro rfl; exact dig_zero
theorem Tr.tail {d : Int} {l : List Int} (h : Tr (d :: l)) : Tr l := by
  rcases l with _ | ⟨e, l⟩
  · exact .inl rfl
  · right
    rcases h with h | h
    · cases h
    · simpa [List.getD] using h
theorem dval_pos {l : List Int} (h : Dg l) (ht : Tr l) (hn : l ≠ []) : 0 < dval l := by
  induction l with
  | nil => exact absurd rfl hn
  | cons d l ih =>
    have hd := h.head
    rcases l with _ | ⟨e, l⟩
    · rcases ht with ht | ht
      · cases ht
      · simp [List.getD] at ht; simp [dval]; omega
    · have := ih h.tail ht.tail (by simp)
      simp only [dval] at this ⊢
      omega
/-- Digits without a leading zero are those of their value. -/
theorem eq_dig {l : List Int} (h : Dg l) (ht : Tr l) : l = dig (dval l).toNat := by
  induction l with
  | nil => simp [dval, dig_zero]
  | cons d l ih =>
    have hd := h.head
    have hp := dval_pos h ht (by simp)
    have hn := dval_nonneg h.tail
    rw [dig_pos (by omega)]
    have e1 : (((dval (d :: l)).toNat % 4294967296 : Nat) : Int) = d := by simp only [dval] at *; omega
    have e2 : (dval (d :: l)).toNat / 4294967296 = (dval l).toNat := by simp only [dval] at *; omega
    rw [e1, e2, ← ih h.tail ht.tail]
theorem dig_Tr (n : Nat) : Tr (dig n) := by
  induction n using Nat.strongRecOn with
  | _ n ih =>
    rcases Nat.decEq n 0 with h | h
    · rw [dig_pos h]
      rcases ih (n / 4294967296) (by omega) with h1 | h1
      · right
        rw [h1]
        have : n / 4294967296 = 0 := dig_nil.1 h1
        simp [List.getD]
        omega
      · right
        cases e : dig (n / 4294967296) with
        | nil =>
          have : n / 4294967296 = 0 := dig_nil.1 e
          simp [List.getD]
          omega
        | cons x m =>
          rw [e] at h1
          simpa [List.getD] using h1
    · subst h; exact .inl dig_zero
/-- How many digits are left without leading zeros. -/
theorem dval_take_zeros (l : List Int) (n : Nat) (h : ∀ k, n ≤ k → l.getD k 0 = 0) : dval (l.take n) = dval l := by
  induction l generalizing n with
  | nil => simp
  | cons d l ih =>
    match n with
    | 0 =>
      have h0 := h 0 (Nat.le_refl _)
      simp [List.getD] at h0
      have := ih 0 (fun k _ => by have := h (k + 1) (by omega); simpa [List.getD] using this)
      simp only [List.take_zero, dval] at this ⊢
      omega
    | n + 1 =>
      simp only [List.take_succ_cons, dval]
      rw [ih n (fun k hk => by have := h (k + 1) (by omega); simpa [List.getD] using this)]
theorem Tr.take {l : List Int} {n : Nat} (hn : n ≤ l.length) (h : n = 0 ∨ l.getD (n - 1) 0 ≠ 0) : Tr (l.take n) := by
  rcases Nat.eq_zero_or_pos n with rfl | hp
  · exact .inl (by simp)
  · right
    rcases h with h | h
    · omega
    · rw [List.length_take, Nat.min_eq_left hn]
      have : (l.take n).getD (n - 1) 0 = l.getD (n - 1) 0 := by
        simp only [List.getD_eq_getElem?_getD, List.getElem?_take]
        rw [if_pos (by omega)]
      rw [this]
      exact h
theorem dval_same (l m : List Int) (e : ∀ j, l.getD j 0 = m.getD j 0) : dval l = dval m := by
  induction l generalizing m with
  | nil =>
    have := dval_take_zeros m 0 (fun k _ => by have := e k; simp [List.getD] at this ⊢; omega)
    simpa [dval] using this
  | cons a l ih =>
    match m with
    | [] =>
      have := dval_take_zeros (a :: l) 0 (fun k _ => by have := e k; simp [List.getD] at this ⊢; omega)
      simp only [List.take_zero, dval] at this ⊢
      omega
    | b :: m =>
      have e0 := e 0
      simp [List.getD] at e0
      have := ih m (fun j => by have := e (j + 1); simpa [List.getD] using this)
      simp only [dval]
      omega
/-- The order of digits: what is found first from above decides. -/
theorem dval_order {l m : List Int} (hl : Dg l) (hm : Dg m) (k : Nat) (h1 : k < l.length) (h2 : k < m.length) (he : ∀ j, k < j → l.getD j 0 = m.getD j 0) (hlt : l.getD k 0 < m.getD k 0) : dval l < dval m := by
  induction k generalizing l m with
  | zero =>
    match l, m, h1, h2 with
    | x :: l, y :: m, _, _ =>
      have e : ∀ j, l.getD j 0 = m.getD j 0 := fun j => by have := he (j + 1) (by omega); simpa [List.getD] using this
      have ev : dval l = dval m := dval_same l m e
      simp only [List.getD_cons_zero] at hlt
      simp only [dval]
      omega
  | succ k ih =>
    match l, m, h1, h2 with
    | x :: l, y :: m, h1, h2 =>
      simp only [List.length_cons] at h1 h2
      have := ih hl.tail hm.tail (by omega) (by omega) (fun j hj => by have := he (j + 1) (by omega); simpa [List.getD] using this) (by simpa [List.getD] using hlt)
      have hx := hl.head
      have hy := hm.head
      simp only [dval]
      omega
/-- More digits, the greater number. -/
theorem dval_longer {l m : List Int} (hl : Dg l) (hm : Dg m) (ht : Tr m) (h : l.length < m.length) : dval l < dval m := by
  have hn : m ≠ [] := fun e => by rw [e] at h; simp at h
  rcases ht with ht | ht
  · exact absurd ht hn
  have h1 := dval_lt hl
  have h2 : dval m = dval (m.take (m.length - 1)) + wt (m.length - 1) * m.getD (m.length - 1) 0 := by
    have := dval_take_succ m (m.length - 1) (by omega)
    rw [show m.length - 1 + 1 = m.length by omega, List.take_length] at this
    exact this
  have h3 := dval_nonneg (hm.take (m.length - 1))
  have h4 := hm.getD (m.length - 1)
  have h5 : wt l.length ≤ wt (m.length - 1) := by
    rw [show m.length - 1 = l.length + (m.length - 1 - l.length) by omega, wt_add]
    have := wt_pos l.length
    have h6 := wt_pos (m.length - 1 - l.length)
    have := Int.mul_le_mul_of_nonneg_left (show 1 ≤ wt (m.length - 1 - l.length) by omega) (show 0 ≤ wt l.length by omega)
    omega
  have h7 := wt_pos (m.length - 1)
  have h8 := Int.mul_le_mul_of_nonneg_left (show 1 ≤ m.getD (m.length - 1) 0 by omega) (show 0 ≤ wt (m.length - 1) by omega)
  omega
theorem dig_length_le {n k : Nat} (h : (n : Int) < wt k) : (dig n).length ≤ k := by
  rcases Nat.lt_or_ge k (dig n).length with hk | hk
  · exfalso
    have := dval_longer (l := List.replicate k 0) (m := dig n) (fun d hd => by have := List.eq_of_mem_replicate hd; omega) (dig_Dg n) (dig_Tr n) (by simpa using hk)
    -- the value of k zeros plus the weight
    have hn : dig n ≠ [] := fun e => by rw [e] at hk; simp at hk
    have ht := (dig_Tr n).resolve_left hn
    have h2 := dval_take_succ (dig n) ((dig n).length - 1) (by omega)
    rw [show (dig n).length - 1 + 1 = (dig n).length by omega, List.take_length, dval_dig] at h2
    have h3 := dval_nonneg ((dig_Dg n).take ((dig n).length - 1))
    have h4 := (dig_Dg n).getD ((dig n).length - 1)
    have h7 := wt_pos ((dig n).length - 1)
    have h8 := Int.mul_le_mul_of_nonneg_left (show 1 ≤ (dig n).getD ((dig n).length - 1) 0 by omega) (show 0 ≤ wt ((dig n).length - 1) by omega)
    have h5 : wt k ≤ wt ((dig n).length - 1) := by
      rw [show (dig n).length - 1 = k + ((dig n).length - 1 - k) by omega, wt_add]
      have := wt_pos k
      have h6 := wt_pos ((dig n).length - 1 - k)
      have := Int.mul_le_mul_of_nonneg_left (show 1 ≤ wt ((dig n).length - 1 - k) by omega) (show 0 ≤ wt k by omega)
      omega
    omega
  · exact hk
end Go.Sub
