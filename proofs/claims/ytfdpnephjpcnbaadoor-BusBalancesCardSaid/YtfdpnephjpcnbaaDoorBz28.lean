
/- What trim, compare, Valid, made, digits and Of of package substationref01 return. -/
import Derived.Test.YtfdpnephjpcnbaaDoorBz25
import Derived.Test.YtfdpnephjpcnbaaDoorBz24
import Derived.Test.YtfdpnephjpcnbaaDoorBz01
import Derived.Lib.Hide
import Derived.Laws.AppendOwnNone
import Derived.Test.YtfdpnephjpcnbaaDoorBz03
import Derived.Deep.DeepCutAuto
import Derived.Deep.CutBlock
set_option linter.unusedSimpArgs false
set_option linter.unusedVariables false
/- What apart of package surd returns where the products are not small. -/
namespace Go.Proofs.YtfdpnephjpcnbaaDoor
open Go.RowKit Go.Sub
set_option maxHeartbeats 1000000 in
theorem apart_no1 (j a k b : Int) (w : World) (j0 : -1152921504606846976 ≤ j) (j1 : j ≤ 1152921504606846976) (a0 : -1152921504606846976 ≤ a) (a1 : a ≤ 1152921504606846976) (k0 : -1152921504606846976 ≤ k) (k1 : k ≤ 1152921504606846976) (b0 : -1152921504606846976 ≤ b) (b1 : b ≤ 1152921504606846976) (pa : ¬ (-4611686018427387904 ≤ j * a ∧ j * a ≤ 4611686018427387904)) (pb : -4611686018427387904 ≤ k * b ∧ k * b ≤ 4611686018427387904) :
    Calls Tryd.prog 63 #[.int .i64 j, .int .i64 a, .int .i64 k, .int .i64 b] w fun e w' => e = .returned (.tuple #[.int .i64 0, .bool false]) ∧ Q w w' := by
  have HA := Lib.hid (fun w => times_no j a w (by omega) (by omega) (by omega) (by omega) pa)
  have HB := Lib.hid (fun w => times_ok k b w (by omega) (by omega) (by omega) (by omega) pb.1 pb.2)
  clear pa pb
  go_enter Tryd.func63, Tryd.ntmps63
  go_wp2_with (go_at_call 85; first | ((with_reducible refine (HA.out _).mono ?_); rintro e w' ⟨rfl, rfl⟩) | ((with_reducible refine (HB.out _).mono ?_); rintro e w' ⟨rfl, rfl⟩))
  go_ret2
  refine ⟨rfl, ?_⟩
  repeat' (first | exact Q.refl _ | refine Q.alloc ?_ _ | refine Q.jk ?_ _ | refine Q.drew ?_)
set_option maxHeartbeats 1000000 in
theorem apart_no2 (j a k b : Int) (w : World) (j0 : -1152921504606846976 ≤ j) (j1 : j ≤ 1152921504606846976) (a0 : -1152921504606846976 ≤ a) (a1 : a ≤ 1152921504606846976) (k0 : -1152921504606846976 ≤ k) (k1 : k ≤ 1152921504606846976) (b0 : -1152921504606846976 ≤ b) (b1 : b ≤ 1152921504606846976) (pa : ¬ (-4611686018427387904 ≤ j * a ∧ j * a ≤ 4611686018427387904)) (pb : ¬ (-4611686018427387904 ≤ k * b ∧ k * b ≤ 4611686018427387904)) :
    Calls Tryd.prog 63 #[.int .i64 j, .int .i64 a, .int .i64 k, .int .i64 b] w fun e w' => e = .returned (.tuple #[.int .i64 0, .bool false]) ∧ Q w w' := by
  have HA := Lib.hid (fun w => times_no j a w (by omega) (by omega) (by omega) (by omega) pa)
  have HB := Lib.hid (fun w => times_no k b w (by omega) (by omega) (by omega) (by omega) pb)
  clear pa pb
  go_enter Tryd.func63, Tryd.ntmps63
  go_wp2_with (go_at_call 85; first | ((with_reducible refine (HA.out _).mono ?_); rintro e w' ⟨rfl, rfl⟩) | ((with_reducible refine (HB.out _).mono ?_); rintro e w' ⟨rfl, rfl⟩))
  go_ret2
  refine ⟨rfl, ?_⟩
  repeat' (first | exact Q.refl _ | refine Q.alloc ?_ _ | refine Q.jk ?_ _ | refine Q.drew ?_)
set_option maxHeartbeats 1000000 in
theorem apart_no3 (j a k b : Int) (w : World) (j0 : -1152921504606846976 ≤ j) (j1 : j ≤ 1152921504606846976) (a0 : -1152921504606846976 ≤ a) (a1 : a ≤ 1152921504606846976) (k0 : -1152921504606846976 ≤ k) (k1 : k ≤ 1152921504606846976) (b0 : -1152921504606846976 ≤ b) (b1 : b ≤ 1152921504606846976) (pa : -4611686018427387904 ≤ j * a ∧ j * a ≤ 4611686018427387904) (pb : ¬ (-4611686018427387904 ≤ k * b ∧ k * b ≤ 4611686018427387904)) :
    Calls Tryd.prog 63 #[.int .i64 j, .int .i64 a, .int .i64 k, .int .i64 b] w fun e w' => e = .returned (.tuple #[.int .i64 0, .bool false]) ∧ Q w w' := by
  have HA := Lib.hid (fun w => times_ok j a w (by omega) (by omega) (by omega) (by omega) pa.1 pa.2)
  have HB := Lib.hid (fun w => times_no k b w (by omega) (by omega) (by omega) (by omega) pb)
  clear pa pb
  go_enter Tryd.func63, Tryd.ntmps63
  go_wp2_with (go_at_call 85; first | ((with_reducible refine (HA.out _).mono ?_); rintro e w' ⟨rfl, rfl⟩) | ((with_reducible refine (HB.out _).mono ?_); rintro e w' ⟨rfl, rfl⟩))
  go_ret2
  refine ⟨rfl, ?_⟩
  repeat' (first | exact Q.refl _ | refine Q.alloc ?_ _ | refine Q.jk ?_ _ | refine Q.drew ?_)
set_option maxHeartbeats 1000000 in
theorem apart_no4 (j a k b : Int) (w : World) (j0 : -1152921504606846976 ≤ j) (j1 : j ≤ 1152921504606846976) (a0 : -1152921504606846976 ≤ a) (a1 : a ≤ 1152921504606846976) (k0 : -1152921504606846976 ≤ k) (k1 : k ≤ 1152921504606846976) (b0 : -1152921504606846976 ≤ b) (b1 : b ≤ 1152921504606846976) (pa : -4611686018427387904 ≤ j * a ∧ j * a ≤ 4611686018427387904) (pb : -4611686018427387904 ≤ k * b ∧ k * b ≤ 4611686018427387904) (hw : wi2 2305843009213693952 (j * a) (k * b) = false) :
    Calls Tryd.prog 63 #[.int .i64 j, .int .i64 a, .int .i64 k, .int .i64 b] w fun e w' => e = .returned (.tuple #[.int .i64 0, .bool false]) ∧ Q w w' := by
  have HA := Lib.hid (fun w => times_ok j a w (by omega) (by omega) (by omega) (by omega) pa.1 pa.2)
  have HB := Lib.hid (fun w => times_ok k b w (by omega) (by omega) (by omega) (by omega) pb.1 pb.2)
  clear pa pb
  go_enter Tryd.func63, Tryd.ntmps63
  go_wp2_with (first | (go_at_call 85; first | ((with_reducible refine (HA.out _).mono ?_); rintro e w' ⟨rfl, rfl⟩) | ((with_reducible refine (HB.out _).mono ?_); rintro e w' ⟨rfl, rfl⟩)) | (go_at_call 61; (with_reducible show Calls _ _ #[_, .slice _ 2 _] _ _); refine (swithin2 _ (j * a) (k * b) 2305843009213693952 _ (by omega) (by omega) (by simp [go_sem]) (by simp [go_sem])).mono ?_; rintro e w' ⟨rfl, rfl⟩))
  go_ret2
  refine ⟨rfl, ?_⟩
  repeat' (first | exact Q.refl _ | refine Q.alloc ?_ _ | refine Q.jk ?_ _ | refine Q.drew ?_)

theorem apart_bad (j a k b : Int) (w : World) (j0 : -1152921504606846976 ≤ j) (j1 : j ≤ 1152921504606846976) (a0 : -1152921504606846976 ≤ a) (a1 : a ≤ 1152921504606846976) (k0 : -1152921504606846976 ≤ k) (k1 : k ≤ 1152921504606846976) (b0 : -1152921504606846976 ≤ b) (b1 : b ≤ 1152921504606846976) (h : ¬ ((-2305843009213693952 ≤ j * a ∧ j * a ≤ 2305843009213693952) ∧ (-2305843009213693952 ≤ k * b ∧ k * b ≤ 2305843009213693952))) :
    Calls Tryd.prog 63 #[.int .i64 j, .int .i64 a, .int .i64 k, .int .i64 b] w fun e w' => e = .returned (.tuple #[.int .i64 0, .bool false]) ∧ Q w w' := by
  by_cases pa : -4611686018427387904 ≤ j * a ∧ j * a ≤ 4611686018427387904
  · by_cases pb : -4611686018427387904 ≤ k * b ∧ k * b ≤ 4611686018427387904
    · refine apart_no4 j a k b w j0 j1 a0 a1 k0 k1 b0 b1 pa pb ?_
      cases e : wi2 2305843009213693952 (j * a) (k * b)
      · rfl
      · have := (wi2_iff _ _ _).1 e
        exact absurd ⟨⟨this.1, this.2.1⟩, this.2.2⟩ h
    · exact apart_no3 j a k b w j0 j1 a0 a1 k0 k1 b0 b1 pa pb
  · by_cases pb : -4611686018427387904 ≤ k * b ∧ k * b ≤ 4611686018427387904
    · exact apart_no1 j a k b w j0 j1 a0 a1 k0 k1 b0 b1 pa pb
    · exact apart_no2 j a k b w j0 j1 a0 a1 k0 k1 b0 b1 pa pb
end Go.Proofs.YtfdpnephjpcnbaaDoor
/- Numbers as digits of 32 bits: plain laws. No program in sight. -/
namespace Go.Sub
abbrev B32 : Int := 4294967296
/-- The value of digits, the least one first. -/
def dval : List Int → Int
  | [] => 0
  | d :: l => d + 4294967296 * dval l
/-- Each is a digit. -/
def Dg (l : List Int) : Prop := ∀ d ∈ l, 0 ≤ d ∧ d < 4294967296
/-- The weight of the n-th digit. -/
def wt : Nat → Int
  | 0 => 1
  | n + 1 => 4294967296 * wt n
theorem wt_pos (n : Nat) : 0 < wt n := by
  induction n with
  | zero => decide
  | succ n ih => unfold wt; omega
theorem wt_add (n m : Nat) : wt (n + m) = wt n * wt m := by
  induction n with
  | zero => simp [wt]
  | succ n ih => rw [show n + 1 + m = n + m + 1 by omega]; simp only [wt]; rw [ih, Int.mul_assoc]
theorem getD_lt {l : List Int} {n : Nat} (h : n < l.length) : l.getD n 0 = l[n] := by simp [List.getD, h]
theorem getD_ge {l : List Int} {n : Nat} (h : l.length ≤ n) : l.getD n 0 = 0 := by simp [List.getD, List.getElem?_eq_none h]
theorem Dg.nil : Dg [] := fun _ h => by cases h
theorem Dg.cons {d : Int} {l : List Int} (h0 : 0 ≤ d) (h1 : d < 4294967296) (h : Dg l) : Dg (d :: l) := fun x hx => by
  rcases List.mem_cons.1 hx with rfl | hx
  · exact ⟨h0, h1⟩
  · exact h x hx
theorem Dg.head {d : Int} {l : List Int} (h : Dg (d :: l)) : 0 ≤ d ∧ d < 4294967296 := h d (List.mem_cons_self ..)
theorem Dg.tail {d : Int} {l : List Int} (h : Dg (d :: l)) : Dg l := fun x hx => h x (List.mem_cons_of_mem _ hx)
theorem Dg.append {l m : List Int} (h : Dg l) (h' : Dg m) : Dg (l ++ m) := fun x hx => (List.mem_append.1 hx).elim (h x) (h' x)
theorem Dg.take {l : List Int} (h : Dg l) (n : Nat) : Dg (l.take n) := fun x hx => h x (List.mem_of_mem_take hx)
theorem Dg.getD {l : List Int} (h : Dg l) (n : Nat) : 0 ≤ l.getD n 0 ∧ l.getD n 0 < 4294967296 := by
  rcases Nat.lt_or_ge n l.length with hn | hn
  · rw [getD_lt hn]; exact h _ (List.getElem_mem hn)
  · rw [getD_ge hn]; omega
theorem dval_append (l m : List Int) : dval (l ++ m) = dval l + wt l.length * dval m := by
  induction l with
  | nil => simp [dval, wt]
  | cons d l ih =>
    simp only [List.cons_append, dval, List.length_cons, wt, ih]
    rw [Int.mul_add, Int.mul_assoc]
    omega
theorem dval_snoc (l : List Int) (d : Int) : dval (l ++ [d]) = dval l + wt l.length * d := by
  rw [dval_append]; simp [dval]
theorem dval_nonneg {l : List Int} (h : Dg l) : 0 ≤ dval l := by
  induction l with
  | nil => exact Int.le_refl _
  | cons d l ih => have := ih h.tail; have := h.head; simp only [dval]; omega
theorem dval_lt {l : List Int} (h : Dg l) : dval l < wt l.length := by
  induction l with
  | nil => exact Int.zero_lt_one
  | cons d l ih => have := ih h.tail; have := h.head; simp only [dval, List.length_cons, wt]; omega
theorem dval_take_succ (l : List Int) (k : Nat) (hk : k < l.length) : dval (l.take (k + 1)) = dval (l.take k) + wt k * l.getD k 0 := by
  rw [List.take_succ_eq_append_getElem hk, dval_snoc, List.length_take, Nat.min_eq_left (by omega), getD_lt hk]
theorem dval_set (l : List Int) (k : Nat) (hk : k < l.length) (d : Int) : dval (l.set k d) = dval l + wt k * (d - l.getD k 0) := by
  induction l generalizing k with
  | nil => simp at hk
  | cons x l ih =>
    match k with
    | 0 => simp [dval, wt]; omega
    | k + 1 =>
      simp only [List.length_cons] at hk
      simp only [List.set_cons_succ, dval, ih k (by omega), List.getD_cons_succ, wt]
      rw [Int.mul_add, Int.mul_assoc]
      omega
theorem Dg.set {l : List Int} (h : Dg l) (k : Nat) {d : Int} (h0 : 0 ≤ d) (h1 : d < 4294967296) : Dg (l.set k d) := fun x hx => by
  rcases List.mem_or_eq_of_mem_set hx with hx | rfl
  · exact h x hx
  · exact ⟨h0, h1⟩
/-- No leading zero. -/
def Tr (l : List Int) : Prop := l = [] ∨ l.getD (l.length - 1) 0 ≠ 0
/-- The digits of a number. -/
def dig (n : Nat) : List Int := if h : n = 0 then [] else ((n % 4294967296 : Nat) : Int) :: dig (n / 4294967296)
termination_by n
decreasing_by omega
theorem dig_zero : dig 0 = [] := by unfold dig; simp
theorem dig_pos {n : Nat} (h : n ≠ 0) : dig n = ((n % 4294967296 : Nat) : Int) :: dig (n / 4294967296) := by
  conv => lhs; unfold dig
  simp [h]
theorem dig_Dg (n : Nat) : Dg (dig n) := by
  induction n using Nat.strongRecOn with
  | _ n ih =>
    rcases Nat.decEq n 0 with h | h
    · rw [dig_pos h]; exact Dg.cons (by omega) (by omega) (ih _ (by omega))
    · subst h; rw [dig_zero]; exact Dg.nil
theorem dval_dig (n : Nat) : dval (dig n) = n := by
  induction n using Nat.strongRecOn with
  | _ n ih =>
    rcases Nat.decEq n 0 with h | h
    · rw [dig_pos h]; simp only [dval]; rw [ih _ (by omega)]; omega
    · subst h; rw [dig_zero]; rfl
theorem dig_nil {n : Nat} : dig n = [] ↔ n = 0 := by
  constructor
  · intro h
    rcases Nat.decEq n 0 with h' | h'
    · rw [dig_pos h'] at h; cases h
    · exact h'
  · rintro rfl; exact dig_zero
theorem Tr.tail {d : Int} {l : List Int} (h : Tr (d :: l)) : Tr l := by
  rcases l with _ | ⟨e, l⟩
  · exact .inl rfl
  · right
    rcases h with h | h
    · cases h
    · simpa [List.getD] using h
theorem dval_pos {l : List Int} (h : Dg l) (ht : Tr l) (hn : l ≠ []) : 0 < dval l := by
  induction l with
  | nil => exact absurd rfl hn
  | cons d l ih =>
    have hd := h.head
    rcases l with _ | ⟨e, l⟩
    · rcases ht with ht | ht
      · cases ht
      · simp [List.getD] at ht; simp [dval]; omega
    · have := ih h.tail ht.tail (by simp)
      simp only [dval] at this ⊢
      omega
/-- Digits without a leading zero are those of their value. -/
theorem eq_dig {l : List Int} (h : Dg l) (ht : Tr l) : l = dig (dval l).toNat := by
  induction l with
  | nil => simp [dval, dig_zero]
  | cons d l ih =>
    have hd := h.head
    have hp := dval_pos h ht (by simp)
    have hn := dval_nonneg h.tail
    rw [dig_pos (by omega)]
    have e1 : (((dval (d :: l)).toNat % 4294967296 : Nat) : Int) = d := by simp only [dval] at *; omega
    have e2 : (dval (d :: l)).toNat / 4294967296 = (dval l).toNat := by simp only [dval] at *; omega
    rw [e1, e2, ← ih h.tail ht.tail]
theorem dig_Tr (n : Nat) : Tr (dig n) := by
  induction n using Nat.strongRecOn with
  | _ n ih =>
    rcases Nat.decEq n 0 with h | h
    · rw [dig_pos h]
      rcases ih (n / 4294967296) (by omega) with h1 | h1
      · right
        rw [h1]
        have : n / 4294967296 = 0 := dig_nil.1 h1
        simp [List.getD]
        omega
      · right
        cases e : dig (n / 4294967296) with
        | nil =>
          have : n / 4294967296 = 0 := dig_nil.1 e
          simp [List.getD]
          omega
        | cons x m =>
          rw [e] at h1
          simpa [List.getD] using h1
    · subst h; exact .inl dig_zero
/-- How many digits are left without leading zeros. -/
theorem dval_take_zeros (l : List Int) (n : Nat) (h : ∀ k, n ≤ k → l.getD k 0 = 0) : dval (l.take n) = dval l := by
  induction l generalizing n with
  | nil => simp
  | cons d l ih =>
    match n with
    | 0 =>
      have h0 := h 0 (Nat.le_refl _)
      simp [List.getD] at h0
      have := ih 0 (fun k _ => by have := h (k + 1) (by omega); simpa [List.getD] using this)
      simp only [List.take_zero, dval] at this ⊢
      omega
    | n + 1 =>
      simp only [List.take_succ_cons, dval]
      rw [ih n (fun k hk => by have := h (k + 1) (by omega); simpa [List.getD] using this)]
theorem Tr.take {l : List Int} {n : Nat} (hn : n ≤ l.length) (h : n = 0 ∨ l.getD (n - 1) 0 ≠ 0) : Tr (l.take n) := by
  rcases Nat.eq_zero_or_pos n with rfl | hp
  · exact .inl (by simp)
  · right
    rcases h with h | h
    · omega
    · rw [List.length_take, Nat.min_eq_left hn]
      have : (l.take n).getD (n - 1) 0 = l.getD (n - 1) 0 := by
        simp only [List.getD_eq_getElem?_getD, List.getElem?_take]
        rw [if_pos (by omega)]
      rw [this]
      exact h
theorem dval_same (l m : List Int) (e : ∀ j, l.getD j 0 = m.getD j 0) : dval l = dval m := by
  induction l generalizing m with
  | nil =>
    have := dval_take_zeros m 0 (fun k _ => by have := e k; simp [List.getD] at this ⊢; omega)
    simpa [dval] using this
  | cons a l ih =>
    match m with
    | [] =>
      have := dval_take_zeros (a :: l) 0 (fun k _ => by have := e k; simp [List.getD] at this ⊢; omega)
      simp only [List.take_zero, dval] at this ⊢
      omega
    | b :: m =>
      have e0 := e 0
      simp [List.getD] at e0
      have := ih m (fun j => by have := e (j + 1); simpa [List.getD] using this)
      simp only [dval]
      omega
/-- The order of digits: what is found first from above decides. -/
theorem dval_order {l m : List Int} (hl : Dg l) (hm : Dg m) (k : Nat) (h1 : k < l.length) (h2 : k < m.length) (he : ∀ j, k < j → l.getD j 0 = m.getD j 0) (hlt : l.getD k 0 < m.getD k 0) : dval l < dval m := by
  induction k generalizing l m with
  | zero =>
    match l, m, h1, h2 with
    | x :: l, y :: m, _, _ =>
      have e : ∀ j, l.getD j 0 = m.getD j 0 := fun j => by have := he (j + 1) (by omega); simpa [List.getD] using this
      have ev : dval l = dval m := dval_same l m e
      simp only [List.getD_cons_zero] at hlt
      simp only [dval]
      omega
  | succ k ih =>
    match l, m, h1, h2 with
    | x :: l, y :: m, h1, h2 =>
      simp only [List.length_cons] at h1 h2
      have := ih hl.tail hm.tail (by omega) (by omega) (fun j hj => by have := he (j + 1) (by omega); simpa [List.getD] using this) (by simpa [List.getD] using hlt)
      have hx := hl.head
      have hy := hm.head
      simp only [dval]
      omega
/-- More digits, the greater number. -/
theorem dval_longer {l m : List Int} (hl : Dg l) (hm : Dg m) (ht : Tr m) (h : l.length < m.length) : dval l < dval m := by
  have hn : m ≠ [] := fun e => by rw [e] at h; simp at h
  rcases ht with ht | ht
  · exact absurd ht hn
  have h1 := dval_lt hl
  have h2 : dval m = dval (m.take (m.length - 1)) + wt (m.length - 1) * m.getD (m.length - 1) 0 := by
    have := dval_take_succ m (m.length - 1) (by omega)
    rw [show m.length - 1 + 1 = m.length by omega, List.take_length] at this
    exact this
  have h3 := dval_nonneg (hm.take (m.length - 1))
  have h4 := hm.getD (m.length - 1)
  have h5 : wt l.length ≤ wt (m.length - 1) := by
    rw [show m.length - 1 = l.length + (m.length - 1 - l.length) by omega, wt_add]
    have := wt_pos l.length
    have h6 := wt_pos (m.length - 1 - l.length)
    have := Int.mul_le_mul_of_nonneg_left (show 1 ≤ wt (m.length - 1 - l.length) by omega) (show 0 ≤ wt l.length by omega)
    omega
  have h7 := wt_pos (m.length - 1)
  have h8 := Int.mul_le_mul_of_nonneg_left (show 1 ≤ m.getD (m.length - 1) 0 by omega) (show 0 ≤ wt (m.length - 1) by omega)
  omega
theorem dig_length_le {n k : Nat} (h : (n : Int) < wt k) : (dig n).length ≤ k := by
  rcases Nat.lt_or_ge k (dig n).length with hk | hk
  · exfalso
    have := dval_longer (l := List.replicate k 0) (m := dig n) (fun d hd => by have := List.eq_of_mem_replicate hd; omega) (dig_Dg n) (dig_Tr n) (by simpa using hk)
    -- the value of k zeros plus the weight
    have hn : dig n ≠ [] := fun e => by rw [e] at hk; simp at hk
    have ht := (dig_Tr n).resolve_left hn
    have h2 := dval_take_succ (dig n) ((dig n).length - 1) (by omega)
    rw [show (dig n).length - 1 + 1 = (dig n).length by omega, List.take_length, dval_dig] at h2
    have h3 := dval_nonneg ((dig_Dg n).take ((dig n).length - 1))
    have h4 := (dig_Dg n).getD ((dig n).length - 1)
    have h7 := wt_pos ((dig n).length - 1)
    have h8 := Int.mul_le_mul_of_nonneg_left (show 1 ≤ (dig n).getD ((dig n).length - 1) 0 by omega) (show 0 ≤ wt ((dig n).length - 1) by omega)
    have h5 : wt k ≤ wt ((dig n).length - 1) := by
      rw [show (dig n).length - 1 = k + ((dig n).length - 1 - k) by omega, wt_add]
      have := wt_pos k
      have h6 := wt_pos ((dig n).length - 1 - k)
      have := Int.mul_le_mul_of_nonneg_left (show 1 ≤ wt ((dig n).length - 1 - k) by omega) (show 0 ≤ wt k by omega)
      omega
    omega
  · exact hk
end Go.Sub
/- Slices of 32-bit digits, as they lie in memory. -/
namespace Go
open Go.RowKit Go.Sub
/-- The slice A, n, c holds the digits l. -/
def Rd (w : World) (A : Option Addr) (n c : Nat) (l : List Int) : Prop :=
  l.length = n ∧ n ≤ c ∧ (0 < n → ∃ g, A = some ⟨g, 0, none⟩ ∧ g < w.heap.size ∧ ∀ i, i < n → w.cell? ⟨g, i, none⟩ = some (.int .u32 (l.getD i 0))) ∧ (A = none → c = 0)
theorem Rd.q {w w' : World} {A : Option Addr} {n c : Nat} {l : List Int} (h : Rd w A n c l) (hq : Q w w') : Rd w' A n c l := by
  refine ⟨h.1, h.2.1, fun hn => ?_, h.2.2.2⟩
  obtain ⟨g, rfl, hg, hc⟩ := h.2.2.1 hn
  have hb := hq.below
  exact ⟨g, rfl, Nat.lt_of_lt_of_le hg hb.size, fun i hi => (hb.cell (p := ⟨g, i, none⟩) hg).trans (hc i hi)⟩
theorem Rd.nil (w : World) : Rd w none 0 0 [] := ⟨rfl, Nat.zero_le _, fun h => absurd h (by omega), fun _ => rfl⟩
theorem Rd.nil' (w : World) (ad : Addr) (c : Nat) : Rd w (some ad) 0 c [] := ⟨rfl, Nat.zero_le _, fun h => absurd h (by omega), fun h => by cases h⟩
theorem Rd.at_ {w : World} {A : Option Addr} {n c : Nat} {l : List Int} (h : Rd w A n c l) (hn : 0 < n) : ∃ g, A = some ⟨g, 0, none⟩ ∧ Old g w ∧ Hid (∀ i, i < n → w.cell? ⟨g, i, none⟩ = some (.int .u32 (l.getD i 0))) := by
  obtain ⟨g, e, hg, hc⟩ := h.2.2.1 hn
  exact ⟨g, e, ⟨hg⟩, Lib.hid hc⟩
theorem Rd.take {w : World} {A : Option Addr} {n c k c' : Nat} {l : List Int} (h : Rd w A n c l) (hk : k ≤ n) (hc' : k ≤ c') (hA : A = none → c' = 0) : Rd w A k c' (l.take k) := by
  refine ⟨by rw [List.length_take, h.1]; omega, hc', fun hp => ?_, hA⟩
  obtain ⟨g, e, hg, hc⟩ := h.2.2.1 (by omega)
  refine ⟨g, e, hg, fun i hi => ?_⟩
  rw [hc i (by omega)]
  simp only [List.getD_eq_getElem?_getD, List.getElem?_take]
  rw [if_pos hi]
/-- The slice lies in a block that w has not. -/
def Fr (w : World) (A : Option Addr) : Prop := ∀ ad, A = some ad → w.heap.size ≤ ad.block
theorem Fr.q {w w' : World} {A : Option Addr} (h : Fr w' A) (hq : Q w w') : Fr w A := fun ad e => Nat.le_trans hq.below.size (h ad e)
theorem Fr.none (w : World) : Fr w none := fun _ h => by cases h
theorem World.jk_block {W W' : World} (hs : W.heap.size = W'.heap.size) (k : Jk) (i : Nat) (hi : W.heap.size ≤ i) : (W'.jk k).heap[i]? = (W.jk k).heap[i]? := by
  simp only [World.jk, Array.getElem?_append]
  rw [if_neg (by omega), if_neg (by omega), hs]
/-- What lies in new blocks is not touched by a store into an old one. -/
theorem Rd.swap {W W' : World} {k : Jk} {A : Option Addr} {n c : Nat} {l : List Int} (hs : W.heap.size = W'.heap.size) (h : Rd (W.jk k) A n c l) (hf : Fr W A) : Rd (W'.jk k) A n c l := by
  refine ⟨h.1, h.2.1, fun hn => ?_, h.2.2.2⟩
  obtain ⟨g, rfl, hg, hc⟩ := h.2.2.1 hn
  have hge : W.heap.size ≤ g := hf ⟨g, 0, .none⟩ rfl
  refine ⟨g, rfl, by rw [World.size_jk] at *; omega, fun i hi => ?_⟩
  rw [← hc i hi]
  exact World.cell?_of_block (w := W.jk k) (a := ⟨g, i, .none⟩) (World.jk_block hs k g hge)
theorem Rd.swap2 {W W' : World} {k k2 : Jk} {A : Option Addr} {n c : Nat} {l : List Int} (hs : W.heap.size = W'.heap.size) (h : Rd ((W.jk k).jk k2) A n c l) (hf : Fr W A) : Rd ((W'.jk k).jk k2) A n c l := by
  rw [World.jk_jk] at *
  exact h.swap hs hf
theorem Rd.swap3 {W W' : World} {k k2 k3 : Jk} {A : Option Addr} {n c : Nat} {l : List Int} (hs : W.heap.size = W'.heap.size) (h : Rd (((W.jk k).jk k2).jk k3) A n c l) (hf : Fr W A) : Rd (((W'.jk k).jk k2).jk k3) A n c l := by
  rw [World.jk_jk] at *
  exact h.swap2 hs hf
theorem Rd.swap4 {W W' : World} {k k2 k3 k4 : Jk} {A : Option Addr} {n c : Nat} {l : List Int} (hs : W.heap.size = W'.heap.size) (h : Rd ((((W.jk k).jk k2).jk k3).jk k4) A n c l) (hf : Fr W A) : Rd ((((W'.jk k).jk k2).jk k3).jk k4) A n c l := by
  rw [World.jk_jk] at *
  exact h.swap3 hs hf
theorem Rd.two (w : World) (a b : Int) (t : TypeId) : Rd (w.alloc (.cells #[.int .u32 a, .int .u32 b] t)) (some ⟨w.heap.size, 0, .none⟩) 2 2 [a, b] := by
  refine ⟨rfl, Nat.le_refl _, fun _ => ⟨_, rfl, by simp, fun i hi => ?_⟩, fun h => by cases h⟩
  rw [cell_of_row _ _ _ _ _ (0, 0) (heap_alloc_new w _)]
  match i, hi with
  | 0, _ => rfl
  | 1, _ => rfl
theorem Rd.one (w : World) (a : Int) (t : TypeId) : Rd (w.alloc (.cells #[.int .u32 a] t)) (some ⟨w.heap.size, 0, .none⟩) 1 1 [a] := by
  refine ⟨rfl, Nat.le_refl _, fun _ => ⟨_, rfl, by simp, fun i hi => ?_⟩, fun h => by cases h⟩
  rw [cell_of_row _ _ _ _ _ (0, 0) (heap_alloc_new w _)]
  match i, hi with
  | 0, _ => rfl
/-- A call that makes memory at most returned a slice of the digits l, in a new block. -/
def RetS (l : List Int) (w : World) (e : Ending) (w' : World) : Prop := ∃ A n c k, e = .returned (.slice A n c) ∧ w' = w.jk k ∧ Rd (w.jk k) A n c l ∧ Fr w A
/-- .. an integer with the sign b and the digits l. -/
def RetI (b : Bool) (l : List Int) (w : World) (e : Ending) (w' : World) : Prop := ∃ A n c k, e = .returned (.agg #[.bool b, .slice A n c]) ∧ w' = w.jk k ∧ Rd (w.jk k) A n c l ∧ Fr w A
/-- .. and no error. -/
def RetI2 (b : Bool) (l : List Int) (w : World) (e : Ending) (w' : World) : Prop := ∃ A n c k, e = .returned (.tuple #[.agg #[.bool b, .slice A n c], .int .i64 0]) ∧ w' = w.jk k ∧ Rd (w.jk k) A n c l ∧ Fr w A
theorem RetS.of {l : List Int} {w w' : World} {e : Ending} {A : Option Addr} {n c : Nat} (he : e = .returned (.slice A n c)) (hq : Q w w') (hr : Rd w' A n c l) (hf : Fr w A) : RetS l w e w' := by
  obtain ⟨k, rfl⟩ := hq
  exact ⟨A, n, c, k, he, rfl, hr, hf⟩
theorem RetI.of {b : Bool} {l : List Int} {w w' : World} {e : Ending} {A : Option Addr} {n c : Nat} (he : e = .returned (.agg #[.bool b, .slice A n c])) (hq : Q w w') (hr : Rd w' A n c l) (hf : Fr w A) : RetI b l w e w' := by
  obtain ⟨k, rfl⟩ := hq
  exact ⟨A, n, c, k, he, rfl, hr, hf⟩
theorem RetI2.of {b : Bool} {l : List Int} {w w' : World} {e : Ending} {A : Option Addr} {n c : Nat} (he : e = .returned (.tuple #[.agg #[.bool b, .slice A n c], .int .i64 0])) (hq : Q w w') (hr : Rd w' A n c l) (hf : Fr w A) : RetI2 b l w e w' := by
  obtain ⟨k, rfl⟩ := hq
  exact ⟨A, n, c, k, he, rfl, hr, hf⟩
theorem Rd.one' (w : World) (a : Int) (t : TypeId) (g : Nat) (hg : g = w.heap.size) : Rd (w.alloc (.cells #[.int .u32 a] t)) (some ⟨g, 0, .none⟩) 1 1 [a] := hg ▸ Rd.one w a t
/-- .. a slice of digits with the value v, not more than n. -/
def RetV (v : Int) (N : Nat) (w : World) (e : Ending) (w' : World) : Prop := ∃ l A n c k, e = .returned (.slice A n c) ∧ w' = w.jk k ∧ Rd (w.jk k) A n c l ∧ Fr w A ∧ Dg l ∧ dval l = v ∧ n ≤ N
theorem RetV.of {v : Int} {N : Nat} {l : List Int} {w w' : World} {e : Ending} {A : Option Addr} {n c : Nat} (he : e = .returned (.slice A n c)) (hq : Q w w') (hr : Rd w' A n c l) (hf : Fr w A) (hd : Dg l) (hv : dval l = v) (hn : n ≤ N) : RetV v N w e w' := by
  obtain ⟨k, rfl⟩ := hq
  exact ⟨l, A, n, c, k, he, rfl, hr, hf, hd, hv, hn⟩
end Go
namespace Go.Proofs.YtfdpnephjpcnbaaDoor
open Go.RowKit Go.Sub
theorem infoU32 : ∃ i, Tryd.prog.info? 176 = some i ∧ i.zero = some (.int .u32 0) ∧ i.size = 1 ∧ i.bytes = 4 := by
  have h : (Tryd.prog.info? 176).map (fun i => (i.zero, i.size, i.bytes)) = some (some (.int .u32 0), 1, 4) := by kernel_rfl
  cases hi : Tryd.prog.info? 176 with
  | none => rw [hi] at h; cases h
  | some i =>
    rw [hi] at h
    simp only [Option.map_some, Option.some.injEq, Prod.mk.injEq] at h
    exact ⟨i, rfl, h.1, h.2.1, h.2.2⟩
/-- The slice v holds the digits zs, in a block behind W0's. -/
def RowU (W0 w : World) (v : Value) (zs : List Int) : Prop := w.ownsRow W0.heap.size 176 1 v zs.length (zs.map (Value.int .u32))
theorem RowU.nil (W0 w : World) : RowU W0 w (.slice none 0 0) [] := World.ownsRow_nil _ _ _ _
theorem RowU.q {W0 w w' : World} {v : Value} {zs : List Int} (h : RowU W0 w v zs) (hq : Q w w') : RowU W0 w' v zs := ownsRow_q h hq
theorem RowU.rd {W0 w : World} {v : Value} {zs : List Int} (h : RowU W0 w v zs) : ∃ A c, v = .slice A zs.length c ∧ Rd w A zs.length c zs := by
  rcases h.2 with ⟨rfl, h0⟩ | ⟨g, cap, cur, rfl, hb, hg, hc, _, hcs, htake⟩
  · have : zs = [] := List.eq_nil_of_length_eq_zero h0
    subst this
    exact ⟨none, 0, rfl, Rd.nil _⟩
  · refine ⟨_, cap, rfl, rfl, hc, fun hn => ⟨g, rfl, (h.lt g rfl).2, fun k hk => ?_⟩, fun h => by cases h⟩
    have := h.cells (g := g) rfl k (.int .u32 (zs.getD k 0)) (by simp [List.getD, hk])
    have e : (⟨g, 0, none⟩ : Addr).add k = ⟨g, k, none⟩ := by unfold Addr.add; split <;> simp_all
    rw [e] at this
    exact this
/-- append of digits that lie elsewhere. -/
theorem wpList_app_u32 {ops : Array Oper} {rest : List Oper} {o : Oper} {a : Act} {w : World} {Q' : Exit → Act → World → Prop} (hgd : o.guard = none) (s x : Operand)
    (ho : o.op = .call { callee := .builtin .append, args := #[s, x], argTypes := #[144, 144] }) (W0 : World) (v : Value) (zs ys : List Int) (n m : Nat) (A : Option Addr) (c : Nat)
    (hs : a.eval s = v) (hx : a.eval x = .slice A m c) (hown : RowU W0 w v zs) (hzn : zs.length = n) (hrd : Rd w A m c ys) (hlen : n + m < 1000000) (hQ : Q W0 w)
    (h : ∀ A' c' kk, RowU W0 (W0.jk kk) (.slice A' (n + m) c') (zs ++ ys) → wpList Tryd.prog ops Q' rest (a.put o.dst (.slice A' (n + m) c')) (W0.jk kk)) : wpList Tryd.prog ops Q' (o :: rest) a w := by
  obtain ⟨i, hi, hz, hs1, hb⟩ := infoU32
  subst hzn
  obtain rfl : ys.length = m := hrd.1
  rcases Nat.eq_zero_or_pos ys.length with h0 | h0
  · have hy : ys = [] := List.eq_nil_of_length_eq_zero h0
    subst hy
    obtain ⟨A', c', rfl, hr'⟩ := hown.rd
    obtain ⟨kk, rfl⟩ := hQ
    rcases A with _ | ad
    · obtain rfl : c = 0 := hrd.2.2.2 rfl
      refine wpList_append_own_none hgd s x 144 ho W0.heap.size 176 i 1 Tryd.underlying144 hi _ zs.length _ hs hown hx ?_
      have := h A' c' kk (by simpa using hown)
      simpa using this
    · refine wpList_app hgd s x 144 ho W0 176 i (.int .u32 0) 1 4 Tryd.underlying144 hi hz hs1 hb rfl (by decide) _ _ _ hs hown ad 0 c [] hx rfl (fun j u hj => by simp at hj) (fun u hu => by simp at hu) (by unfold maxLen; omega) (by omega) ⟨kk, rfl⟩ ?_
      intro v' k2 h1 _
      have h1' : RowU W0 (W0.jk k2) v' zs := by unfold RowU; simpa using h1
      obtain ⟨A2, c2, rfl, _⟩ := h1'.rd
      have := h A2 c2 k2 (by simpa using h1')
      simpa using this
  · obtain ⟨g, rfl, hg, hc⟩ := hrd.2.2.1 h0
    refine wpList_app hgd s x 144 ho W0 176 i (.int .u32 0) 1 4 Tryd.underlying144 hi hz hs1 hb rfl (by decide) v _ _ hs hown ⟨g, 0, none⟩ ys.length c (ys.map (Value.int .u32)) hx (by simp) ?_ ?_ (by unfold maxLen; omega) (by omega) hQ ?_
    · intro j u hj
      have e : (⟨g, 0, none⟩ : Addr).add j = ⟨g, j, none⟩ := by unfold Addr.add; split <;> simp_all
      rw [List.getElem?_map] at hj
      obtain ⟨z, hz1, rfl⟩ := Option.map_eq_some_iff.1 hj
      have hjl : j < ys.length := (List.getElem?_eq_some_iff.1 hz1).1
      rw [e, hc j hjl]
      simp [List.getD, hz1]
    · intro u hu
      obtain ⟨z, _, rfl⟩ := List.mem_map.1 hu
      rfl
    · intro v' kk h1 _
      have h1' : RowU W0 (W0.jk kk) v' (zs ++ ys) := by unfold RowU; simpa using h1
      obtain ⟨A', c', rfl, _⟩ := h1'.rd
      have := h A' c' kk (by simpa using h1')
      simpa using this
/-- An empty slice of the call's own. -/
theorem RowU.empty (w : World) : RowU w (w.alloc (.cells #[] 176)) (.slice (some ⟨w.heap.size, 0, none⟩) 0 0) [] :=
  ⟨by simp, .inr ⟨w.heap.size, 0, #[], rfl, Nat.le_refl _, heap_alloc_new w _, Nat.le_refl _, by unfold maxLen; omega, rfl, rfl⟩⟩
theorem RowU.fr {W0 w : World} {A : Option Addr} {n c : Nat} {zs : List Int} (h : RowU W0 w (.slice A n c) zs) : Fr W0 A := by
  intro ad e
  subst e
  exact (h.lt ad.block rfl).1
theorem RowU.rd' {W0 w : World} {A : Option Addr} {n c : Nat} {zs : List Int} (h : RowU W0 w (.slice A n c) zs) : Rd w A n c zs := by
  obtain ⟨A', c', e, hr⟩ := h.rd
  injection e with e1 e2 e3
  subst e1 e2 e3
  exact hr
end Go.Proofs.YtfdpnephjpcnbaaDoor
/- Products, sums and differences of digits: the steps of the loops. No program in sight. -/
namespace Go.Sub
theorem mul_bd {x y : Int} (hx : 0 ≤ x ∧ x < 4294967296) (hy : 0 ≤ y ∧ y < 4294967296) : 0 ≤ x * y ∧ x * y ≤ 18446744065119617025 := by
  have h1 := Int.mul_nonneg hx.1 hy.1
  have h2 := Int.mul_le_mul (show x ≤ 4294967295 by omega) (show y ≤ 4294967295 by omega) hy.1 (by decide)
  omega
/-- Within a row of the product: i digits of a are done, and k of b for the next one; c is carried. -/
structure MulInv (a b o : List Int) (i k : Nat) (c : Int) : Prop where
  len : o.length = a.length + b.length
  dg : Dg o
  c0 : 0 ≤ c
  c1 : c < 4294967296
  zero : ∀ j, i + b.length ≤ j → o.getD j 0 = 0
  val : dval o + wt (i + k) * c = dval (a.take i) * dval b + wt i * (a.getD i 0 * dval (b.take k))
theorem MulInv.step {a b o : List Int} {i k : Nat} {c t : Int} (h : MulInv a b o i k c) (ha : Dg a) (hb : Dg b) (hi : i < a.length) (hk : k < b.length) (ht : t = a.getD i 0 * b.getD k 0 + o.getD (i + k) 0 + c) :
    MulInv a b (o.set (i + k) (t % 4294967296)) i (k + 1) (t / 4294967296) ∧ 0 ≤ t ∧ t < 18446744073709551616 := by
  have h1 := mul_bd (ha.getD i) (hb.getD k)
  have h2 := h.dg.getD (i + k)
  have h3 := h.c0
  have h4 := h.c1
  have hl := h.len
  have ht0 : 0 ≤ t := by omega
  have ht1 : t < 18446744073709551616 := by omega
  refine ⟨⟨by simp [hl], h.dg.set _ (by omega) (by omega), by omega, by omega, fun j hj => ?_, ?_⟩, ht0, ht1⟩
  · rw [List.getD_eq_getElem?_getD, List.getElem?_set_ne (by omega), ← List.getD_eq_getElem?_getD]
    exact h.zero j hj
  · have hv := h.val
    rw [dval_set _ _ (by omega), dval_take_succ b k hk]
    have e1 : wt (i + (k + 1)) = 4294967296 * wt (i + k) := by rw [show i + (k + 1) = i + k + 1 by omega]; rfl
    have e2 : wt (i + k) = wt i * wt k := wt_add i k
    rw [e1]
    generalize dval o = D at *
    generalize dval (a.take i) * dval b = X at *
    generalize dval (b.take k) = Y at *
    generalize o.getD (i + k) 0 = z at *
    generalize a.getD i 0 = x at *
    generalize b.getD k 0 = y at *
    have e3 : t % 4294967296 = t - 4294967296 * (t / 4294967296) := by omega
    rw [e3]
    generalize t / 4294967296 = q at *
    subst ht
    rw [e2] at *
    generalize wt i = p at *
    generalize wt k = r at *
    grind
theorem MulInv.row {a b o : List Int} {i : Nat} {c : Int} (h : MulInv a b o i b.length c) (hi : i < a.length) : MulInv a b (o.set (i + b.length) c) (i + 1) 0 0 := by
  have hl := h.len
  refine ⟨by simp [hl], h.dg.set _ h.c0 h.c1, by decide, by decide, fun j hj => ?_, ?_⟩
  · rw [List.getD_eq_getElem?_getD, List.getElem?_set_ne (by omega), ← List.getD_eq_getElem?_getD]
    exact h.zero j (by omega)
  · have hv := h.val
    rw [dval_set _ _ (by omega), h.zero (i + b.length) (Nat.le_refl _), dval_take_succ a i hi, Int.mul_zero, Int.add_zero]
    rw [List.take_length] at hv
    simp only [List.take_zero, dval, Int.mul_zero, Int.add_zero, Int.sub_zero]
    rw [Int.add_mul, ← Int.mul_assoc (wt i)] at *
    omega
theorem MulInv.start (a b : List Int) : MulInv a b (List.replicate (a.length + b.length) 0) 0 0 0 := by
  have hz : ∀ n, dval (List.replicate n 0) = 0 := fun n => by
    induction n with
    | zero => rfl
    | succ n ih => rw [List.replicate_succ]; simp [dval, ih]
  refine ⟨by simp, fun d hd => by have := List.eq_of_mem_replicate hd; omega, by decide, by decide, fun j _ => ?_, ?_⟩
  · simp [List.getD, List.getElem?_replicate]
    split <;> rfl
  · rw [hz]
    simp [dval]
theorem MulInv.done {a b o : List Int} (h : MulInv a b o a.length 0 0) : dval o = dval a * dval b := by
  have := h.val
  simpa [List.take_length, dval] using this
/-- A sum: i digits are done, c is carried. -/
structure AddInv (a b o : List Int) (i : Nat) (c : Int) : Prop where
  len : o.length = i
  dg : Dg o
  c0 : 0 ≤ c
  c1 : c ≤ 1
  val : dval o + wt i * c = dval (a.take i) + dval (b.take i)
theorem dval_take_next (a : List Int) (i : Nat) : dval (a.take (i + 1)) = dval (a.take i) + wt i * a.getD i 0 := by
  rcases Nat.lt_or_ge i a.length with h | h
  · exact dval_take_succ a i h
  · rw [List.take_of_length_le (by omega), List.take_of_length_le h, getD_ge h]
    omega
theorem AddInv.step {a b o : List Int} {i : Nat} {c t : Int} (h : AddInv a b o i c) (ha : Dg a) (hb : Dg b) (ht : t = c + a.getD i 0 + b.getD i 0) :
    AddInv a b (o ++ [t % 4294967296]) (i + 1) (t / 4294967296) ∧ 0 ≤ t ∧ t < 8589934592 := by
  have h1 := ha.getD i
  have h2 := hb.getD i
  have h3 := h.c0
  have h4 := h.c1
  have hl := h.len
  refine ⟨⟨by simp [hl], h.dg.append (Dg.cons (by omega) (by omega) Dg.nil), by omega, by omega, ?_⟩, by omega, by omega⟩
  have hv := h.val
  rw [dval_snoc, dval_take_next, dval_take_next, hl]
  have e1 : wt (i + 1) = 4294967296 * wt i := rfl
  have e3 : t % 4294967296 = t - 4294967296 * (t / 4294967296) := by omega
  rw [e1, e3]
  generalize t / 4294967296 = q at *
  generalize dval o = D at *
  generalize dval (a.take i) = X at *
  generalize dval (b.take i) = Y at *
  generalize a.getD i 0 = x at *
  generalize b.getD i 0 = y at *
  subst ht
  generalize wt i = p at *
  grind
theorem AddInv.start (a b : List Int) : AddInv a b [] 0 0 := ⟨rfl, Dg.nil, by decide, by decide, by simp [dval]⟩
theorem AddInv.done {a b o : List Int} {i : Nat} (h : AddInv a b o i 0) (ha : a.length ≤ i) (hb : b.length ≤ i) : dval o = dval a + dval b := by
  have := h.val
  rw [List.take_of_length_le ha, List.take_of_length_le hb] at this
  omega
/-- A difference: i digits are done, c is borrowed. -/
structure SubInv (a b o : List Int) (i : Nat) (c : Int) : Prop where
  len : o.length = i
  dg : Dg o
  c0 : 0 ≤ c
  c1 : c ≤ 1
  val : dval o = dval (a.take i) - dval (b.take i) + wt i * c
theorem SubInv.step {a b o : List Int} {i : Nat} {c t : Int} (h : SubInv a b o i c) (ha : Dg a) (hb : Dg b) (ht : t = (a.getD i 0 - c - b.getD i 0) % 18446744073709551616) :
    SubInv a b (o ++ [t % 4294967296]) (i + 1) (t / 9223372036854775808) ∧ 0 ≤ t ∧ t < 18446744073709551616 := by
  have h1 := ha.getD i
  have h2 := hb.getD i
  have h3 := h.c0
  have h4 := h.c1
  have hl := h.len
  refine ⟨⟨by simp [hl], h.dg.append (Dg.cons (by omega) (by omega) Dg.nil), by omega, by omega, ?_⟩, by omega, by omega⟩
  have hv := h.val
  rw [dval_snoc, dval_take_next, dval_take_next, hl]
  have e1 : wt (i + 1) = 4294967296 * wt i := rfl
  have e3 : t % 4294967296 = a.getD i 0 - c - b.getD i 0 + 4294967296 * (t / 9223372036854775808) := by omega
  rw [e1, e3]
  generalize t / 9223372036854775808 = q at *
  generalize dval o = D at *
  generalize dval (a.take i) = X at *
  generalize dval (b.take i) = Y at *
  generalize a.getD i 0 = x at *
  generalize b.getD i 0 = y at *
  clear ht e3 e1
  generalize wt i = p at *
  grind
theorem SubInv.start (a b : List Int) : SubInv a b [] 0 0 := ⟨rfl, Dg.nil, by decide, by decide, by simp [dval]⟩
theorem SubInv.done {a b o : List Int} {c : Int} (h : SubInv a b o a.length c) (hb : b.length ≤ a.length) (hle : dval b ≤ dval a) : dval o = dval a - dval b := by
  have hv := h.val
  have h1 := dval_lt h.dg
  rw [h.len] at h1
  rw [List.take_length, List.take_of_length_le hb] at hv
  have h0 := h.c0
  have h2 := h.c1
  have hc : c = 0 ∨ c = 1 := by omega
  rcases hc with rfl | rfl
  · omega
  · omega
theorem len_le_of_dval {a b : List Int} (ha : Dg a) (hb : Dg b) (tb : Tr b) (h : dval b ≤ dval a) : b.length ≤ a.length := by
  rcases Nat.lt_or_ge a.length b.length with hx | hx
  · have := dval_longer ha hb tb hx
    omega
  · exact hx
/-- What a comparison says. -/
def cmpI (x y : Int) : Int := if x < y then -1 else if y < x then 1 else 0
end Go.Sub
namespace Go.Sub
/-- Digits without leading zeros. -/
def trL (l : List Int) : List Int := dig (dval l).toNat
theorem trL_of {l : List Int} {k : Nat} (hl : Dg l) (hk : k ≤ l.length) (hz : ∀ j, k ≤ j → l.getD j 0 = 0) (ht : k = 0 ∨ l.getD (k - 1) 0 ≠ 0) : l.take k = trL l := by
  unfold trL
  rw [← dval_take_zeros l k hz]
  exact eq_dig (hl.take k) (Tr.take hk ht)
end Go.Sub
namespace Go.Proofs.YtfdpnephjpcnbaaDoor
open Go.RowKit Go.Sub
end Go.Proofs.YtfdpnephjpcnbaaDoor
