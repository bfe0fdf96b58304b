
/- The settings of a bus relay, the samples of its bays, and what window, usable and complete of package busbar return. -/
import Derived.Test.YtcjflafjmdfanaaGreatDoorBq11
import Derived.Test.YtcjflafjmdfanaaGreatDoorBq01
import Derived.Lib.Hide
import Derived.Laws.AppendOwnNone
import Derived.Deep.DeepCutAuto
import Derived.Deep.CutBlock
import Derived.Laws.MakeOwn
import Derived.IntWalk
import Derived.Test.YtcjflafjmdfanaaGreatDoorBq10
import Derived.Deep.RegionHeld3
import Derived.Laws.Bits64
import Derived.Test.YtcjflafjmdfanaaGreatDoorBq09
set_option linter.unusedSimpArgs false
set_option linter.unusedVariables false
/- Numbers as digits of 32 bits: plain laws. No program in sight. -/
namespace Go.Sub
abbrev B32 : Int := 4294967296
/-- The value of digits, the least one first. -/
def dval : List Int → Int
  | [] => 0
  | d :: l => d + 4294967296 * dval l
/-- Each is a digit. -/
def Dg (l : List Int) : Prop := ∀ d ∈ l, 0 ≤ d ∧ d < 4294967296
/-- The weight of the n-th digit. -/
def wt : Nat → Int
  | 0 => 1
  | n + 1 => 4294967296 * wt n
theorem wt_pos (n : Nat) : 0 < wt n := by
  induction n with
  | zero => decide
  | succ n ih => unfold wt; omega
theorem wt_add (n m : Nat) : wt (n + m) = wt n * wt m := by
  induction n with
  | zero => simp [wt]
  | succ n ih => rw [show n + 1 + m = n + m + 1 by omega]; simp only [wt]; rw [ih, Int.mul_assoc]
theorem getD_lt {l : List Int} {n : Nat} (h : n < l.length) : l.getD n 0 = l[n] := by simp [List.getD, h]
theorem getD_ge {l : List Int} {n : Nat} (h : l.length ≤ n) : l.getD n 0 = 0 := by simp [List.getD, List.getElem?_eq_none h]
theorem Dg.nil : Dg [] := fun _ h => by cases h
theorem Dg.cons {d : Int} {l : List Int} (h0 : 0 ≤ d) (h1 : d < 4294967296) (h : Dg l) : Dg (d :: l) := fun x hx => by
  rcases List.mem_cons.1 hx with rfl | hx
  · exact ⟨h0, h1⟩
  · exact h x hx
theorem Dg.head {d : Int} {l : List Int} (h : Dg (d :: l)) : 0 ≤ d ∧ d < 4294967296 := h d (List.mem_cons_self ..)
theorem Dg.tail {d : Int} {l : List Int} (h : Dg (d :: l)) : Dg l := fun x hx => h x (List.mem_cons_of_mem _ hx)
theorem Dg.append {l m : List Int} (h : Dg l) (h' : Dg m) : Dg (l ++ m) := fun x hx => (List.mem_append.1 hx).elim (h x) (h' x)
theorem Dg.take {l : List Int} (h : Dg l) (n : Nat) : Dg (l.take n) := fun x hx => h x (List.mem_of_mem_take hx)
theorem Dg.getD {l : List Int} (h : Dg l) (n : Nat) : 0 ≤ l.getD n 0 ∧ l.getD n 0 < 4294967296 := by
  rcases Nat.lt_or_ge n l.length with hn | hn
  · rw [getD_lt hn]; exact h _ (List.getElem_mem hn)
  · rw [getD_ge hn]; omega
theorem dval_append (l m : List Int) : dval (l ++ m) = dval l + wt l.length * dval m := by
  induction l with
  | nil => simp [dval, wt]
  | cons d l ih =>
    simp only [List.cons_append, dval, List.length_cons, wt, ih]
    rw [Int.mul_add, Int.mul_assoc]
    omega
theorem dval_snoc (l : List Int) (d : Int) : dval (l ++ [d]) = dval l + wt l.length * d := by
  rw [dval_append]; simp [dval]
theorem dval_nonneg {l : List Int} (h : Dg l) : 0 ≤ dval l := by
  induction l with
  | nil => exact Int.le_refl _
  | cons d l ih => have := ih h.tail; have := h.head; simp only [dval]; omega
theorem dval_lt {l : List Int} (h : Dg l) : dval l < wt l.length := by
  induction l with
  | nil => exact Int.zero_lt_one
  | cons d l ih => have := ih h.tail; have := h.head; simp only [dval, List.length_cons, wt]; omega
theorem dval_take_succ (l : List Int) (k : Nat) (hk : k < l.length) : dval (l.take (k + 1)) = dval (l.take k) + wt k * l.getD k 0 := by
  rw [List.take_succ_eq_append_getElem hk, dval_snoc, List.length_take, Nat.min_eq_left (by omega), getD_lt hk]
theorem dval_set (l : List Int) (k : Nat) (hk : k < l.length) (d : Int) : dval (l.set k d) = dval l + wt k * (d - l.getD k 0) := by
  induction l generalizing k with
  | nil => simp at hk
  | cons x l ih =>
    match k with
    | 0 => simp [dval, wt]; omega
    | k + 1 =>
      simp only [List.length_cons] at hk
      simp only [List.set_cons_succ, dval, ih k (by omega), List.getD_cons_succ, wt]
      rw [Int.mul_add, Int.mul_assoc]
      omega
theorem Dg.set {l : List Int} (h : Dg l) (k : Nat) {d : Int} (h0 : 0 ≤ d) (h1 : d < 4294967296) : Dg (l.set k d) := fun x hx => by
  rcases List.mem_or_eq_of_mem_set hx with hx | rfl
  · exact h x hx
  · exact ⟨h0, h1⟩
/-- No leading zero. -/
def Tr (l : List Int) : Prop := l = [] ∨ l.getD (l.length - 1) 0 ≠ 0
/-- The digits of a number. -/
def dig (n : Nat) : List Int := if h : n = 0 then [] else ((n % 4294967296 : Nat) : Int) :: dig (n / 4294967296)
termination_by n
decreasing_by omega
theorem dig_zero : dig 0 = [] := by unfold dig; simp
theorem dig_pos {n : Nat} (h : n ≠ 0) : dig n = ((n % 4294967296 : Nat) : Int) :: dig (n / 4294967296) := by
  conv => lhs; unfold dig
  simp [h]
theorem dig_Dg (n : Nat) : Dg (dig n) := by
  induction n using Nat.strongRecOn with
  | _ n ih =>
    rcases Nat.decEq n 0 with h | h
    · rw [dig_pos h]; exact Dg.cons (by omega) (by omega) (ih _ (by omega))
    · subst h; rw [dig_zero]; exact Dg.nil
theorem dval_dig (n : Nat) : dval (dig n) = n := by
  induction n using Nat.strongRecOn with
  | _ n ih =>
    rcases Nat.decEq n 0 with h | h
    · rw [dig_pos h]; simp only [dval]; rw [ih _ (by omega)]; omega
    · subst h; rw [dig_zero]; rfl
theorem dig_nil {n : Nat} : dig n = [] ↔ n = 0 := by
  constructor
  · intro h
    rcases Nat.decEq n 0 with h' | h'
    · rw [dig_pos h'] at h; cases h
    · exact h'
  · rintro rfl; exact dig_zero
theorem Tr.tail {d : Int} {l : List Int} (h : Tr (d :: l)) : Tr l := by
  rcases l with _ | ⟨e, l⟩
  · exact .inl rfl
  · right
    rcases h with h | h
    · cases h
    · simpa [List.getD] using h
theorem dval_pos {l : List Int} (h : Dg l) (ht : Tr l) (hn : l ≠ []) : 0 < dval l := by
  induction l with
  | nil => exact absurd rfl hn
  | cons d l ih =>
    have hd := h.head
    rcases l with _ | ⟨e, l⟩
    · rcases ht with ht | ht
      · cases ht
      · simp [List.getD] at ht; simp [dval]; omega
    · have := ih h.tail ht.tail (by simp)
      simp only [dval] at this ⊢
      omega
/-- Digits without a leading zero are those of their value. -/
theorem eq_dig {l : List Int} (h : Dg l) (ht : Tr l) : l = dig (dval l).toNat := by
  induction l with
  | nil => simp [dval, dig_zero]
  | cons d l ih =>
    have hd := h.head
    have hp := dval_pos h ht (by simp)
    have hn := dval_nonneg h.tail
    rw [dig_pos (by omega)]
    have e1 : (((dval (d :: l)).toNat % 4294967296 : Nat) : Int) = d := by simp only [dval] at *; omega
    have e2 : (dval (d :: l)).toNat / 4294967296 = (dval l).toNat := by simp only [dval] at *; omega
    rw [e1, e2, ← ih h.tail ht.tail]
theorem dig_Tr (n : Nat) : Tr (dig n) := by
  induction n using Nat.strongRecOn with
  | _ n ih =>
    rcases Nat.decEq n 0 with h | h
    · rw [dig_pos h]
      rcases ih (n / 4294967296) (by omega) with h1 | h1
      · right
        rw [h1]
        have : n / 4294967296 = 0 := dig_nil.1 h1
        simp [List.getD]
        omega
      · right
        cases e : dig (n / 4294967296) with
        | nil =>
          have : n / 4294967296 = 0 := dig_nil.1 e
          simp [List.getD]
          omega
        | cons x m =>
          rw [e] at h1
          simpa [List.getD] using h1
    · subst h; exact .inl dig_zero
/-- How many digits are left without leading zeros. -/
theorem dval_take_zeros (l : List Int) (n : Nat) (h : ∀ k, n ≤ k → l.getD k 0 = 0) : dval (l.take n) = dval l := by
  induction l generalizing n with
  | nil => simp
  | cons d l ih =>
    match n with
    | 0 =>
      have h0 := h 0 (Nat.le_refl _)
      simp [List.getD] at h0
      have := ih 0 (fun k _ => by have := h (k + 1) (by omega); simpa [List.getD] using this)
      simp only [List.take_zero, dval] at this ⊢
      omega
    | n + 1 =>
      simp only [List.take_succ_cons, dval]
      rw [ih n (fun k hk => by have := h (k + 1) (by omega); simpa [List.getD] using this)]
theorem Tr.take {l : List Int} {n : Nat} (hn : n ≤ l.length) (h : n = 0 ∨ l.getD (n - 1) 0 ≠ 0) : Tr (l.take n) := by
  rcases Nat.eq_zero_or_pos n with rfl | hp
  · exact .inl (by simp)
  · right
    rcases h with h | h
    · omega
    · rw [List.length_take, Nat.min_eq_left hn]
      have : (l.take n).getD (n - 1) 0 = l.getD (n - 1) 0 := by
        simp only [List.getD_eq_getElem?_getD, List.getElem?_take]
        rw [if_pos (by omega)]
      rw [this]
      exact h
theorem dval_same (l m : List Int) (e : ∀ j, l.getD j 0 = m.getD j 0) : dval l = dval m := by
  induction l generalizing m with
  | nil =>
    have := dval_take_zeros m 0 (fun k _ => by have := e k; simp [List.getD] at this ⊢; omega)
    simpa [dval] using this
  | cons a l ih =>
    match m with
    | [] =>
      have := dval_take_zeros (a :: l) 0 (fun k _ => by have := e k; simp [List.getD] at this ⊢; omega)
      simp only [List.take_zero, dval] at this ⊢
      omega
    | b :: m =>
      have e0 := e 0
      simp [List.getD] at e0
      have := ih m (fun j => by have := e (j + 1); simpa [List.getD] using this)
      simp only [dval]
      omega
/-- The order of digits: what is found first from above decides. -/
theorem dval_order {l m : List Int} (hl : Dg l) (hm : Dg m) (k : Nat) (h1 : k < l.length) (h2 : k < m.length) (he : ∀ j, k < j → l.getD j 0 = m.getD j 0) (hlt : l.getD k 0 < m.getD k 0) : dval l < dval m := by
  induction k generalizing l m with
  | zero =>
    match l, m, h1, h2 with
    | x :: l, y :: m, _, _ =>
      have e : ∀ j, l.getD j 0 = m.getD j 0 := fun j => by have := he (j + 1) (by omega); simpa [List.getD] using this
      have ev : dval l = dval m := dval_same l m e
      simp only [List.getD_cons_zero] at hlt
      simp only [dval]
      omega
  | succ k ih =>
    match l, m, h1, h2 with
    | x :: l, y :: m, h1, h2 =>
      simp only [List.length_cons] at h1 h2
      have := ih hl.tail hm.tail (by omega) (by omega) (fun j hj => by have := he (j + 1) (by omega); simpa [List.getD] using this) (by simpa [List.getD] using hlt)
      have hx := hl.head
      have hy := hm.head
      simp only [dval]
      omega
/-- More digits, the greater number. -/
theorem dval_longer {l m : List Int} (hl : Dg l) (hm : Dg m) (ht : Tr m) (h : l.length < m.length) : dval l < dval m := by
  have hn : m ≠ [] := fun e => by rw [e] at h; simp at h
  rcases ht with ht | ht
  · exact absurd ht hn
  have h1 := dval_lt hl
  have h2 : dval m = dval (m.take (m.length - 1)) + wt (m.length - 1) * m.getD (m.length - 1) 0 := by
    have := dval_take_succ m (m.length - 1) (by omega)
    rw [show m.length - 1 + 1 = m.length by omega, List.take_length] at this
    exact this
  have h3 := dval_nonneg (hm.take (m.length - 1))
  have h4 := hm.getD (m.length - 1)
  have h5 : wt l.length ≤ wt (m.length - 1) := by
    rw [show m.length - 1 = l.length + (m.length - 1 - l.length) by omega, wt_add]
    have := wt_pos l.length
    have h6 := wt_pos (m.length - 1 - l.length)
    have := Int.mul_le_mul_of_nonneg_left (show 1 ≤ wt (m.length - 1 - l.length) by omega) (show 0 ≤ wt l.length by omega)
    omega
  have h7 := wt_pos (m.length - 1)
  have h8 := Int.mul_le_mul_of_nonneg_left (show 1 ≤ m.getD (m.length - 1) 0 by omega) (show 0 ≤ wt (m.length - 1) by omega)
  omega
theorem dig_length_le {n k : Nat} (h : (n : Int) < wt k) : (dig n).length ≤ k := by
  rcases Nat.lt_or_ge k (dig n).length with hk | hk
  · exfalso
    have := dval_longer (l := List.replicate k 0) (m := dig n) (fun d hd => by have := List.eq_of_mem_replicate hd; omega) (dig_Dg n) (dig_Tr n) (by simpa using hk)
    -- the value of k zeros plus the weight
    have hn : dig n ≠ [] := fun e => by rw [e] at hk; simp at hk
    have ht := (dig_Tr n).resolve_left hn
    have h2 := dval_take_succ (dig n) ((dig n).length - 1) (by omega)
    rw [show (dig n).length - 1 + 1 = (dig n).length by omega, List.take_length, dval_dig] at h2
    have h3 := dval_nonneg ((dig_Dg n).take ((dig n).length - 1))
    have h4 := (dig_Dg n).getD ((dig n).length - 1)
    have h7 := wt_pos ((dig n).length - 1)
    have h8 := Int.mul_le_mul_of_nonneg_left (show 1 ≤ (dig n).getD ((dig n).length - 1) 0 by omega) (show 0 ≤ wt ((dig n).length - 1) by omega)
    have h5 : wt k ≤ wt ((dig n).length - 1) := by
      rw [show (dig n).length - 1 = k + ((dig n).length - 1 - k) by omega, wt_add]
      have := wt_pos k
      have h6 := wt_pos ((dig n).length - 1 - k)
      have := Int.mul_le_mul_of_nonneg_left (show 1 ≤ wt ((dig n).length - 1 - k) by omega) (show 0 ≤ wt k by omega)
      omega
    omega
  · exact hk
end Go.Sub
/- Slices of 32-bit digits, as they lie in memory. -/
namespace Go
open Go.RowKit Go.Sub
/-- The slice A, n, c holds the digits l. -/
def Rd (w : World) (A : Option Addr) (n c : Nat) (l : List Int) : Prop :=
  l.length = n ∧ n ≤ c ∧ (0 < n → ∃ g, A = some ⟨g, 0, none⟩ ∧ g < w.heap.size ∧ ∀ i, i < n → w.cell? ⟨g, i, none⟩ = some (.int .u32 (l.getD i 0))) ∧ (A = none → c = 0)
theorem Rd.q {w w' : World} {A : Option Addr} {n c : Nat} {l : List Int} (h : Rd w A n c l) (hq : Q w w') : Rd w' A n c l := by
  refine ⟨h.1, h.2.1, fun hn => ?_, h.2.2.2⟩
  obtain ⟨g, rfl, hg, hc⟩ := h.2.2.1 hn
  have hb := hq.below
  exact ⟨g, rfl, Nat.lt_of_lt_of_le hg hb.size, fun i hi => (hb.cell (p := ⟨g, i, none⟩) hg).trans (hc i hi)⟩
theorem Rd.nil (w : World) : Rd w none 0 0 [] := ⟨rfl, Nat.zero_le _, fun h => absurd h (by omega), fun _ => rfl⟩
theorem Rd.nil' (w : World) (ad : Addr) (c : Nat) : Rd w (some ad) 0 c [] := ⟨rfl, Nat.zero_le _, fun h => absurd h (by omega), fun h => by cases h⟩
theorem Rd.at_ {w : World} {A : Option Addr} {n c : Nat} {l : List Int} (h : Rd w A n c l) (hn : 0 < n) : ∃ g, A = some ⟨g, 0, none⟩ ∧ Old g w ∧ Hid (∀ i, i < n → w.cell? ⟨g, i, none⟩ = some (.int .u32 (l.getD i 0))) := by
  obtain ⟨g, e, hg, hc⟩ := h.2.2.1 hn
  exact ⟨g, e, ⟨hg⟩, Lib.hid hc⟩
theorem Rd.take {w : World} {A : Option Addr} {n c k c' : Nat} {l : List Int} (h : Rd w A n c l) (hk : k ≤ n) (hc' : k ≤ c') (hA : A = none → c' = 0) : Rd w A k c' (l.take k) := by
  refine ⟨by rw [List.length_take, h.1]; omega, hc', fun hp => ?_, hA⟩
  obtain ⟨g, e, hg, hc⟩ := h.2.2.1 (by omega)
  refine ⟨g, e, hg, fun i hi => ?_⟩
  rw [hc i (by omega)]
  simp only [List.getD_eq_getElem?_getD, List.getElem?_take]
  rw [if_pos hi]
/-- The slice lies in a block that w has not. -/
def Fr (w : World) (A : Option Addr) : Prop := ∀ ad, A = some ad → w.heap.size ≤ ad.block
theorem Fr.q {w w' : World} {A : Option Addr} (h : Fr w' A) (hq : Q w w') : Fr w A := fun ad e => Nat.le_trans hq.below.size (h ad e)
theorem Fr.none (w : World) : Fr w none := fun _ h => by cases h
theorem World.jk_block {W W' : World} (hs : W.heap.size = W'.heap.size) (k : Jk) (i : Nat) (hi : W.heap.size ≤ i) : (W'.jk k).heap[i]? = (W.jk k).heap[i]? := by
  simp only [World.jk, Array.getElem?_append]
  rw [if_neg (by omega), if_neg (by omega), hs]
/-- What lies in new blocks is not touched by a store into an old one. -/
theorem Rd.swap {W W' : World} {k : Jk} {A : Option Addr} {n c : Nat} {l : List Int} (hs : W.heap.size = W'.heap.size) (h : Rd (W.jk k) A n c l) (hf : Fr W A) : Rd (W'.jk k) A n c l := by
  refine ⟨h.1, h.2.1, fun hn => ?_, h.2.2.2⟩
  obtain ⟨g, rfl, hg, hc⟩ := h.2.2.1 hn
  have hge : W.heap.size ≤ g := hf ⟨g, 0, .none⟩ rfl
  refine ⟨g, rfl, by rw [World.size_jk] at *; omega, fun i hi => ?_⟩
  rw [← hc i hi]
  exact World.cell?_of_block (w := W.jk k) (a := ⟨g, i, .none⟩) (World.jk_block hs k g hge)
theorem Rd.swap2 {W W' : World} {k k2 : Jk} {A : Option Addr} {n c : Nat} {l : List Int} (hs : W.heap.size = W'.heap.size) (h : Rd ((W.jk k).jk k2) A n c l) (hf : Fr W A) : Rd ((W'.jk k).jk k2) A n c l := by
  rw [World.jk_jk] at *
  exact h.swap hs hf
theorem Rd.swap3 {W W' : World} {k k2 k3 : Jk} {A : Option Addr} {n c : Nat} {l : List Int} (hs : W.heap.size = W'.heap.size) (h : Rd (((W.jk k).jk k2).jk k3) A n c l) (hf : Fr W A) : Rd (((W'.jk k).jk k2).jk k3) A n c l := by
  rw [World.jk_jk] at *
  exact h.swap2 hs hf
theorem Rd.swap4 {W W' : World} {k k2 k3 k4 : Jk} {A : Option Addr} {n c : Nat} {l : List Int} (hs : W.heap.size = W'.heap.size) (h : Rd ((((W.jk k).jk k2).jk k3).jk k4) A n c l) (hf : Fr W A) : Rd ((((W'.jk k).jk k2).jk k3).jk k4) A n c l := by
  rw [World.jk_jk] at *
  exact h.swap3 hs hf
theorem Rd.two (w : World) (a b : Int) (t : TypeId) : Rd (w.alloc (.cells #[.int .u32 a, .int .u32 b] t)) (some ⟨w.heap.size, 0, .none⟩) 2 2 [a, b] := by
  refine ⟨rfl, Nat.le_refl _, fun _ => ⟨_, rfl, by simp, fun i hi => ?_⟩, fun h => by cases h⟩
  rw [cell_of_row _ _ _ _ _ (0, 0) (heap_alloc_new w _)]
  match i, hi with
  | 0, _ => rfl
  | 1, _ => rfl
theorem Rd.one (w : World) (a : Int) (t : TypeId) : Rd (w.alloc (.cells #[.int .u32 a] t)) (some ⟨w.heap.size, 0, .none⟩) 1 1 [a] := by
  refine ⟨rfl, Nat.le_refl _, fun _ => ⟨_, rfl, by simp, fun i hi => ?_⟩, fun h => by cases h⟩
  rw [cell_of_row _ _ _ _ _ (0, 0) (heap_alloc_new w _)]
  match i, hi with
  | 0, _ => rfl
/-- A call that makes memory at most returned a slice of the digits l, in a new block. -/
def RetS (l : List Int) (w : World) (e : Ending) (w' : World) : Prop := ∃ A n c k, e = .returned (.slice A n c) ∧ w' = w.jk k ∧ Rd (w.jk k) A n c l ∧ Fr w A
/-- .. an integer with the sign b and the digits l. -/
def RetI (b : Bool) (l : List Int) (w : World) (e : Ending) (w' : World) : Prop := ∃ A n c k, e = .returned (.agg #[.bool b, .slice A n c]) ∧ w' = w.jk k ∧ Rd (w.jk k) A n c l ∧ Fr w A
/-- .. and no error. -/
def RetI2 (b : Bool) (l : List Int) (w : World) (e : Ending) (w' : World) : Prop := ∃ A n c k, e = .returned (.tuple #[.agg #[.bool b, .slice A n c], .int .i64 0]) ∧ w' = w.jk k ∧ Rd (w.jk k) A n c l ∧ Fr w A
theorem RetS.of {l : List Int} {w w' : World} {e : Ending} {A : Option Addr} {n c : Nat} (he : e = .returned (.slice A n c)) (hq : Q w w') (hr : Rd w' A n c l) (hf : Fr w A) : RetS l w e w' := by
  obtain ⟨k, rfl⟩ := hq
  exact ⟨A, n, c, k, he, rfl, hr, hf⟩
theorem RetI.of {b : Bool} {l : List Int} {w w' : World} {e : Ending} {A : Option Addr} {n c : Nat} (he : e = .returned (.agg #[.bool b, .slice A n c])) (hq : Q w w') (hr : Rd w' A n c l) (hf : Fr w A) : RetI b l w e w' := by
  obtain ⟨k, rfl⟩ := hq
  exact ⟨A, n, c, k, he, rfl, hr, hf⟩
theorem RetI2.of {b : Bool} {l : List Int} {w w' : World} {e : Ending} {A : Option Addr} {n c : Nat} (he : e = .returned (.tuple #[.agg #[.bool b, .slice A n c], .int .i64 0])) (hq : Q w w') (hr : Rd w' A n c l) (hf : Fr w A) : RetI2 b l w e w' := by
  obtain ⟨k, rfl⟩ := hq
  exact ⟨A, n, c, k, he, rfl, hr, hf⟩
/-- .. a slice of digits with the value v, not more than n. -/
def RetV (v : Int) (N : Nat) (w : World) (e : Ending) (w' : World) : Prop := ∃ l A n c k, e = .returned (.slice A n c) ∧ w' = w.jk k ∧ Rd (w.jk k) A n c l ∧ Fr w A ∧ Dg l ∧ dval l = v ∧ n ≤ N
theorem RetV.of {v : Int} {N : Nat} {l : List Int} {w w' : World} {e : Ending} {A : Option Addr} {n c : Nat} (he : e = .returned (.slice A n c)) (hq : Q w w') (hr : Rd w' A n c l) (hf : Fr w A) (hd : Dg l) (hv : dval l = v) (hn : n ≤ N) : RetV v N w e w' := by
  obtain ⟨k, rfl⟩ := hq
  exact ⟨l, A, n, c, k, he, rfl, hr, hf, hd, hv, hn⟩
end Go
namespace Go.Proofs.YtcjflafjmdfanaaGreatDoor
open Go.RowKit Go.Sub
theorem infoU32 : ∃ i, Tryz.prog.info? 240 = some i ∧ i.zero = some (.int .u32 0) ∧ i.size = 1 ∧ i.bytes = 4 := by
  have h : (Tryz.prog.info? 240).map (fun i => (i.zero, i.size, i.bytes)) = some (some (.int .u32 0), 1, 4) := by kernel_rfl
  cases hi : Tryz.prog.info? 240 with
  | none => rw [hi] at h; cases h
  | some i =>
    rw [hi] at h
    simp only [Option.map_some, Option.some.injEq, Prod.mk.injEq] at h
    exact ⟨i, rfl, h.1, h.2.1, h.2.2⟩
/-- The slice v holds the digits zs, in a block behind W0's. -/
def RowU (W0 w : World) (v : Value) (zs : List Int) : Prop := w.ownsRow W0.heap.size 240 1 v zs.length (zs.map (Value.int .u32))
theorem RowU.nil (W0 w : World) : RowU W0 w (.slice none 0 0) [] := World.ownsRow_nil _ _ _ _
theorem RowU.q {W0 w w' : World} {v : Value} {zs : List Int} (h : RowU W0 w v zs) (hq : Q w w') : RowU W0 w' v zs := ownsRow_q h hq
/-- An empty slice of the call's own. -/
theorem RowU.empty (w : World) : RowU w (w.alloc (.cells #[] 240)) (.slice (some ⟨w.heap.size, 0, none⟩) 0 0) [] :=
  ⟨by simp, .inr ⟨w.heap.size, 0, #[], rfl, Nat.le_refl _, heap_alloc_new w _, Nat.le_refl _, by unfold maxLen; omega, rfl, rfl⟩⟩
theorem RowU.fr {W0 w : World} {A : Option Addr} {n c : Nat} {zs : List Int} (h : RowU W0 w (.slice A n c) zs) : Fr W0 A := by
  intro ad e
  subst e
  exact (h.lt ad.block rfl).1
end Go.Proofs.YtcjflafjmdfanaaGreatDoor
/- Products, sums and differences of digits: the steps of the loops. No program in sight. -/
namespace Go.Sub
theorem mul_bd {x y : Int} (hx : 0 ≤ x ∧ x < 4294967296) (hy : 0 ≤ y ∧ y < 4294967296) : 0 ≤ x * y ∧ x * y ≤ 18446744065119617025 := by
  have h1 := Int.mul_nonneg hx.1 hy.1
  have h2 := Int.mul_le_mul (show x ≤ 4294967295 by omega) (show y ≤ 4294967295 by omega) hy.1 (by decide)
  omega
/-- Within a row of the product: i digits of a are done, and k of b for the next one; c is carried. -/
structure MulInv (a b o : List Int) (i k : Nat) (c : Int) : Prop where
  len : o.length = a.length + b.length
  dg : Dg o
  c0 : 0 ≤ c
  c1 : c < 4294967296
  zero : ∀ j, i + b.length ≤ j → o.getD j 0 = 0
  val : dval o + wt (i + k) * c = dval (a.take i) * dval b + wt i * (a.getD i 0 * dval (b.take k))
theorem MulInv.step {a b o : List Int} {i k : Nat} {c t : Int} (h : MulInv a b o i k c) (ha : Dg a) (hb : Dg b) (hi : i < a.length) (hk : k < b.length) (ht : t = a.getD i 0 * b.getD k 0 + o.getD (i + k) 0 + c) :
    MulInv a b (o.set (i + k) (t % 4294967296)) i (k + 1) (t / 4294967296) ∧ 0 ≤ t ∧ t < 18446744073709551616 := by
  have h1 := mul_bd (ha.getD i) (hb.getD k)
  have h2 := h.dg.getD (i + k)
  have h3 := h.c0
  have h4 := h.c1
  have hl := h.len
  have ht0 : 0 ≤ t := by omega
  have ht1 : t < 18446744073709551616 := by omega
  refine ⟨⟨by simp [hl], h.dg.set _ (by omega) (by omega), by omega, by omega, fun j hj => ?_, ?_⟩, ht0, ht1⟩
  · rw [List.getD_eq_getElem?_getD, List.getElem?_set_ne (by omega), ← List.getD_eq_getElem?_getD]
    exact h.zero j hj
  · have hv := h.val
    rw [dval_set _ _ (by omega), dval_take_succ b k hk]
    have e1 : wt (i + (k + 1)) = 4294967296 * wt (i + k) := by rw [show i + (k + 1) = i + k + 1 by omega]; rfl
    have e2 : wt (i + k) = wt i * wt k := wt_add i k
    rw [e1]
    generalize dval o = D at *
    generalize dval (a.take i) * dval b = X at *
    generalize dval (b.take k) = Y at *
    generalize o.getD (i + k) 0 = z at *
    generalize a.getD i 0 = x at *
    generalize b.getD k 0 = y at *
    have e3 : t % 4294967296 = t - 4294967296 * (t / 4294967296) := by omega
    rw [e3]
    generalize t / 4294967296 = q at *
    subst ht
    rw [e2] at *
    generalize wt i = p at *
    generalize wt k = r at *
    grind
theorem MulInv.row {a b o : List Int} {i : Nat} {c : Int} (h : MulInv a b o i b.length c) (hi : i < a.length) : MulInv a b (o.set (i + b.length) c) (i + 1) 0 0 := by
  have hl := h.len
  refine ⟨by simp [hl], h.dg.set _ h.c0 h.c1, by decide, by decide, fun j hj => ?_, ?_⟩
  · rw [List.getD_eq_getElem?_getD, List.getElem?_set_ne (by omega), ← List.getD_eq_getElem?_getD]
    exact h.zero j (by omega)
  · have hv := h.val
    rw [dval_set _ _ (by omega), h.zero (i + b.length) (Nat.le_refl _), dval_take_succ a i hi, Int.mul_zero, Int.add_zero]
    rw [List.take_length] at hv
    simp only [List.take_zero, dval, Int.mul_zero, Int.add_zero, Int.sub_zero]
    rw [Int.add_mul, ← Int.mul_assoc (wt i)] at *
    omega
theorem MulInv.start (a b : List Int) : MulInv a b (List.replicate (a.length + b.length) 0) 0 0 0 := by
  have hz : ∀ n, dval (List.replicate n 0) = 0 := fun n => by
    induction n with
    | zero => rfl
    | succ n ih => rw [List.replicate_succ]; simp [dval, ih]
  refine ⟨by simp, fun d hd => by have := List.eq_of_mem_replicate hd; omega, by decide, by decide, fun j _ => ?_, ?_⟩
  · simp [List.getD, List.getElem?_replicate]
    split <;> rfl
  · rw [hz]
    simp [dval]
theorem MulInv.done {a b o : List Int} (h : MulInv a b o a.length 0 0) : dval o = dval a * dval b := by
  have := h.val
  simpa [List.take_length, dval] using this
/-- A sum: i digits are done, c is carried. -/
structure AddInv (a b o : List Int) (i : Nat) (c : Int) : Prop where
  len : o.length = i
  dg : Dg o
  c0 : 0 ≤ c
  c1 : c ≤ 1
  val : dval o + wt i * c = dval (a.take i) + dval (b.take i)
theorem dval_take_next (a : List Int) (i : Nat) : dval (a.take (i + 1)) = dval (a.take i) + wt i * a.getD i 0 := by
  rcases Nat.lt_or_ge i a.length with h | h
  · exact dval_take_succ a i h
  · rw [List.take_of_length_le (by omega), List.take_of_length_le h, getD_ge h]
    omega
theorem AddInv.step {a b o : List Int} {i : Nat} {c t : Int} (h : AddInv a b o i c) (ha : Dg a) (hb : Dg b) (ht : t = c + a.getD i 0 + b.getD i 0) :
    AddInv a b (o ++ [t % 4294967296]) (i + 1) (t / 4294967296) ∧ 0 ≤ t ∧ t < 8589934592 := by
  have h1 := ha.getD i
  have h2 := hb.getD i
  have h3 := h.c0
  have h4 := h.c1
  have hl := h.len
  refine ⟨⟨by simp [hl], h.dg.append (Dg.cons (by omega) (by omega) Dg.nil), by omega, by omega, ?_⟩, by omega, by omega⟩
  have hv := h.val
  rw [dval_snoc, dval_take_next, dval_take_next, hl]
  have e1 : wt (i + 1) = 4294967296 * wt i := rfl
  have e3 : t % 4294967296 = t - 4294967296 * (t / 4294967296) := by omega
  rw [e1, e3]
  generalize t / 4294967296 = q at *
  generalize dval o = D at *
  generalize dval (a.take i) = X at *
  generalize dval (b.take i) = Y at *
  generalize a.getD i 0 = x at *
  generalize b.getD i 0 = y at *
  subst ht
  generalize wt i = p at *
  grind
theorem AddInv.start (a b : List Int) : AddInv a b [] 0 0 := ⟨rfl, Dg.nil, by decide, by decide, by simp [dval]⟩
theorem AddInv.done {a b o : List Int} {i : Nat} (h : AddInv a b o i 0) (ha : a.length ≤ i) (hb : b.length ≤ i) : dval o = dval a + dval b := by
  have := h.val
  rw [List.take_of_length_le ha, List.take_of_length_le hb] at this
  omega
/-- A difference: i digits are done, c is borrowed. -/
structure SubInv (a b o : List Int) (i : Nat) (c : Int) : Prop where
  len : o.length = i
  dg : Dg o
  c0 : 0 ≤ c
  c1 : c ≤ 1
  val : dval o = dval (a.take i) - dval (b.take i) + wt i * c
theorem SubInv.step {a b o : List Int} {i : Nat} {c t : Int} (h : SubInv a b o i c) (ha : Dg a) (hb : Dg b) (ht : t = (a.getD i 0 - c - b.getD i 0) % 18446744073709551616) :
    SubInv a b (o ++ [t % 4294967296]) (i + 1) (t / 9223372036854775808) ∧ 0 ≤ t ∧ t < 18446744073709551616 := by
  have h1 := ha.getD i
  have h2 := hb.getD i
  have h3 := h.c0
  have h4 := h.c1
  have hl := h.len
  refine ⟨⟨by simp [hl], h.dg.append (Dg.cons (by omega) (by omega) Dg.nil), by omega, by omega, ?_⟩, by omega, by omega⟩
  have hv := h.val
  rw [dval_snoc, dval_take_next, dval_take_next, hl]
  have e1 : wt (i + 1) = 4294967296 * wt i := rfl
  have e3 : t % 4294967296 = a.getD i 0 - c - b.getD i 0 + 4294967296 * (t / 9223372036854775808) := by omega
  rw [e1, e3]
  generalize t / 9223372036854775808 = q at *
  generalize dval o = D at *
  generalize dval (a.take i) = X at *
  generalize dval (b.take i) = Y at *
  generalize a.getD i 0 = x at *
  generalize b.getD i 0 = y at *
  clear ht e3 e1
  generalize wt i = p at *
  grind
theorem SubInv.start (a b : List Int) : SubInv a b [] 0 0 := ⟨rfl, Dg.nil, by decide, by decide, by simp [dval]⟩
theorem SubInv.done {a b o : List Int} {c : Int} (h : SubInv a b o a.length c) (hb : b.length ≤ a.length) (hle : dval b ≤ dval a) : dval o = dval a - dval b := by
  have hv := h.val
  have h1 := dval_lt h.dg
  rw [h.len] at h1
  rw [List.take_length, List.take_of_length_le hb] at hv
  have h0 := h.c0
  have h2 := h.c1
  have hc : c = 0 ∨ c = 1 := by omega
  rcases hc with rfl | rfl
  · omega
  · omega
theorem len_le_of_dval {a b : List Int} (ha : Dg a) (hb : Dg b) (tb : Tr b) (h : dval b ≤ dval a) : b.length ≤ a.length := by
  rcases Nat.lt_or_ge a.length b.length with hx | hx
  · have := dval_longer ha hb tb hx
    omega
  · exact hx
/-- What a comparison says. -/
def cmpI (x y : Int) : Int := if x < y then -1 else if y < x then 1 else 0
end Go.Sub
/- What trim, compare, Valid, made, digits and Of of package substationref01 return. -/
namespace Go.Sub
/-- Digits without leading zeros. -/
def trL (l : List Int) : List Int := dig (dval l).toNat
theorem trL_of {l : List Int} {k : Nat} (hl : Dg l) (hk : k ≤ l.length) (hz : ∀ j, k ≤ j → l.getD j 0 = 0) (ht : k = 0 ∨ l.getD (k - 1) 0 ≠ 0) : l.take k = trL l := by
  unfold trL
  rw [← dval_take_zeros l k hz]
  exact eq_dig (hl.take k) (Tr.take hk ht)
end Go.Sub
namespace Go.Proofs.YtcjflafjmdfanaaGreatDoor
open Go.RowKit Go.Sub
end Go.Proofs.YtcjflafjmdfanaaGreatDoor
/- What times of package substationref01 returns. -/
namespace Go.Sub
/-- The cells of digits. -/
def cellsU (o : List Int) : Array Value := (o.map (Value.int .u32)).toArray
theorem cellsU_at {o : List Int} {j : Nat} (h : j < o.length) : (cellsU o)[j]? = some (.int .u32 (o.getD j 0)) := by
  simp [cellsU, List.getD, h]
theorem cellsU_set (o : List Int) (j : Nat) (d : Int) : (cellsU o).setIfInBounds j (.int .u32 d) = cellsU (o.set j d) := by
  simp [cellsU, List.map_set]
theorem madeCells_u32 (n : Nat) : madeCells (Value.int .u32 0).cells n = cellsU (List.replicate n 0) := by
  unfold madeCells cellsU
  apply Array.ext
  · simp
  · intro i h1 h2
    have e : i % 1 = 0 := Nat.mod_one i
    simp [Value.cells, e]
end Go.Sub
namespace Go.Proofs.YtcjflafjmdfanaaGreatDoor
open Go.RowKit Go.Sub
theorem make_u32 (w : World) (k : Int) (n : Nat) (hk : k = n) (hn : n < 1000000) :
    (Instr.makeSlice 194 (.int .i64 k) (.int .i64 k)).run Tryz.prog w = .ok (.slice (some ⟨w.heap.size, 0, none⟩) n n) (w.alloc (.cells (cellsU (List.replicate n 0)) 240)) := by
  obtain ⟨i, hi, hz, hs1, hb⟩ := infoU32
  subst hk
  have := run_make (P := Tryz.prog) w 194 240 i (.int .u32 0) Tryz.underlying194 hi hz .i64 .i64 n n (by omega) (Int.le_refl _) (by rw [hb]; omega) (by omega)
  rw [this, hs1]
  simp only [Int.toNat_natCast, Nat.mul_one]
  rw [madeCells_u32]
end Go.Proofs.YtcjflafjmdfanaaGreatDoor
/- What Valid, made, digits, Of, result, Compare, Sign and Mul of package substationref01 return. -/
namespace Go.Sub
/-- An integer of few digits. -/
def Sm (z : Int) : Prop := (z.natAbs : Int) < wt 12
theorem Sm.len {z : Int} (h : Sm z) : (dig z.natAbs).length ≤ 12 := dig_length_le h
theorem Sm.of {z : Int} (h0 : -39402006196394479212279040100143613805079739270465446667948293404245721771497210611414266254884915640806627990306816 < z) (h1 : z < 39402006196394479212279040100143613805079739270465446667948293404245721771497210611414266254884915640806627990306816) : Sm z := by
  have : wt 12 = 39402006196394479212279040100143613805079739270465446667948293404245721771497210611414266254884915640806627990306816 := by decide
  unfold Sm
  rw [this]
  omega
theorem dval_dg (z : Int) : dval (dig z.natAbs) = (z.natAbs : Int) := dval_dig _
theorem cmpI_neg (x y : Int) : cmpI (-x) (-y) = cmpI y x := by unfold cmpI; repeat' split <;> omega
theorem trL_dig (n : Nat) : trL (dig n) = dig n := by unfold trL; rw [dval_dig]; rfl
theorem trL_two (u : Int) (_ : 0 ≤ u) (_ : u < 18446744073709551616) : trL [u % 4294967296, u / 4294967296] = dig u.toNat := by
  unfold trL
  congr 2
  simp only [dval]
  omega
theorem cmp_signs {x y : Int} (h : x < 0) (h' : 0 ≤ y) : cmpI x y = -1 := by unfold cmpI; split <;> omega
theorem cmp_signs' {x y : Int} (h : 0 ≤ x) (h' : y < 0) : cmpI x y = 1 := by unfold cmpI; repeat' split <;> omega
theorem cmp_abs {x y : Int} (h : 0 ≤ x) (h' : 0 ≤ y) : cmpI (x.natAbs : Int) (y.natAbs : Int) = cmpI x y := by
  rw [show (x.natAbs : Int) = x by omega, show (y.natAbs : Int) = y by omega]
theorem cmp_abs' {x y : Int} (h : x < 0) (h' : y < 0) : cmpI (y.natAbs : Int) (x.natAbs : Int) = cmpI x y := by
  rw [show (x.natAbs : Int) = -x by omega, show (y.natAbs : Int) = -y by omega, cmpI_neg]
theorem cmp_zero (x : Int) : cmpI x 0 = sgn x := by unfold cmpI sgn; rfl
end Go.Sub
namespace Go
open Go.Sub
def RetZ (z : Int) (w : World) (e : Ending) (w' : World) : Prop := RetI (decide (z < 0)) (dig z.natAbs) w e w'
def RetZ2 (z : Int) (w : World) (e : Ending) (w' : World) : Prop := RetI2 (decide (z < 0)) (dig z.natAbs) w e w'
end Go
namespace Go.Proofs.YtcjflafjmdfanaaGreatDoor
open Go.RowKit Go.Sub
theorem mul_sgn {x y : Int} (l : List Int) (hl : l = dig (x * y).natAbs) : ((decide (x < 0) != decide (y < 0)) && decide (l ≠ [])) = decide (x * y < 0) := by
  have e : (l ≠ []) ↔ x * y ≠ 0 := by rw [hl, Ne, dig_nil]; omega
  rw [Bool.eq_iff_iff]
  simp only [Bool.and_eq_true, bne_iff_ne, ne_eq, decide_eq_decide, decide_eq_true_eq, e]
  rcases Int.lt_trichotomy x 0 with hx | hx | hx <;> rcases Int.lt_trichotomy y 0 with hy | hy | hy
  · have := Int.mul_pos_of_neg_of_neg hx hy; generalize x * y = p at *; omega
  · subst hy; simp
  · have := Int.mul_neg_of_neg_of_pos hx hy; generalize x * y = p at *; omega
  · subst hx; simp
  · subst hx; simp
  · subst hx; simp
  · have := Int.mul_neg_of_pos_of_neg hx hy; generalize x * y = p at *; omega
  · subst hy; simp
  · have := Int.mul_pos hx hy; generalize x * y = p at *; omega
theorem mul_dig (x y : Int) : (dval (dig x.natAbs) * dval (dig y.natAbs)).toNat = (x * y).natAbs := by
  rw [dval_dg, dval_dg, Int.natAbs_mul]
  omega
end Go.Proofs.YtcjflafjmdfanaaGreatDoor
/- What plus and minus of package substationref01 return. -/
namespace Go.Proofs.YtcjflafjmdfanaaGreatDoor
open Go.RowKit Go.Sub
end Go.Proofs.YtcjflafjmdfanaaGreatDoor
/- What Norm, Conj and Sub of package surd, some functions of its reference, and two helpers of its laws return. -/
namespace Go.Sub
def snormR (x : Su) : Int × Int := if wi2 268435456 x.a x.b then (x.norm, 0) else (0, 1)
def sconjR (x : Su) : R2 := if wi2 1152921504606846976 x.a x.b then ⟨x.conj, 0⟩ else ⟨zeroS, 1⟩
def smallS (x : Su) : Su := ⟨x.a.tmod 1048576, x.b.tmod 1048576⟩
def modN (n m : Int) : Int := n % m
end Go.Sub
namespace Go.Proofs.YtcjflafjmdfanaaGreatDoor
open Go.RowKit Go.Sub

end Go.Proofs.YtcjflafjmdfanaaGreatDoor
/- What product, sign, Sign and Compare of package substationref02 return. -/
namespace Go.Sub
theorem Sm.sq {x y : Int} (h0 : -1267650600228229401496703205376 ≤ x) (h1 : x ≤ 1267650600228229401496703205376) (k0 : -1267650600228229401496703205376 ≤ y) (k1 : y ≤ 1267650600228229401496703205376) : Sm (x * y) := by
  have := bd_mul h0 h1 k0 k1
  exact Sm.of (by omega) (by omega)
theorem Sm.sq3 {x : Int} (h0 : -1267650600228229401496703205376 ≤ x) (h1 : x ≤ 1267650600228229401496703205376) : Sm (3 * (x * x)) := by
  have := bd_mul h0 h1 h0 h1
  exact Sm.of (by omega) (by omega)
theorem Sm.b100 {x : Int} (h0 : -1267650600228229401496703205376 ≤ x) (h1 : x ≤ 1267650600228229401496703205376) : Sm x := Sm.of (by omega) (by omega)
theorem ref_sgn (x y : Int) : (sgn x = 0 → sgnS ⟨x, y⟩ = sgn y) ∧ (sgn y = 0 → sgnS ⟨x, y⟩ = sgn x) ∧ (sgn x = sgn y → sgnS ⟨x, y⟩ = sgn x) := by
  unfold sgnS
  dsimp only
  refine ⟨fun h => ?_, fun h => ?_, fun h => ?_⟩
  · rw [h]
    by_cases h2 : 0 = sgn y ∨ sgn y = 0
    · rw [if_pos h2]; omega
    · rw [if_neg h2, if_pos rfl]
  · rw [if_pos (.inr h)]
  · rw [if_pos (.inl h)]
end Go.Sub
namespace Go.Proofs.YtcjflafjmdfanaaGreatDoor
open Go.RowKit Go.Sub
theorem sgn_val (x : Int) : (x < 0 ∧ sgn x = -1) ∨ (x = 0 ∧ sgn x = 0) ∨ (0 < x ∧ sgn x = 1) := by
  unfold sgn
  split
  · exact .inl ⟨by assumption, rfl⟩
  · split
    · exact .inr (.inr ⟨by assumption, rfl⟩)
    · exact .inr (.inl ⟨by omega, rfl⟩)
end Go.Proofs.YtcjflafjmdfanaaGreatDoor
/- What Small of package substationref01, and scaled and Scale of substationref02 return. -/
namespace Go.Sub
/-- The int that a number is, and whether it fits. -/
def smallR (z : Int) : Int × Bool := if -9223372036854775808 ≤ z ∧ z ≤ 9223372036854775807 then (z, true) else (0, false)
/-- n * k, or Limit + 1. -/
def scaledR (l n k : Int) : Int := if -l ≤ n * k ∧ n * k ≤ l then n * k else l + 1
end Go.Sub
namespace Go.Proofs.YtcjflafjmdfanaaGreatDoor
open Go.RowKit Go.Sub
/-- The digits from k on, as one number. -/
def highD (l : List Int) (k : Nat) : Int := dval (l.drop k)
end Go.Proofs.YtcjflafjmdfanaaGreatDoor
/- What Neg, Add and Sub of package substationref01, and combined and Versus of substationref02 return. -/
namespace Go
theorem World.alloc_jk (W : World) (k : Jk) (o : Obj) : (W.jk k).alloc o = W.jk ⟨k.os.push o, k.n⟩ := by
  unfold World.jk World.alloc
  congr 1
  simp
end Go
namespace Go.Sub
theorem ne_nil_iff {n : Nat} : dig n ≠ [] ↔ n ≠ 0 := by rw [Ne, dig_nil]
/-- What Versus returns. -/
def versR (x : Su) (j : Int) (y : Su) (k : Int) : Int × Int := if wi4 1152921504606846976 x.a x.b y.a y.b && wi2 1073741824 j k then (versS x j y k, 0) else (0, 1)
end Go.Sub
namespace Go.Proofs.YtcjflafjmdfanaaGreatDoor
open Go.RowKit Go.Sub
end Go.Proofs.YtcjflafjmdfanaaGreatDoor
/- What Versus of package substationref02 returns. -/
namespace Go.Proofs.YtcjflafjmdfanaaGreatDoor
open Go.RowKit Go.Sub
end Go.Proofs.YtcjflafjmdfanaaGreatDoor
/- What Above and Distorted of package phasor and of its reference return for any argument. -/
namespace Go.Proofs.YtcjflafjmdfanaaGreatDoor
open Go.RowKit Go.Sub

/-- Whether a fundamental has at least a peak value, or an error. -/
def abvR (c : Cy) (p : Int) : Bool × Int := if wiB c 16777216 && decide (0 ≤ p) && decide (p ≤ 16383) then (aboveB c p, 0) else (false, 1)
theorem harm_norm {x : Nat → Int} (h : Int) (hx : WinOK x 16383) : (harm x h).In 400000 ∧ (harm x h).norm.In 1000000000000 := by
  have h1 := (harm_in h hx).mono (show 24 * 16383 ≤ (400000 : Int) by decide)
  exact ⟨h1, (norm_in h1).mono (by decide)⟩
def dstB (x : Nat → Int) (p : Int) : Bool := decide (0 < versS (harm x 2).norm 10000 (harm x 1).norm (p * p))
set_option maxHeartbeats 1000000 in
theorem phsize_c (h : Int) (b o c : Nat) (x : Nat → Int) (w : World) (hr : RootsOK w) (hw : Win w b o x) (hx : WinOK x 16383) :
    Calls Tryz.prog 106 #[.slice (some ⟨b, o, none⟩) 12 c, .int .i64 h] w fun e w' => e = .returned (.tuple #[.agg #[.int .i64 (harm x h).norm.a, .int .i64 (harm x h).norm.b], .int .i64 0]) ∧ Q w w' := by
  have hn := (harm_norm h hx).1
  have HW := Lib.hid hw
  have HX := Lib.hid hx
  clear hw hx
  go_enter Tryz.func106, Tryz.ntmps106
  go_wp2_with (first | (go_at_call 68; refine (phharm_c h _ _ _ x _ (by repeat' (first | with_reducible exact hr | refine RootsOK.alloc ?_ _ | refine RootsOK.jk ?_ _ | refine RootsOK.drew ?_)) (HW.out.q (by repeat' (first | exact Q.refl _ | refine Q.alloc ?_ _ | refine Q.jk ?_ _ | refine Q.drew ?_))) HX.out).mono ?_; rintro e w' ⟨rfl, kj, rfl⟩) | (go_at_call 103; refine (norm_c (harm x h) _ (hn.mono (by decide))).mono ?_; rintro e w' ⟨rfl, kj, rfl⟩))
  refine bodyPost_ret (v := .tuple #[.agg #[.int .i64 (harm x h).norm.a, .int .i64 (harm x h).norm.b], .int .i64 0]) (by simp [results, Tryz.results106, go_sem]) rfl ⟨rfl, ?_⟩
  repeat' (first | exact Q.refl _ | refine Q.alloc ?_ _ | refine Q.jk ?_ _ | refine Q.drew ?_)
set_option maxHeartbeats 2000000 in
theorem phdist_c (b o c : Nat) (x : Nat → Int) (p : Int) (w : World) (hr : RootsOK w) (hw : Win w b o x) (hx : WinOK x 16383) (p0 : 0 ≤ p) (p1 : p ≤ 100) :
    Calls Tryz.prog 70 #[.slice (some ⟨b, o, none⟩) 12 c, .int .i64 p] w fun e w' => e = .returned (.tuple #[.bool (dstB x p), .int .i64 0]) ∧ Q w w' := by
  obtain ⟨m2, n2⟩ := harm_norm 2 hx
  obtain ⟨m1, n1⟩ := harm_norm 1 hx
  have hp := bd_mul (show -100 ≤ p by omega) p1 (show -100 ≤ p by omega) p1
  have hpp : 0 ≤ p * p := Int.mul_nonneg p0 p0
  have hs : VsSmall (harm x 2).norm 10000 (harm x 1).norm (p * p) := VsSmall.of (l := 1000000000000) (m := 10000) n2 n1 (by decide) (by decide) (by omega) (by omega) (by decide)
  have h4 : wi4 1152921504606846976 (harm x 2).norm.a (harm x 2).norm.b (harm x 1).norm.a (harm x 1).norm.b = true := (wi4_iff _ _ _ _ _).2 (by unfold Su.In at n1 n2; omega)
  have h2 : wi2 1073741824 10000 (p * p) = true := (wi2_iff _ _ _).2 (by omega)
  have HW := Lib.hid hw
  have HX := Lib.hid hx
  have ck := chkE_ok hx
  have CK := Lib.hid (fun w' (hq : Q w w') => phcheck_any b o c x w' (HW.out.q hq))
  rw [ck] at CK
  have Z2 := Lib.hid (fun w' (hq : Q w w') => phsize_c 2 b o c x w' (hr.q hq) (HW.out.q hq) HX.out)
  have Z1 := Lib.hid (fun w' (hq : Q w w') => phsize_c 1 b o c x w' (hr.q hq) (HW.out.q hq) HX.out)
  have VS := Lib.hid (fun w => vers_c (harm x 2).norm 10000 (harm x 1).norm (p * p) w (n2.mono (by decide)) (n1.mono (by decide)) (by decide) (by decide) (by omega) (by omega) hs)
  obtain ⟨q1, q2⟩ := hp
  simp only [Int.reduceMul, Int.reduceNeg] at q1 q2
  unfold dstB
  obtain ⟨A, hA⟩ : ∃ A, A = (harm x 2).norm := ⟨_, rfl⟩
  obtain ⟨B, hB⟩ : ∃ B, B = (harm x 1).norm := ⟨_, rfl⟩
  clear hw hx ck hs h4 h2
  go_enter Tryz.func70, Tryz.ntmps70
  go_wp2_with (first | (go_at_call 33; refine (CK.out _ (by repeat' (first | exact Q.refl _ | refine Q.alloc ?_ _ | refine Q.jk ?_ _ | refine Q.drew ?_))).mono ?_; rintro e w' ⟨rfl, rfl⟩) | (go_at_call 106; first | ((with_reducible refine (Z2.out _ (by repeat' (first | exact Q.refl _ | refine Q.alloc ?_ _ | refine Q.jk ?_ _ | refine Q.drew ?_))).mono ?_); rintro e w' ⟨rfl, kj, rfl⟩) | ((with_reducible refine (Z1.out _ (by repeat' (first | exact Q.refl _ | refine Q.alloc ?_ _ | refine Q.jk ?_ _ | refine Q.drew ?_))).mono ?_); rintro e w' ⟨rfl, kj, rfl⟩)) | (go_at_call 105; (with_reducible refine (VS.out _).mono ?_); rintro e w' ⟨rfl, kj, rfl⟩))
  go_ret2
  refine ⟨rfl, ?_⟩
  repeat' (first | exact Q.refl _ | refine Q.alloc ?_ _ | refine Q.jk ?_ _ | refine Q.drew ?_)
end Go.Proofs.YtcjflafjmdfanaaGreatDoor
set_option linter.unusedVariables false
set_option linter.unusedSimpArgs false
namespace Go
open Go.RowKit
/-- The cells of a block, as a function says. -/
def arrF (F : Nat → Value) (N : Nat) : Array Value := ((List.range N).map F).toArray
theorem arrF_size (F : Nat → Value) (N : Nat) : (arrF F N).size = N := by simp [arrF]
theorem arrF_get (F : Nat → Value) {N i : Nat} (h : i < N) : (arrF F N)[i]? = some (F i) := by
  simp [arrF, List.getElem?_map, List.getElem?_range h]
theorem arrF_congr {F G : Nat → Value} {N : Nat} (h : ∀ j, j < N → F j = G j) : arrF F N = arrF G N := by
  unfold arrF
  congr 1
  exact List.map_congr_left fun j hj => h j (List.mem_range.1 hj)
/-- One cell is another. -/
def updF (F : Nat → Value) (i : Nat) (v : Value) : Nat → Value := fun j => if j = i then v else F j
theorem updF_same (F : Nat → Value) (i : Nat) (v : Value) : updF F i v i = v := if_pos rfl
theorem updF_other (F : Nat → Value) {i j : Nat} (v : Value) (h : j ≠ i) : updF F i v j = F j := if_neg h
theorem arrF_set (F : Nat → Value) (N i : Nat) (v : Value) : (arrF F N).setIfInBounds i v = arrF (updF F i v) N := by
  apply Array.ext_getElem?
  intro j
  rw [Array.getElem?_setIfInBounds, arrF_size]
  by_cases hj : j < N
  · rw [arrF_get _ hj, arrF_get _ hj]
    by_cases e : i = j
    · subst e
      rw [if_pos rfl, if_pos hj, updF_same]
    · rw [if_neg e, updF_other _ _ (Ne.symm e)]
  · have h1 : (arrF F N)[j]? = none := Array.getElem?_eq_none (by rw [arrF_size]; omega)
    have h2 : (arrF (updF F i v) N)[j]? = none := Array.getElem?_eq_none (by rw [arrF_size]; omega)
    rw [h1, h2]
    by_cases e : i = j
    · rw [if_pos e, if_neg (by omega)]
    · rw [if_neg e]
theorem madeCells_arrF (z : Array Value) (n : Nat) : madeCells z n = arrF (fun j => z[j % z.size]!) n := by
  apply Array.ext'
  simp [madeCells, arrF, Array.toList_map, Array.toList_range]
end Go
namespace Go.Sub
open Go
/-- The window of a phase of a bay. -/
def wvF (W : List Int) (k ph : Nat) (j : Nat) : Int := W.getD (k * 72 + ph * 12 + j) 0
/-- The settings of a bus relay. -/
structure Rel where
  kd : Int
  dm : Int
  nu : Int
  de : Int
  hm : Int
/-- The settings may be used. -/
def usB (r : Rel) : Bool := if r.dm = 0 then decide (r.nu = 0) && decide (r.de = 0) && decide (r.hm = 0) else decide (0 < r.dm) && decide (r.dm ≤ 16383) && decide (1 ≤ r.de) && decide (r.de ≤ 100) && decide (0 ≤ r.nu) && decide (r.nu ≤ r.de) && decide (0 ≤ r.hm) && decide (r.hm ≤ 100)
/-- All members have good samples. -/
def cpB (G : List Bool) (ml : List (Int × Int)) : Bool := ml.all fun m => G.getD m.1.toNat false
end Go.Sub
namespace Go.Proofs.YtcjflafjmdfanaaGreatDoor
open Go.RowKit Go.Sub
attribute [local go_sem ↓] Go.wp_at_zero Go.wp_at_succ
@[go_sem ↓ high] theorem lvRelay (a : Addr) : loadVar 44 a = bigLoad 44 a := rfl
/-- The cells of a relay's settings. -/
class RelC (cs : Array Value) (r : outParam Rel) : Prop where
  size : cs.size = 53
  kd : cs[1]? = some (.int .i64 r.kd)
  dm : cs[45]? = some (.int .i64 r.dm)
  nu : cs[46]? = some (.int .i64 r.nu)
  de : cs[47]? = some (.int .i64 r.de)
  hm : cs[48]? = some (.int .i64 r.hm)
theorem infoRelay : (Tryz.prog.info? 44).map (·.size) = some 53 := by kernel_rfl
@[go_sem ↓ high] theorem rlRelay {w : World} {n : Nat} {cs : Array Value} {r : Rel} {t : TypeId} {fr : Nat × Nat} [h : Blk w n (.cells cs t fr)] [hs : RelC cs r] :
    (bigLoad 44 ⟨n, 0, none⟩).run Tryz.prog w = .ok (.agg cs) w := run_bigLoad Tryz.underlying44 rfl (by rw [hs.size]; exact infoRelay)
/-- The samples of the bays lie in memory. -/
def WvAt (w : World) (A : Option Addr) (n c : Nat) (W : List Int) : Prop := RdV w A n c 72 (W.map (Value.int .i64)) ∧ (n : Int) ≤ 9223372036854775807
theorem WvAt.q {w w' : World} {A : Option Addr} {n c : Nat} {W : List Int} (h : WvAt w A n c W) (hq : Q w w') : WvAt w' A n c W := ⟨h.1.q hq, h.2⟩
theorem WvAt.at_ {w : World} {A : Option Addr} {n c : Nat} {W : List Int} (h : WvAt w A n c W) (hn : 0 < n) : ∃ g o, A = some ⟨g, o, none⟩ ∧ Old g w ∧ Hid (∀ k ph, k < n → ph < 6 → Win w g (o + k * 72 + ph * 12) (wvF W k ph)) := by
  obtain ⟨g, o, e, ho, hc⟩ := h.1.at_ hn
  refine ⟨g, o, e, ho, Lib.hid fun k ph hk hp j hj => ?_⟩
  have hl : W.length = n * 72 := by have := h.1.1; rwa [List.length_map] at this
  have hi : k * 72 + ph * 12 + j < W.length := by rw [hl]; omega
  have := hc.out (k * 72 + ph * 12 + j) (.int .i64 (wvF W k ph j)) (by
    rw [List.getElem?_map, List.getElem?_eq_getElem hi]
    unfold wvF
    rw [List.getD_eq_getElem?_getD, List.getElem?_eq_getElem hi]
    rfl)
  rw [← this]
  congr 2
  omega
/-- The goodness of the bays. -/
def GdAt (w : World) (A : Option Addr) (n c : Nat) (G : List Bool) : Prop := RdV w A n c 1 (G.map Value.bool) ∧ (n : Int) ≤ 9223372036854775807
theorem GdAt.q {w w' : World} {A : Option Addr} {n c : Nat} {G : List Bool} (h : GdAt w A n c G) (hq : Q w w') : GdAt w' A n c G := ⟨h.1.q hq, h.2⟩
theorem GdAt.len {w : World} {A : Option Addr} {n c : Nat} {G : List Bool} (h : GdAt w A n c G) : G.length = n := by have := h.1.1; rw [List.length_map] at this; omega
theorem GdAt.at_ {w : World} {A : Option Addr} {n c : Nat} {G : List Bool} (h : GdAt w A n c G) (hn : 0 < n) : ∃ g o, A = some ⟨g, o, none⟩ ∧ Old g w ∧ Hid (∀ k, k < n → w.cell? ⟨g, o + k, none⟩ = some (.bool (G.getD k false))) := by
  obtain ⟨g, o, e, ho, hc⟩ := h.1.at_ hn
  refine ⟨g, o, e, ho, Lib.hid fun k hk => hc.out k _ ?_⟩
  have hi : k < G.length := by rw [h.len]; exact hk
  rw [List.getElem?_map, List.getElem?_eq_getElem hi, List.getD_eq_getElem?_getD, List.getElem?_eq_getElem hi]
  rfl
/-- Members, read. -/
theorem mem_at {w : World} {A : Option Addr} {n c : Nat} {ml : List (Int × Int)} (h : RdV w A n c 2 (ml.flatMap mmC)) (hn : 0 < n) : ∃ g o, A = some ⟨g, o, none⟩ ∧ Old g w ∧ Hid (∀ k m, ml[k]? = some m → w.cell? ⟨g, o + k * 2, none⟩ = some (.int .i64 m.1) ∧ w.cell? ⟨g, o + k * 2 + 1, none⟩ = some (.int .i64 m.2)) := by
  obtain ⟨g, o, e, ho, hc⟩ := h.at_ hn
  refine ⟨g, o, e, ho, Lib.hid fun k m hm => ⟨?_, ?_⟩⟩
  · exact hc.out (k * 2) _ (by rw [show k * 2 = k * 2 + 0 from rfl, mmC_get ml k 0 m hm (by decide)]; rfl)
  · rw [Nat.add_assoc]
    exact hc.out (k * 2 + 1) _ (by rw [mmC_get ml k 1 m hm (by decide)]; rfl)
theorem mem_len {w : World} {A : Option Addr} {n c : Nat} {ml : List (Int × Int)} (h : RdV w A n c 2 (ml.flatMap mmC)) : ml.length = n := by have := h.1; rw [mmC_len] at this; omega
set_option maxRecDepth 100000 in
set_option maxHeartbeats 4000000 in
theorem window_c (g o n c k ph : Nat) (w : World) (hk : k < n) (hp : ph < 3) :
    Calls Tryz.prog 34 #[.slice (some ⟨g, o, none⟩) n c, .int .i64 k, .int .i64 ph] w fun e w' => e = .returned (.slice (some ⟨g, o + k * 72 + ph * 12, none⟩) 12 12) ∧ Q w w' := by
  have k0 : (0 : Int) ≤ (k : Int) := by omega
  have k1 : (k : Int) < (n : Int) := by omega
  have p0 : (0 : Int) ≤ (ph : Int) := by omega
  have p1 : (ph : Int) < 3 := by omega
  clear hk hp
  go_enter Tryz.func34, Tryz.ntmps34
  go_wp2_with fail
  go_ret
  refine ⟨?_, (by repeat' (first | exact Q.refl _ | refine Q.alloc ?_ _ | refine Q.jk ?_ _ | refine Q.drew ?_))⟩
  rfl
set_option maxRecDepth 100000 in
set_option maxHeartbeats 8000000 in
theorem usable_c (cs : Array Value) (r : Rel) [hR : RelC cs r] (w : World) :
    Calls Tryz.prog 32 #[.agg cs] w fun e w' => e = .returned (.bool (usB r)) ∧ Q w w' := by
  have h1 := hR.dm
  have h2 := hR.nu
  have h3 := hR.de
  have h4 := hR.hm
  unfold usB
  generalize r.dm = dm at *
  generalize r.nu = nu at *
  generalize r.de = de at *
  generalize r.hm = hm at *
  clear hR
  go_enter Tryz.func32, Tryz.ntmps32
  go_wp2_with fail
  all_goals
    go_ret
    refine ⟨?_, (by repeat' (first | exact Q.refl _ | refine Q.alloc ?_ _ | refine Q.jk ?_ _ | refine Q.drew ?_))⟩
    (simp_all) <;> (first | rfl | omega)
set_option maxRecDepth 100000 in
set_option maxHeartbeats 8000000 in
theorem complete_c (A : Option Addr) (n c : Nat) (ml : List (Int × Int)) (aG : Option Addr) (nG cG : Nat) (G : List Bool) (w : World) (hm : RdV w A n c 2 (ml.flatMap mmC)) (hG : GdAt w aG nG cG G) (hn : n < 1000) (hb : ∀ m ∈ ml, ∃ k : Nat, m.1 = (k : Int) ∧ k < nG) :
    Calls Tryz.prog 36 #[.slice A n c, .slice aG nG cG] w fun e w' => e = .returned (.bool (cpB G ml)) ∧ Q w w' := by
  have HL := Lib.hid (mem_len hm)
  have HM := Lib.hid hm
  have HG := Lib.hid hG
  have HB' := Lib.hid hb
  have HC : Hid (cpB G ml = ml.all fun m => G.getD m.1.toNat false) := Lib.hid rfl
  generalize cpB G ml = C at HC ⊢
  have n0 : (0 : Int) ≤ (n : Int) := by omega
  clear hm hG hb
  go_enter Tryz.func36, Tryz.ntmps36
  go_wp2_with fail
  go_loopw [9] (fun i wr => ∃ k : Nat, i = .int .i64 k ∧ k ≤ n ∧ Hid (∀ j m, j < k → ml[j]? = some m → G.getD m.1.toNat false = true) ∧ Q w wr) (fun i _ => n - (intOf i).toNat)
  case atStart => exact ⟨0, rfl, Nat.zero_le _, Lib.hid (fun j m hj => absurd hj (Nat.not_lt_zero _)), Q.refl _⟩
  case round =>
    obtain ⟨k, rfl, hk, HZ, kk, rfl⟩ := hrel
    by_cases hlt : k < n
    · obtain ⟨m, hm⟩ : ∃ m, ml[k]? = some m := ⟨_, List.getElem?_eq_getElem (by rw [HL.out]; exact hlt)⟩
      obtain ⟨g, o, rfl, og, hc⟩ := mem_at HM.out (by omega)
      obtain ⟨a1, a2⟩ := hc.out k m hm
      obtain ⟨q, eq, hq⟩ := HB'.out m (List.mem_of_getElem? hm)
      obtain ⟨g2, o2, rfl, og2, hc2⟩ := HG.out.at_ (by omega)
      have a3 := hc2.out q hq
      rw [eq] at a1
      have EM : Hid (m.1.toNat = q) := Lib.hid (by rw [eq]; exact Int.toNat_natCast q)
      have EMK := Lib.hid hm
      have k0 : (0 : Int) ≤ (k : Int) := by omega
      have k1 : (k : Int) < (n : Int) := by omega
      have q0 : (0 : Int) ≤ (q : Int) := by omega
      have q1 : (q : Int) < (nG : Int) := by omega
      obtain ⟨b, eb⟩ : ∃ b, G.getD q false = b := ⟨_, rfl⟩
      rw [eb] at a3
      have EB := Lib.hid eb
      clear hc hc2 hm eq eb
      cases b with
      | false =>
        have EC : Hid (C = false) := Lib.hid (by
          rw [HC.out, List.all_eq_false]
          exact ⟨m, List.mem_of_getElem? EMK.out, by rw [EM.out, EB.out]; decide⟩)
        go_wp2_with fail
        go_ret
        exact ⟨by rw [EC.out]; rfl, (by repeat' (first | exact Q.refl _ | refine Q.alloc ?_ _ | refine Q.jk ?_ _ | refine Q.drew ?_))⟩
      | true =>
        go_wp2_with fail
        go_roundw
        case rel =>
          refine ⟨k + 1, by go_num, by omega, Lib.hid (fun j m' hj hm' => ?_), (by repeat' (first | exact Q.refl _ | refine Q.alloc ?_ _ | refine Q.jk ?_ _ | refine Q.drew ?_))⟩
          by_cases e : j = k
          · subst e
            rw [EMK.out] at hm'
            obtain rfl := Option.some.inj hm'
            rw [EM.out, EB.out]
          · exact HZ.out j m' (by omega) hm'
        case measure => simp [intOf] <;> omega
    · obtain rfl : n = k := by omega
      have EC : Hid (C = true) := Lib.hid (by
        rw [HC.out, List.all_eq_true]
        intro m hm
        obtain ⟨j, hj⟩ := List.getElem?_of_mem hm
        exact HZ.out j m (by rw [← HL.out]; exact (List.getElem?_eq_some_iff.1 hj).1) hj)
      go_wp2_with fail
      go_ret
      exact ⟨by rw [EC.out]; rfl, (by repeat' (first | exact Q.refl _ | refine Q.alloc ?_ _ | refine Q.jk ?_ _ | refine Q.drew ?_))⟩
end Go.Proofs.YtcjflafjmdfanaaGreatDoor
