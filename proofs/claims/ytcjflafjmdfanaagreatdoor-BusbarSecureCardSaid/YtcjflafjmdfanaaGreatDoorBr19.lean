
/- Weighted currents and their sums: plain arithmetic. No program in sight. -/
import Derived.Test.YtcjflafjmdfanaaGreatDoorBr18
import Derived.Test.YtcjflafjmdfanaaGreatDoorBr01
import Derived.Deep.DeepCutAuto
import Derived.Deep.CutBlock
import Derived.Laws.MakeOwn
import Derived.IntWalk
import Derived.Test.YtcjflafjmdfanaaGreatDoorBr17
import Derived.Deep.RegionHeld3
import Derived.Laws.Bits64
import Derived.Test.YtcjflafjmdfanaaGreatDoorBr09
import Derived.Test.YtcjflafjmdfanaaGreatDoorBr16
set_option linter.unusedSimpArgs false
set_option linter.unusedVariables false
/- Products, sums and differences of digits: the steps of the loops. No program in sight. -/
namespace Go.Sub
theorem mul_bd {x y : Int} (hx : 0 ≤ x ∧ x < 4294967296) (hy : 0 ≤ y ∧ y < 4294967296) : 0 ≤ x * y ∧ x * y ≤ 18446744065119617025 := by
 have h1 := Int.mul_nonneg hx.1 hy.1
 have h2 := Int.mul_le_mul (show x ≤ 4294967295 by omega) (show y ≤ 4294967295 by omega) hy.1 (by decide)
 omega
/-- Within a row of the product: i digits of a are done, and k of b for the next one; c is carried. -/
structure MulInv (a b o : List Int) (i k : Nat) (c : Int) : Prop where
 len : o.length = a.length + b.length
 dg : Dg o
 c0 : 0 ≤ c
 c1 : c < 4294967296
 zero : ∀ j, i + b.length ≤ j → o.getD j 0 = 0
 val : dval o + wt (i + k) * c = dval (a.take i) * dval b + wt i * (a.getD i 0 * dval (b.take k))
theorem MulInv.step {a b o : List Int} {i k : Nat} {c t : Int} (h : MulInv a b o i k c) (ha : Dg a) (hb : Dg b) (hi : i < a.length) (hk : k < b.length) (ht : t = a.getD i 0 * b.getD k 0 + o.getD (i + k) 0 + c) :
  MulInv a b (o.set (i + k) (t % 4294967296)) i (k + 1) (t / 4294967296) ∧ 0 ≤ t ∧ t < 18446744073709551616 := by
 have h1 := mul_bd (ha.getD i) (hb.getD k)
 have h2 := h.dg.getD (i + k)
 have h3 := h.c0
 have h4 := h.c1
 have hl := h.len
 have ht0 : 0 ≤ t := by omega
 have ht1 : t < 18446744073709551616 := by omega
 refine ⟨⟨by simp [hl], h.dg.set _ (by omega) (by omega), by omega, by omega, fun j hj => ?_, ?_⟩, ht0, ht1⟩
 ·rw [List.getD_eq_getElem?_getD, List.getElem?_set_ne (by omega), ← List.getD_eq_getElem?_getD]
  exact h.zero j hj
 ·have hv := h.val
  rw [dval_set _ _ (by omega), dval_take_succ b k hk]
  have e1 : wt (i + (k + 1)) = 4294967296 * wt (i + k) := by rw [show i + (k + 1) = i + k + 1 by omega]; rfl
  have e2 : wt (i + k) = wt i * wt k := wt_add i k
  rw [e1]
  generalize dval o = D at *
  generalize dval (a.take i) * dval b = X at *
  generalize dval (b.take k) = Y at *
  generalize o.getD (i + k) 0 = z at *
  generalize a.getD i 0 = x at *
  generalize b.getD k 0 = y at *
  have e3 : t % 4294967296 = t - 4294967296 * (t / 4294967296) := by omega
  rw [e3]
  generalize t / 4294967296 = q at *
  subst ht
  rw [e2] at *
  generalize wt i = p at *
  generalize wt k = r at *
  grind
theorem MulInv.row {a b o : List Int} {i : Nat} {c : Int} (h : MulInv a b o i b.length c) (hi : i < a.length) : MulInv a b (o.set (i + b.length) c) (i + 1) 0 0 := by
 have hl := h.len
 refine ⟨by simp [hl], h.dg.set _ h.c0 h.c1, by decide, by decide, fun j hj => ?_, ?_⟩
 ·rw [List.getD_eq_getElem?_getD, List.getElem?_set_ne (by omega), ← List.getD_eq_getElem?_getD]
  exact h.zero j (by omega)
 ·have hv := h.val
  rw [dval_set _ _ (by omega), h.zero (i + b.length) (Nat.le_refl _), dval_take_succ a i hi, Int.mul_zero, Int.add_zero]
  rw [List.take_length] at hv
  simp only [List.take_zero, dval, Int.mul_zero, Int.add_zero, Int.sub_zero]
  rw [Int.add_mul, ← Int.mul_assoc (wt i)] at *
  omega
theorem MulInv.start (a b : List Int) : MulInv a b (List.replicate (a.length + b.length) 0) 0 0 0 := by
 have hz : ∀ n, dval (List.replicate n 0) = 0 := fun n => by
  induction n with
  | zero => rfl
  | succ n ih => rw [List.replicate_succ]; simp [dval, ih]
 refine ⟨by simp, fun d hd => by have := List.eq_of_mem_replicate hd; omega, by decide, by decide, fun j _ => ?_, ?_⟩
 ·simp [List.getD, List.getElem?_replicate]
  split <;> rfl
 ·rw [hz]
  simp [dval]
theorem MulInv.done {a b o : List Int} (h : MulInv a b o a.length 0 0) : dval o = dval a * dval b := by
 have := h.val
 simpa [List.take_length, dval] using this
/-- A sum: i digits are done, c is carried. -/
structure AddInv (a b o : List Int) (i : Nat) (c : Int) : Prop where
 len : o.length = i
 dg : Dg o
 c0 : 0 ≤ c
 c1 : c ≤ 1
 val : dval o + wt i * c = dval (a.take i) + dval (b.take i)
theorem dval_take_next (a : List Int) (i : Nat) : dval (a.take (i + 1)) = dval (a.take i) + wt i * a.getD i 0 := by
 rcases Nat.lt_or_ge i a.length with h | h
 ·exact dval_take_succ a i h
 ·rw [List.take_of_length_le (by omega), List.take_of_length_le h, getD_ge h]
  omega
theorem AddInv.step {a b o : List Int} {i : Nat} {c t : Int} (h : AddInv a b o i c) (ha : Dg a) (hb : Dg b) (ht : t = c + a.getD i 0 + b.getD i 0) :
  AddInv a b (o ++ [t % 4294967296]) (i + 1) (t / 4294967296) ∧ 0 ≤ t ∧ t < 8589934592 := by
 have h1 := ha.getD i
 have h2 := hb.getD i
 have h3 := h.c0
 have h4 := h.c1
 have hl := h.len
 refine ⟨⟨by simp [hl], h.dg.append (Dg.cons (by omega) (by omega) Dg.nil), by omega, by omega, ?_⟩, by omega, by omega⟩
 have hv := h.val
 rw [dval_snoc, dval_take_next, dval_take_next, hl]
 have e1 : wt (i + 1) = 4294967296 * wt i := rfl
 have e3 : t % 4294967296 = t - 4294967296 * (t / 4294967296) := by omega
 rw [e1, e3]
 generalize t / 4294967296 = q at *
 generalize dval o = D at *
 generalize dval (a.take i) = X at *
 generalize dval (b.take i) = Y at *
 generalize a.getD i 0 = x at *
 generalize b.getD i 0 = y at *
 subst ht
 generalize wt i = p at *
 grind
theorem AddInv.start (a b : List Int) : AddInv a b [] 0 0 := ⟨rfl, Dg.nil, by decide, by decide, by simp [dval]⟩
theorem AddInv.done {a b o : List Int} {i : Nat} (h : AddInv a b o i 0) (ha : a.length ≤ i) (hb : b.length ≤ i) : dval o = dval a + dval b := by
 have := h.val
 rw [List.take_of_length_le ha, List.take_of_length_le hb] at this
 omega
/-- A difference: i digits are done, c is borrowed. -/
structure SubInv (a b o : List Int) (i : Nat) (c : Int) : Prop where
 len : o.length = i
 dg : Dg o
 c0 : 0 ≤ c
 c1 : c ≤ 1
 val : dval o = dval (a.take i) - dval (b.take i) + wt i * c
theorem SubInv.step {a b o : List Int} {i : Nat} {c t : Int} (h : SubInv a b o i c) (ha : Dg a) (hb : Dg b) (ht : t = (a.getD i 0 - c - b.getD i 0) % 18446744073709551616) :
  SubInv a b (o ++ [t % 4294967296]) (i + 1) (t / 9223372036854775808) ∧ 0 ≤ t ∧ t < 18446744073709551616 := by
 have h1 := ha.getD i
 have h2 := hb.getD i
 have h3 := h.c0
 have h4 := h.c1
 have hl := h.len
 refine ⟨⟨by simp [hl], h.dg.append (Dg.cons (by omega) (by omega) Dg.nil), by omega, by omega, ?_⟩, by omega, by omega⟩
 have hv := h.val
 rw [dval_snoc, dval_take_next, dval_take_next, hl]
 have e1 : wt (i + 1) = 4294967296 * wt i := rfl
 have e3 : t % 4294967296 = a.getD i 0 - c - b.getD i 0 + 4294967296 * (t / 9223372036854775808) := by omega
 rw [e1, e3]
 generalize t / 9223372036854775808 = q at *
 generalize dval o = D at *
 generalize dval (a.take i) = X at *
 generalize dval (b.take i) = Y at *
 generalize a.getD i 0 = x at *
 generalize b.getD i 0 = y at *
 clear ht e3 e1
 generalize wt i = p at *
 grind
theorem SubInv.start (a b : List Int) : SubInv a b [] 0 0 := ⟨rfl, Dg.nil, by decide, by decide, by simp [dval]⟩
theorem SubInv.done {a b o : List Int} {c : Int} (h : SubInv a b o a.length c) (hb : b.length ≤ a.length) (hle : dval b ≤ dval a) : dval o = dval a - dval b := by
 have hv := h.val
 have h1 := dval_lt h.dg
 rw [h.len] at h1
 rw [List.take_length, List.take_of_length_le hb] at hv
 have h0 := h.c0
 have h2 := h.c1
 have hc : c = 0 ∨ c = 1 := by omega
 rcases hc with rfl | rfl
 ·omega
 ·omega
theorem len_le_of_dval {a b : List Int} (ha : Dg a) (hb : Dg b) (tb : Tr b) (h : dval b ≤ dval a) : b.length ≤ a.length := by
 rcases Nat.lt_or_ge a.length b.length with hx | hx
 ·have := dval_longer ha hb tb hx
  omega
 ·exact hx
/-- What a comparison says. -/
def cmpI (x y : Int) : Int := if x < y then -1 else if y < x then 1 else 0
end Go.Sub
/- What trim, compare, Valid, made, digits and Of of package substationref01 return. -/
namespace Go.Sub
/-- Digits without leading zeros. -/
def trL (l : List Int) : List Int := dig (dval l).toNat
theorem trL_of {l : List Int} {k : Nat} (hl : Dg l) (hk : k ≤ l.length) (hz : ∀ j, k ≤ j → l.getD j 0 = 0) (ht : k = 0 ∨ l.getD (k - 1) 0 ≠ 0) : l.take k = trL l := by
 unfold trL
 rw [← dval_take_zeros l k hz]
 exact eq_dig (hl.take k) (Tr.take hk ht)
end Go.Sub
namespace Go.Proofs.YtcjflafjmdfanaaGreatDoor
open Go.RowKit Go.Sub
end Go.Proofs.YtcjflafjmdfanaaGreatDoor
/- What times of package substationref01 returns. -/
namespace Go.Sub
/-- The cells of digits. -/
def cellsU (o : List Int) : Array Value := (o.map (Value.int .u32)).toArray
theorem cellsU_at {o : List Int} {j : Nat} (h : j < o.length) : (cellsU o)[j]? = some (.int .u32 (o.getD j 0)) := by
 simp [cellsU, List.getD, h]
theorem cellsU_set (o : List Int) (j : Nat) (d : Int) : (cellsU o).setIfInBounds j (.int .u32 d) = cellsU (o.set j d) := by
 simp [cellsU, List.map_set]
theorem madeCells_u32 (n : Nat) : madeCells (Value.int .u32 0).cells n = cellsU (List.replicate n 0) := by
 unfold madeCells cellsU
 apply Array.ext
 ·simp
 ·intro i h1 h2
  have e : i % 1 = 0 := Nat.mod_one i
  simp [Value.cells, e]
end Go.Sub
namespace Go.Proofs.YtcjflafjmdfanaaGreatDoor
open Go.RowKit Go.Sub
theorem make_u32 (w : World) (k : Int) (n : Nat) (hk : k = n) (hn : n < 1000000) :
  (Instr.makeSlice 194 (.int .i64 k) (.int .i64 k)).run Tryz.prog w = .ok (.slice (some ⟨w.heap.size, 0, none⟩) n n) (w.alloc (.cells (cellsU (List.replicate n 0)) 240)) := by
 obtain ⟨i, hi, hz, hs1, hb⟩ := infoU32
 subst hk
 have := run_make (P := Tryz.prog) w 194 240 i (.int .u32 0) Tryz.underlying194 hi hz .i64 .i64 n n (by omega) (Int.le_refl _) (by rw [hb]; omega) (by omega)
 rw [this, hs1]
 simp only [Int.toNat_natCast, Nat.mul_one]
 rw [madeCells_u32]
end Go.Proofs.YtcjflafjmdfanaaGreatDoor
/- What Valid, made, digits, Of, result, Compare, Sign and Mul of package substationref01 return. -/
namespace Go.Sub
/-- An integer of few digits. -/
def Sm (z : Int) : Prop := (z.natAbs : Int) < wt 12
theorem Sm.len {z : Int} (h : Sm z) : (dig z.natAbs).length ≤ 12 := dig_length_le h
theorem Sm.of {z : Int} (h0 : -39402006196394479212279040100143613805079739270465446667948293404245721771497210611414266254884915640806627990306816 < z) (h1 : z < 39402006196394479212279040100143613805079739270465446667948293404245721771497210611414266254884915640806627990306816) : Sm z := by
 have : wt 12 = 39402006196394479212279040100143613805079739270465446667948293404245721771497210611414266254884915640806627990306816 := by decide
 unfold Sm
 rw [this]
 omega
theorem dval_dg (z : Int) : dval (dig z.natAbs) = (z.natAbs : Int) := dval_dig _
theorem cmpI_neg (x y : Int) : cmpI (-x) (-y) = cmpI y x := by unfold cmpI; repeat' split <;> omega
theorem trL_dig (n : Nat) : trL (dig n) = dig n := by unfold trL; rw [dval_dig]; rfl
theorem trL_two (u : Int) (_ : 0 ≤ u) (_ : u < 18446744073709551616) : trL [u % 4294967296, u / 4294967296] = dig u.toNat := by
 unfold trL
 congr 2
 simp only [dval]
 omega
theorem cmp_signs {x y : Int} (h : x < 0) (h' : 0 ≤ y) : cmpI x y = -1 := by unfold cmpI; split <;> omega
theorem cmp_signs' {x y : Int} (h : 0 ≤ x) (h' : y < 0) : cmpI x y = 1 := by unfold cmpI; repeat' split <;> omega
theorem cmp_abs {x y : Int} (h : 0 ≤ x) (h' : 0 ≤ y) : cmpI (x.natAbs : Int) (y.natAbs : Int) = cmpI x y := by
 rw [show (x.natAbs : Int) = x by omega, show (y.natAbs : Int) = y by omega]
theorem cmp_abs' {x y : Int} (h : x < 0) (h' : y < 0) : cmpI (y.natAbs : Int) (x.natAbs : Int) = cmpI x y := by
 rw [show (x.natAbs : Int) = -x by omega, show (y.natAbs : Int) = -y by omega, cmpI_neg]
theorem cmp_zero (x : Int) : cmpI x 0 = sgn x := by unfold cmpI sgn; rfl
end Go.Sub
namespace Go
open Go.Sub
def RetZ (z : Int) (w : World) (e : Ending) (w' : World) : Prop := RetI (decide (z < 0)) (dig z.natAbs) w e w'
def RetZ2 (z : Int) (w : World) (e : Ending) (w' : World) : Prop := RetI2 (decide (z < 0)) (dig z.natAbs) w e w'
end Go
namespace Go.Proofs.YtcjflafjmdfanaaGreatDoor
open Go.RowKit Go.Sub
theorem mul_sgn {x y : Int} (l : List Int) (hl : l = dig (x * y).natAbs) : ((decide (x < 0) != decide (y < 0)) && decide (l ≠ [])) = decide (x * y < 0) := by
 have e : (l ≠ []) ↔ x * y ≠ 0 := by rw [hl, Ne, dig_nil]; omega
 rw [Bool.eq_iff_iff]
 simp only [Bool.and_eq_true, bne_iff_ne, ne_eq, decide_eq_decide, decide_eq_true_eq, e]
 rcases Int.lt_trichotomy x 0 with hx | hx | hx <;> rcases Int.lt_trichotomy y 0 with hy | hy | hy
 ·have := Int.mul_pos_of_neg_of_neg hx hy; generalize x * y = p at *; omega
 ·subst hy; simp
 ·have := Int.mul_neg_of_neg_of_pos hx hy; generalize x * y = p at *; omega
 ·subst hx; simp
 ·subst hx; simp
 ·subst hx; simp
 ·have := Int.mul_neg_of_pos_of_neg hx hy; generalize x * y = p at *; omega
 ·subst hy; simp
 ·have := Int.mul_pos hx hy; generalize x * y = p at *; omega
theorem mul_dig (x y : Int) : (dval (dig x.natAbs) * dval (dig y.natAbs)).toNat = (x * y).natAbs := by
 rw [dval_dg, dval_dg, Int.natAbs_mul]
 omega
end Go.Proofs.YtcjflafjmdfanaaGreatDoor
/- What plus and minus of package substationref01 return. -/
namespace Go.Proofs.YtcjflafjmdfanaaGreatDoor
open Go.RowKit Go.Sub
end Go.Proofs.YtcjflafjmdfanaaGreatDoor
/- What Norm, Conj and Sub of package surd, some functions of its reference, and two helpers of its laws return. -/
namespace Go.Sub
def snormR (x : Su) : Int × Int := if wi2 268435456 x.a x.b then (x.norm, 0) else (0, 1)
def sconjR (x : Su) : R2 := if wi2 1152921504606846976 x.a x.b then ⟨x.conj, 0⟩ else ⟨zeroS, 1⟩
def smallS (x : Su) : Su := ⟨x.a.tmod 1048576, x.b.tmod 1048576⟩
def modN (n m : Int) : Int := n % m
end Go.Sub
namespace Go.Proofs.YtcjflafjmdfanaaGreatDoor
open Go.RowKit Go.Sub

end Go.Proofs.YtcjflafjmdfanaaGreatDoor
/- What product, sign, Sign and Compare of package substationref02 return. -/
namespace Go.Sub
theorem Sm.sq {x y : Int} (h0 : -1267650600228229401496703205376 ≤ x) (h1 : x ≤ 1267650600228229401496703205376) (k0 : -1267650600228229401496703205376 ≤ y) (k1 : y ≤ 1267650600228229401496703205376) : Sm (x * y) := by
 have := bd_mul h0 h1 k0 k1
 exact Sm.of (by omega) (by omega)
theorem Sm.sq3 {x : Int} (h0 : -1267650600228229401496703205376 ≤ x) (h1 : x ≤ 1267650600228229401496703205376) : Sm (3 * (x * x)) := by
 have := bd_mul h0 h1 h0 h1
 exact Sm.of (by omega) (by omega)
theorem Sm.b100 {x : Int} (h0 : -1267650600228229401496703205376 ≤ x) (h1 : x ≤ 1267650600228229401496703205376) : Sm x := Sm.of (by omega) (by omega)
theorem ref_sgn (x y : Int) : (sgn x = 0 → sgnS ⟨x, y⟩ = sgn y) ∧ (sgn y = 0 → sgnS ⟨x, y⟩ = sgn x) ∧ (sgn x = sgn y → sgnS ⟨x, y⟩ = sgn x) := by
 unfold sgnS
 dsimp only
 refine ⟨fun h => ?_, fun h => ?_, fun h => ?_⟩
 ·rw [h]
  by_cases h2 : 0 = sgn y ∨ sgn y = 0
  ·rw [if_pos h2]; omega
  ·rw [if_neg h2, if_pos rfl]
 ·rw [if_pos (.inr h)]
 ·rw [if_pos (.inl h)]
end Go.Sub
namespace Go.Proofs.YtcjflafjmdfanaaGreatDoor
open Go.RowKit Go.Sub
theorem sgn_val (x : Int) : (x < 0 ∧ sgn x = -1) ∨ (x = 0 ∧ sgn x = 0) ∨ (0 < x ∧ sgn x = 1) := by
 unfold sgn
 split
 ·exact .inl ⟨by assumption, rfl⟩
 ·split
  ·exact .inr (.inr ⟨by assumption, rfl⟩)
  ·exact .inr (.inl ⟨by omega, rfl⟩)
end Go.Proofs.YtcjflafjmdfanaaGreatDoor
/- What Small of package substationref01, and scaled and Scale of substationref02 return. -/
namespace Go.Sub
/-- The int that a number is, and whether it fits. -/
def smallR (z : Int) : Int × Bool := if -9223372036854775808 ≤ z ∧ z ≤ 9223372036854775807 then (z, true) else (0, false)
/-- n * k, or Limit + 1. -/
def scaledR (l n k : Int) : Int := if -l ≤ n * k ∧ n * k ≤ l then n * k else l + 1
end Go.Sub
namespace Go.Proofs.YtcjflafjmdfanaaGreatDoor
open Go.RowKit Go.Sub
/-- The digits from k on, as one number. -/
def highD (l : List Int) (k : Nat) : Int := dval (l.drop k)
end Go.Proofs.YtcjflafjmdfanaaGreatDoor
/- What Neg, Add and Sub of package substationref01, and combined and Versus of substationref02 return. -/
namespace Go
theorem World.alloc_jk (W : World) (k : Jk) (o : Obj) : (W.jk k).alloc o = W.jk ⟨k.os.push o, k.n⟩ := by
 unfold World.jk World.alloc
 congr 1
 simp
end Go
namespace Go.Sub
theorem ne_nil_iff {n : Nat} : dig n ≠ [] ↔ n ≠ 0 := by rw [Ne, dig_nil]
/-- What Versus returns. -/
def versR (x : Su) (j : Int) (y : Su) (k : Int) : Int × Int := if wi4 1152921504606846976 x.a x.b y.a y.b && wi2 1073741824 j k then (versS x j y k, 0) else (0, 1)
end Go.Sub
namespace Go.Proofs.YtcjflafjmdfanaaGreatDoor
open Go.RowKit Go.Sub
end Go.Proofs.YtcjflafjmdfanaaGreatDoor
/- What Versus of package substationref02 returns. -/
namespace Go.Proofs.YtcjflafjmdfanaaGreatDoor
open Go.RowKit Go.Sub
end Go.Proofs.YtcjflafjmdfanaaGreatDoor
/- What Above and Distorted of package phasor and of its reference return for any argument. -/
namespace Go.Proofs.YtcjflafjmdfanaaGreatDoor
open Go.RowKit Go.Sub

/-- Whether a fundamental has at least a peak value, or an error. -/
def abvR (c : Cy) (p : Int) : Bool × Int := if wiB c 16777216 && decide (0 ≤ p) && decide (p ≤ 16383) then (aboveB c p, 0) else (false, 1)
theorem harm_norm {x : Nat → Int} (h : Int) (hx : WinOK x 16383) : (harm x h).In 400000 ∧ (harm x h).norm.In 1000000000000 := by
 have h1 := (harm_in h hx).mono (show 24 * 16383 ≤ (400000 : Int) by decide)
 exact ⟨h1, (norm_in h1).mono (by decide)⟩
def dstB (x : Nat → Int) (p : Int) : Bool := decide (0 < versS (harm x 2).norm 10000 (harm x 1).norm (p * p))
set_option maxHeartbeats 1000000 in
theorem phsize_c (h : Int) (b o c : Nat) (x : Nat → Int) (w : World) (hr : RootsOK w) (hw : Win w b o x) (hx : WinOK x 16383) :
  Calls Tryz.prog 106 #[.slice (some ⟨b, o, none⟩) 12 c, .int .i64 h] w fun e w' => e = .returned (.tuple #[.agg #[.int .i64 (harm x h).norm.a, .int .i64 (harm x h).norm.b], .int .i64 0]) ∧ Q w w' := by
 have hn := (harm_norm h hx).1
 have HW := Lib.hid hw
 have HX := Lib.hid hx
 clear hw hx
 go_enter Tryz.func106, Tryz.ntmps106
 go_wp2_with (first | (go_at_call 68; refine (phharm_c h _ _ _ x _ (by repeat' (first | with_reducible exact hr | refine RootsOK.alloc ?_ _ | refine RootsOK.jk ?_ _ | refine RootsOK.drew ?_)) (HW.out.q (by repeat' (first | exact Q.refl _ | refine Q.alloc ?_ _ | refine Q.jk ?_ _ | refine Q.drew ?_))) HX.out).mono ?_; rintro e w' ⟨rfl, kj, rfl⟩) | (go_at_call 103; refine (norm_c (harm x h) _ (hn.mono (by decide))).mono ?_; rintro e w' ⟨rfl, kj, rfl⟩))
 refine bodyPost_ret (v := .tuple #[.agg #[.int .i64 (harm x h).norm.a, .int .i64 (harm x h).norm.b], .int .i64 0]) (by simp [results, Tryz.results106, go_sem]) rfl ⟨rfl, ?_⟩
 repeat' (first | exact Q.refl _ | refine Q.alloc ?_ _ | refine Q.jk ?_ _ | refine Q.drew ?_)
set_option maxHeartbeats 2000000 in
theorem phdist_c (b o c : Nat) (x : Nat → Int) (p : Int) (w : World) (hr : RootsOK w) (hw : Win w b o x) (hx : WinOK x 16383) (p0 : 0 ≤ p) (p1 : p ≤ 100) :
  Calls Tryz.prog 70 #[.slice (some ⟨b, o, none⟩) 12 c, .int .i64 p] w fun e w' => e = .returned (.tuple #[.bool (dstB x p), .int .i64 0]) ∧ Q w w' := by
 obtain ⟨m2, n2⟩ := harm_norm 2 hx
 obtain ⟨m1, n1⟩ := harm_norm 1 hx
 have hp := bd_mul (show -100 ≤ p by omega) p1 (show -100 ≤ p by omega) p1
 have hpp : 0 ≤ p * p := Int.mul_nonneg p0 p0
 have hs : VsSmall (harm x 2).norm 10000 (harm x 1).norm (p * p) := VsSmall.of (l := 1000000000000) (m := 10000) n2 n1 (by decide) (by decide) (by omega) (by omega) (by decide)
 have h4 : wi4 1152921504606846976 (harm x 2).norm.a (harm x 2).norm.b (harm x 1).norm.a (harm x 1).norm.b = true := (wi4_iff _ _ _ _ _).2 (by unfold Su.In at n1 n2; omega)
 have h2 : wi2 1073741824 10000 (p * p) = true := (wi2_iff _ _ _).2 (by omega)
 have HW := Lib.hid hw
 have HX := Lib.hid hx
 have ck := chkE_ok hx
 have CK := Lib.hid (fun w' (hq : Q w w') => phcheck_any b o c x w' (HW.out.q hq))
 rw [ck] at CK
 have Z2 := Lib.hid (fun w' (hq : Q w w') => phsize_c 2 b o c x w' (hr.q hq) (HW.out.q hq) HX.out)
 have Z1 := Lib.hid (fun w' (hq : Q w w') => phsize_c 1 b o c x w' (hr.q hq) (HW.out.q hq) HX.out)
 have VS := Lib.hid (fun w => vers_c (harm x 2).norm 10000 (harm x 1).norm (p * p) w (n2.mono (by decide)) (n1.mono (by decide)) (by decide) (by decide) (by omega) (by omega) hs)
 obtain ⟨q1, q2⟩ := hp
 simp only [Int.reduceMul, Int.reduceNeg] at q1 q2
 unfold dstB
 obtain ⟨A, hA⟩ : ∃ A, A = (harm x 2).norm := ⟨_, rfl⟩
 obtain ⟨B, hB⟩ : ∃ B, B = (harm x 1).norm := ⟨_, rfl⟩
 clear hw hx ck hs h4 h2
 go_enter Tryz.func70, Tryz.ntmps70
 go_wp2_with (first | (go_at_call 33; refine (CK.out _ (by repeat' (first | exact Q.refl _ | refine Q.alloc ?_ _ | refine Q.jk ?_ _ | refine Q.drew ?_))).mono ?_; rintro e w' ⟨rfl, rfl⟩) | (go_at_call 106; first | ((with_reducible refine (Z2.out _ (by repeat' (first | exact Q.refl _ | refine Q.alloc ?_ _ | refine Q.jk ?_ _ | refine Q.drew ?_))).mono ?_); rintro e w' ⟨rfl, kj, rfl⟩) | ((with_reducible refine (Z1.out _ (by repeat' (first | exact Q.refl _ | refine Q.alloc ?_ _ | refine Q.jk ?_ _ | refine Q.drew ?_))).mono ?_); rintro e w' ⟨rfl, kj, rfl⟩)) | (go_at_call 105; (with_reducible refine (VS.out _).mono ?_); rintro e w' ⟨rfl, kj, rfl⟩))
 go_ret2
 refine ⟨rfl, ?_⟩
 repeat' (first | exact Q.refl _ | refine Q.alloc ?_ _ | refine Q.jk ?_ _ | refine Q.drew ?_)
end Go.Proofs.YtcjflafjmdfanaaGreatDoor
/- The settings of a bus relay, the samples of its bays, and what window, usable and complete of package busbar return. -/
set_option linter.unusedVariables false
set_option linter.unusedSimpArgs false
namespace Go
open Go.RowKit
/-- The cells of a block, as a function says. -/
def arrF (F : Nat → Value) (N : Nat) : Array Value := ((List.range N).map F).toArray
theorem arrF_size (F : Nat → Value) (N : Nat) : (arrF F N).size = N := by simp [arrF]
theorem arrF_get (F : Nat → Value) {N i : Nat} (h : i < N) : (arrF F N)[i]? = some (F i) := by
 simp [arrF, List.getElem?_map, List.getElem?_range h]
theorem arrF_congr {F G : Nat → Value} {N : Nat} (h : ∀ j, j < N → F j = G j) : arrF F N = arrF G N := by
 unfold arrF
 congr 1
 exact List.map_congr_left fun j hj => h j (List.mem_range.1 hj)
/-- One cell is another. -/
def updF (F : Nat → Value) (i : Nat) (v : Value) : Nat → Value := fun j => if j = i then v else F j
theorem updF_same (F : Nat → Value) (i : Nat) (v : Value) : updF F i v i = v := if_pos rfl
theorem updF_other (F : Nat → Value) {i j : Nat} (v : Value) (h : j ≠ i) : updF F i v j = F j := if_neg h
theorem arrF_set (F : Nat → Value) (N i : Nat) (v : Value) : (arrF F N).setIfInBounds i v = arrF (updF F i v) N := by
 apply Array.ext_getElem?
 intro j
 rw [Array.getElem?_setIfInBounds, arrF_size]
 by_cases hj : j < N
 ·rw [arrF_get _ hj, arrF_get _ hj]
  by_cases e : i = j
  ·subst e
   rw [if_pos rfl, if_pos hj, updF_same]
  ·rw [if_neg e, updF_other _ _ (Ne.symm e)]
 ·have h1 : (arrF F N)[j]? = none := Array.getElem?_eq_none (by rw [arrF_size]; omega)
  have h2 : (arrF (updF F i v) N)[j]? = none := Array.getElem?_eq_none (by rw [arrF_size]; omega)
  rw [h1, h2]
  by_cases e : i = j
  ·rw [if_pos e, if_neg (by omega)]
  ·rw [if_neg e]
theorem madeCells_arrF (z : Array Value) (n : Nat) : madeCells z n = arrF (fun j => z[j % z.size]!) n := by
 apply Array.ext'
 simp [madeCells, arrF, Array.toList_map, Array.toList_range]
end Go
namespace Go.Sub
open Go
/-- The window of a phase of a bay. -/
def wvF (W : List Int) (k ph : Nat) (j : Nat) : Int := W.getD (k * 72 + ph * 12 + j) 0
/-- The settings of a bus relay. -/
structure Rel where
 kd : Int
 dm : Int
 nu : Int
 de : Int
 hm : Int
/-- The settings may be used. -/
def usB (r : Rel) : Bool := if r.dm = 0 then decide (r.nu = 0) && decide (r.de = 0) && decide (r.hm = 0) else decide (0 < r.dm) && decide (r.dm ≤ 16383) && decide (1 ≤ r.de) && decide (r.de ≤ 100) && decide (0 ≤ r.nu) && decide (r.nu ≤ r.de) && decide (0 ≤ r.hm) && decide (r.hm ≤ 100)
/-- All members have good samples. -/
def cpB (G : List Bool) (ml : List (Int × Int)) : Bool := ml.all fun m => G.getD m.1.toNat false
end Go.Sub
namespace Go.Proofs.YtcjflafjmdfanaaGreatDoor
open Go.RowKit Go.Sub
attribute [local go_sem ↓] Go.wp_at_zero Go.wp_at_succ
@[go_sem ↓ high] theorem lvRelay (a : Addr) : loadVar 44 a = bigLoad 44 a := rfl
/-- The cells of a relay's settings. -/
class RelC (cs : Array Value) (r : outParam Rel) : Prop where
 size : cs.size = 53
 kd : cs[1]? = some (.int .i64 r.kd)
 dm : cs[45]? = some (.int .i64 r.dm)
 nu : cs[46]? = some (.int .i64 r.nu)
 de : cs[47]? = some (.int .i64 r.de)
 hm : cs[48]? = some (.int .i64 r.hm)
theorem infoRelay : (Tryz.prog.info? 44).map (·.size) = some 53 := by kernel_rfl
@[go_sem ↓ high] theorem rlRelay {w : World} {n : Nat} {cs : Array Value} {r : Rel} {t : TypeId} {fr : Nat × Nat} [h : Blk w n (.cells cs t fr)] [hs : RelC cs r] :
  (bigLoad 44 ⟨n, 0, none⟩).run Tryz.prog w = .ok (.agg cs) w := run_bigLoad Tryz.underlying44 rfl (by rw [hs.size]; exact infoRelay)
/-- The samples of the bays lie in memory. -/
def WvAt (w : World) (A : Option Addr) (n c : Nat) (W : List Int) : Prop := RdV w A n c 72 (W.map (Value.int .i64)) ∧ (n : Int) ≤ 9223372036854775807
theorem WvAt.q {w w' : World} {A : Option Addr} {n c : Nat} {W : List Int} (h : WvAt w A n c W) (hq : Q w w') : WvAt w' A n c W := ⟨h.1.q hq, h.2⟩
theorem WvAt.at_ {w : World} {A : Option Addr} {n c : Nat} {W : List Int} (h : WvAt w A n c W) (hn : 0 < n) : ∃ g o, A = some ⟨g, o, none⟩ ∧ Old g w ∧ Hid (∀ k ph, k < n → ph < 6 → Win w g (o + k * 72 + ph * 12) (wvF W k ph)) := by
 obtain ⟨g, o, e, ho, hc⟩ := h.1.at_ hn
 refine ⟨g, o, e, ho, Lib.hid fun k ph hk hp j hj => ?_⟩
 have hl : W.length = n * 72 := by have := h.1.1; rwa [List.length_map] at this
 have hi : k * 72 + ph * 12 + j < W.length := by rw [hl]; omega
 have := hc.out (k * 72 + ph * 12 + j) (.int .i64 (wvF W k ph j)) (by
  rw [List.getElem?_map, List.getElem?_eq_getElem hi]
  unfold wvF
  rw [List.getD_eq_getElem?_getD, List.getElem?_eq_getElem hi]
  rfl)
 rw [← this]
 congr 2
 omega
/-- The goodness of the bays. -/
def GdAt (w : World) (A : Option Addr) (n c : Nat) (G : List Bool) : Prop := RdV w A n c 1 (G.map Value.bool) ∧ (n : Int) ≤ 9223372036854775807
theorem GdAt.q {w w' : World} {A : Option Addr} {n c : Nat} {G : List Bool} (h : GdAt w A n c G) (hq : Q w w') : GdAt w' A n c G := ⟨h.1.q hq, h.2⟩
theorem GdAt.len {w : World} {A : Option Addr} {n c : Nat} {G : List Bool} (h : GdAt w A n c G) : G.length = n := by have := h.1.1; rw [List.length_map] at this; omega
theorem GdAt.at_ {w : World} {A : Option Addr} {n c : Nat} {G : List Bool} (h : GdAt w A n c G) (hn : 0 < n) : ∃ g o, A = some ⟨g, o, none⟩ ∧ Old g w ∧ Hid (∀ k, k < n → w.cell? ⟨g, o + k, none⟩ = some (.bool (G.getD k false))) := by
 obtain ⟨g, o, e, ho, hc⟩ := h.1.at_ hn
 refine ⟨g, o, e, ho, Lib.hid fun k hk => hc.out k _ ?_⟩
 have hi : k < G.length := by rw [h.len]; exact hk
 rw [List.getElem?_map, List.getElem?_eq_getElem hi, List.getD_eq_getElem?_getD, List.getElem?_eq_getElem hi]
 rfl
/-- Members, read. -/
theorem mem_at {w : World} {A : Option Addr} {n c : Nat} {ml : List (Int × Int)} (h : RdV w A n c 2 (ml.flatMap mmC)) (hn : 0 < n) : ∃ g o, A = some ⟨g, o, none⟩ ∧ Old g w ∧ Hid (∀ k m, ml[k]? = some m → w.cell? ⟨g, o + k * 2, none⟩ = some (.int .i64 m.1) ∧ w.cell? ⟨g, o + k * 2 + 1, none⟩ = some (.int .i64 m.2)) := by
 obtain ⟨g, o, e, ho, hc⟩ := h.at_ hn
 refine ⟨g, o, e, ho, Lib.hid fun k m hm => ⟨?_, ?_⟩⟩
 ·exact hc.out (k * 2) _ (by rw [show k * 2 = k * 2 + 0 from rfl, mmC_get ml k 0 m hm (by decide)]; rfl)
 ·rw [Nat.add_assoc]
  exact hc.out (k * 2 + 1) _ (by rw [mmC_get ml k 1 m hm (by decide)]; rfl)
theorem mem_len {w : World} {A : Option Addr} {n c : Nat} {ml : List (Int × Int)} (h : RdV w A n c 2 (ml.flatMap mmC)) : ml.length = n := by have := h.1; rw [mmC_len] at this; omega
set_option maxRecDepth 100000 in
set_option maxHeartbeats 4000000 in
theorem window_c (g o n c k ph : Nat) (w : World) (hk : k < n) (hp : ph < 3) :
  Calls Tryz.prog 34 #[.slice (some ⟨g, o, none⟩) n c, .int .i64 k, .int .i64 ph] w fun e w' => e = .returned (.slice (some ⟨g, o + k * 72 + ph * 12, none⟩) 12 12) ∧ Q w w' := by
 have k0 : (0 : Int) ≤ (k : Int) := by omega
 have k1 : (k : Int) < (n : Int) := by omega
 have p0 : (0 : Int) ≤ (ph : Int) := by omega
 have p1 : (ph : Int) < 3 := by omega
 clear hk hp
 go_enter Tryz.func34, Tryz.ntmps34
 go_wp2_with fail
 go_ret
 refine ⟨?_, (by repeat' (first | exact Q.refl _ | refine Q.alloc ?_ _ | refine Q.jk ?_ _ | refine Q.drew ?_))⟩
 rfl
set_option maxRecDepth 100000 in
set_option maxHeartbeats 8000000 in
theorem usable_c (cs : Array Value) (r : Rel) [hR : RelC cs r] (w : World) :
  Calls Tryz.prog 32 #[.agg cs] w fun e w' => e = .returned (.bool (usB r)) ∧ Q w w' := by
 have h1 := hR.dm
 have h2 := hR.nu
 have h3 := hR.de
 have h4 := hR.hm
 unfold usB
 generalize r.dm = dm at *
 generalize r.nu = nu at *
 generalize r.de = de at *
 generalize r.hm = hm at *
 clear hR
 go_enter Tryz.func32, Tryz.ntmps32
 go_wp2_with fail
 all_goals
  go_ret
  refine ⟨?_, (by repeat' (first | exact Q.refl _ | refine Q.alloc ?_ _ | refine Q.jk ?_ _ | refine Q.drew ?_))⟩
  (simp_all) <;> (first | rfl | omega)
set_option maxRecDepth 100000 in
set_option maxHeartbeats 8000000 in
theorem complete_c (A : Option Addr) (n c : Nat) (ml : List (Int × Int)) (aG : Option Addr) (nG cG : Nat) (G : List Bool) (w : World) (hm : RdV w A n c 2 (ml.flatMap mmC)) (hG : GdAt w aG nG cG G) (hn : n < 1000) (hb : ∀ m ∈ ml, ∃ k : Nat, m.1 = (k : Int) ∧ k < nG) :
  Calls Tryz.prog 36 #[.slice A n c, .slice aG nG cG] w fun e w' => e = .returned (.bool (cpB G ml)) ∧ Q w w' := by
 have HL := Lib.hid (mem_len hm)
 have HM := Lib.hid hm
 have HG := Lib.hid hG
 have HB' := Lib.hid hb
 have HC : Hid (cpB G ml = ml.all fun m => G.getD m.1.toNat false) := Lib.hid rfl
 generalize cpB G ml = C at HC ⊢
 have n0 : (0 : Int) ≤ (n : Int) := by omega
 clear hm hG hb
 go_enter Tryz.func36, Tryz.ntmps36
 go_wp2_with fail
 go_loopw [9] (fun i wr => ∃ k : Nat, i = .int .i64 k ∧ k ≤ n ∧ Hid (∀ j m, j < k → ml[j]? = some m → G.getD m.1.toNat false = true) ∧ Q w wr) (fun i _ => n - (intOf i).toNat)
 case atStart => exact ⟨0, rfl, Nat.zero_le _, Lib.hid (fun j m hj => absurd hj (Nat.not_lt_zero _)), Q.refl _⟩
 case round =>
  obtain ⟨k, rfl, hk, HZ, kk, rfl⟩ := hrel
  by_cases hlt : k < n
  ·obtain ⟨m, hm⟩ : ∃ m, ml[k]? = some m := ⟨_, List.getElem?_eq_getElem (by rw [HL.out]; exact hlt)⟩
   obtain ⟨g, o, rfl, og, hc⟩ := mem_at HM.out (by omega)
   obtain ⟨a1, a2⟩ := hc.out k m hm
   obtain ⟨q, eq, hq⟩ := HB'.out m (List.mem_of_getElem? hm)
   obtain ⟨g2, o2, rfl, og2, hc2⟩ := HG.out.at_ (by omega)
   have a3 := hc2.out q hq
   rw [eq] at a1
   have EM : Hid (m.1.toNat = q) := Lib.hid (by rw [eq]; exact Int.toNat_natCast q)
   have EMK := Lib.hid hm
   have k0 : (0 : Int) ≤ (k : Int) := by omega
   have k1 : (k : Int) < (n : Int) := by omega
   have q0 : (0 : Int) ≤ (q : Int) := by omega
   have q1 : (q : Int) < (nG : Int) := by omega
   obtain ⟨b, eb⟩ : ∃ b, G.getD q false = b := ⟨_, rfl⟩
   rw [eb] at a3
   have EB := Lib.hid eb
   clear hc hc2 hm eq eb
   cases b with
   | false =>
    have EC : Hid (C = false) := Lib.hid (by
     rw [HC.out, List.all_eq_false]
     exact ⟨m, List.mem_of_getElem? EMK.out, by rw [EM.out, EB.out]; decide⟩)
    go_wp2_with fail
    go_ret
    exact ⟨by rw [EC.out]; rfl, (by repeat' (first | exact Q.refl _ | refine Q.alloc ?_ _ | refine Q.jk ?_ _ | refine Q.drew ?_))⟩
   | true =>
    go_wp2_with fail
    go_roundw
    case rel =>
     refine ⟨k + 1, by go_num, by omega, Lib.hid (fun j m' hj hm' => ?_), (by repeat' (first | exact Q.refl _ | refine Q.alloc ?_ _ | refine Q.jk ?_ _ | refine Q.drew ?_))⟩
     by_cases e : j = k
     ·subst e
      rw [EMK.out] at hm'
      obtain rfl := Option.some.inj hm'
      rw [EM.out, EB.out]
     ·exact HZ.out j m' (by omega) hm'
    case measure => simp [intOf] <;> omega
  ·obtain rfl : n = k := by omega
   have EC : Hid (C = true) := Lib.hid (by
    rw [HC.out, List.all_eq_true]
    intro m hm
    obtain ⟨j, hj⟩ := List.getElem?_of_mem hm
    exact HZ.out j m (by rw [← HL.out]; exact (List.getElem?_eq_some_iff.1 hj).1) hj)
   go_wp2_with fail
   go_ret
   exact ⟨by rw [EC.out]; rfl, (by repeat' (first | exact Q.refl _ | refine Q.alloc ?_ _ | refine Q.jk ?_ _ | refine Q.drew ?_))⟩
end Go.Proofs.YtcjflafjmdfanaaGreatDoor
/- What check of package busbar returns. -/
set_option linter.unusedVariables false
set_option linter.unusedSimpArgs false
namespace Go.Sub
open Go
/-- The error of the windows of a bay. -/
def phE (W : List Int) (G : List Bool) (k : Nat) : Int := if G.getD k false = true then fstE (fun ph => chkE (wvF W k ph)) 3 else 0
/-- The error of the settings, of the numbers of elements, or of a window. -/
def ckE (r : Rel) (W : List Int) (G : List Bool) (nY nW nG : Nat) (nF : Int) : Int :=
 if r.kd = 4 then (if usB r = true then (if nW = nY ∧ nG = nY ∧ nF = (nY : Int) then fstE (phE W G) nW else 3) else 2) else 10
end Go.Sub
namespace Go.Proofs.YtcjflafjmdfanaaGreatDoor
open Go.RowKit Go.Sub
attribute [local go_sem ↓] Go.wp_at_zero Go.wp_at_succ
set_option maxRecDepth 100000 in
set_option maxHeartbeats 8000000 in
theorem check_c (s : Sta) (cs : Array Value) (r : Rel) [hR : RelC cs r] (aW : Option Addr) (nW cW : Nat) (W : List Int) (aG : Option Addr) (nG cG : Nat) (G : List Bool) (nF : Int) (w : World) (hW : WvAt w aW nW cW W) (hG : GdAt w aG nG cG G) (h1000 : s.bays.length < 1000) :
  Calls Tryz.prog 19 #[.agg #[Value.string s.nm, Value.slice s.aB s.buses.length s.cB, Value.slice s.aL s.lines.length s.cL, Value.slice s.aS s.srcs.length s.cS, Value.slice s.aY s.bays.length s.cY], .agg cs, .slice aW nW cW, .slice aG nG cG, .int .i64 nF] w fun e w' => e = .returned (.int .i64 (ckE r W G s.bays.length nW nG nF)) ∧ Q w w' := by
 have c1 := hR.kd
 have US := Lib.hid fun w => usable_c cs r w
 obtain ⟨nY, eY⟩ : ∃ n, s.bays.length = n := ⟨_, rfl⟩
 rw [eY] at h1000 ⊢
 have HW := Lib.hid hW
 have HG := Lib.hid hG
 have HC : Hid (ckE r W G nY nW nG nF = if r.kd = 4 then (if usB r = true then (if nW = nY ∧ nG = nY ∧ nF = (nY : Int) then fstE (phE W G) nW else 3) else 2) else 10) := Lib.hid rfl
 generalize ckE r W G nY nW nG nF = C at HC ⊢
 generalize usB r = u at US HC
 clear hW hG eY
 by_cases h4 : r.kd = 4
 ·have e4 : (r.kd != 4) = false := by simpa using h4
  have HC1 := Lib.hid (HC.out.trans (if_pos h4))
  clear HC h4
  generalize r.kd = kd at c1 e4
  cases u with
  | false =>
   have HC2 := Lib.hid (HC1.out.trans (if_neg (by decide)))
   clear HC1
   go_enter Tryz.func19, Tryz.ntmps19
   go_wp2_with (first
  | (go_at_call 32; (with_reducible refine (US.out _).mono ?_); rintro e w' ⟨rfl, ku, rfl⟩)
  | fail)
   go_ret
   exact ⟨by rw [HC2.out]; rfl, (by repeat' (first | exact Q.refl _ | refine Q.alloc ?_ _ | refine Q.jk ?_ _ | refine Q.drew ?_))⟩
  | true =>
   have HC2 := Lib.hid (HC1.out.trans (if_pos rfl))
   clear HC1
   by_cases i1 : nW = nY
   ·by_cases i2 : nG = nY
    ·by_cases i3 : nF = (nY : Int)
     ·have HC3 := Lib.hid (HC2.out.trans (if_pos ⟨i1, i2, i3⟩))
      clear HC2
      subst i1 i2 i3
      have n0 : (0 : Int) ≤ (nG : Int) := by omega
      go_enter Tryz.func19, Tryz.ntmps19
      go_wp2_with (first
  | (go_at_call 32; (with_reducible refine (US.out _).mono ?_); rintro e w' ⟨rfl, ku, rfl⟩)
  | fail)
      go_loopw [43] (fun i wr => ∃ k : Nat, i = .int .i64 k ∧ k ≤ nG ∧ Hid (∀ j, j < k → phE W G j = 0) ∧ Q ((w.alloc (Obj.cells #[Value.string s.nm, Value.slice s.aB s.buses.length s.cB, Value.slice s.aL s.lines.length s.cL, Value.slice s.aS s.srcs.length s.cS, Value.slice s.aY nG s.cY] 27)).alloc (Obj.cells cs 44)) wr) (fun i _ => nG - (intOf i).toNat)
      case atStart => exact ⟨0, rfl, Nat.zero_le _, Lib.hid (fun j hj => absurd hj (Nat.not_lt_zero _)), (by repeat' (first | exact Q.refl _ | refine Q.alloc ?_ _ | refine Q.jk ?_ _ | refine Q.drew ?_))⟩
      case round =>
       obtain ⟨k, rfl, hk, HZ, kk, rfl⟩ := hrel
       by_cases hlt : k < nG
       ·obtain ⟨g, o, rfl, og, hc⟩ := HW.out.at_ (by omega)
        obtain ⟨g2, o2, rfl, og2, hc2⟩ := HG.out.at_ (by omega)
        have a1 := hc2.out k hlt
        have EP : Hid (phE W G k = if G.getD k false = true then fstE (fun ph => chkE (wvF W k ph)) 3 else 0) := Lib.hid rfl
        have k0 : (0 : Int) ≤ (k : Int) := by omega
        have k1 : (k : Int) < (nG : Int) := by omega
        generalize G.getD k false = b at a1 EP
        clear hc2
        cases b with
        | false =>
         go_wp2_with fail
         go_roundw
         case rel =>
          refine ⟨k + 1, by go_num, by omega, Lib.hid (fun i hi => ?_), (by repeat' (first | exact Q.refl _ | refine Q.alloc ?_ _ | refine Q.jk ?_ _ | refine Q.drew ?_))⟩
          by_cases e : i = k
          ·subst e; exact EP.out
          ·exact HZ.out i (by omega)
         case measure => simp [intOf] <;> omega
        | true =>
         have EP1 := Lib.hid (EP.out.trans (if_pos rfl))
         clear EP
         go_wp2_with fail
         go_loopw [51] (fun i wr => ∃ ph : Nat, i = .int .i64 ph ∧ ph ≤ 3 ∧ Hid (∀ j, j < ph → chkE (wvF W k j) = 0) ∧ Q ((w.alloc (Obj.cells #[Value.string s.nm, Value.slice s.aB s.buses.length s.cB, Value.slice s.aL s.lines.length s.cL, Value.slice s.aS s.srcs.length s.cS, Value.slice s.aY nG s.cY] 27)).alloc (Obj.cells cs 44)) wr) (fun i _ => 3 - (intOf i).toNat)
         case atStart => exact ⟨0, rfl, Nat.zero_le _, Lib.hid (fun j hj => absurd hj (Nat.not_lt_zero _)), (by repeat' (first | exact Q.refl _ | refine Q.alloc ?_ _ | refine Q.jk ?_ _ | refine Q.drew ?_))⟩
         case round =>
          obtain ⟨ph, rfl, hph, HJ, k2, rfl⟩ := hrel
          by_cases hlp : ph < 3
          ·have HWN := Lib.hid (hc.out k ph hlt (by omega))
           have p0 : (0 : Int) ≤ (ph : Int) := by omega
           have p1 : (ph : Int) < 3 := by omega
           obtain ⟨E, eE⟩ : ∃ E, chkE (wvF W k ph) = E := ⟨_, rfl⟩
           have EE := Lib.hid eE
           have PH := Lib.hid fun w' hq => phcheck_any g (o + k * 72 + ph * 12) 12 (wvF W k ph) w' (HWN.out.q hq)
           rw [eE] at PH
           have WC := Lib.hid fun w' => window_c g o nG cW k ph w' hlt hlp
           clear eE HWN
           by_cases hE : E = 0
           ·have hE' : (E != 0) = false := by simpa using hE
            go_wp2_with (first
             | (go_at_call 34; (with_reducible refine (WC.out _).mono ?_); rintro e w' ⟨rfl, kv, rfl⟩)
             | (go_at_call 33; (with_reducible refine (PH.out _ (by repeat' (first | exact Q.refl _ | refine Q.alloc ?_ _ | refine Q.jk ?_ _ | refine Q.drew ?_))).mono ?_); rintro e w' ⟨rfl, rfl⟩)
             | fail)
            go_roundw
            case rel =>
             refine ⟨ph + 1, by go_num, by omega, Lib.hid (fun i hi => ?_), (by repeat' (first | exact Q.refl _ | refine Q.alloc ?_ _ | refine Q.jk ?_ _ | refine Q.drew ?_))⟩
             by_cases e : i = ph
             ·subst e; rw [EE.out]; exact hE
             ·exact HJ.out i (by omega)
            case measure => simp [intOf] <;> omega
           ·have hE' : (E != 0) = true := by simpa using hE
            have EC : Hid (C = E) := Lib.hid (by
             have h1 : fstE (fun ph => chkE (wvF W k ph)) 3 = E := (fstE_hit HJ.out (by rw [EE.out]; exact hE) hlp).trans EE.out
             rw [HC3.out, fstE_hit HZ.out (by rw [EP1.out, h1]; exact hE) hlt, EP1.out, h1])
            go_wp2_with (first
             | (go_at_call 34; (with_reducible refine (WC.out _).mono ?_); rintro e w' ⟨rfl, kv, rfl⟩)
             | (go_at_call 33; (with_reducible refine (PH.out _ (by repeat' (first | exact Q.refl _ | refine Q.alloc ?_ _ | refine Q.jk ?_ _ | refine Q.drew ?_))).mono ?_); rintro e w' ⟨rfl, rfl⟩)
             | fail)
            go_ret
            exact ⟨by rw [EC.out]; rfl, (by repeat' (first | exact Q.refl _ | refine Q.alloc ?_ _ | refine Q.jk ?_ _ | refine Q.drew ?_))⟩
          ·obtain rfl : ph = 3 := by omega
           have EK : Hid (phE W G k = 0) := Lib.hid (by rw [EP1.out]; exact fstE_none HJ.out)
           clear HJ EP1
           go_wp2_with fail
           go_roundw
           case rel =>
            refine ⟨k + 1, by go_num, by omega, Lib.hid (fun i hi => ?_), (by repeat' (first | exact Q.refl _ | refine Q.alloc ?_ _ | refine Q.jk ?_ _ | refine Q.drew ?_))⟩
            by_cases e : i = k
            ·subst e; exact EK.out
            ·exact HZ.out i (by omega)
           case measure => simp [intOf] <;> omega
       ·obtain rfl : nG = k := by omega
        have EC : Hid (C = 0) := Lib.hid (by rw [HC3.out]; exact fstE_none HZ.out)
        go_wp2_with fail
        go_ret
        exact ⟨by rw [EC.out]; rfl, (by repeat' (first | exact Q.refl _ | refine Q.alloc ?_ _ | refine Q.jk ?_ _ | refine Q.drew ?_))⟩
     ·have HC3 := Lib.hid (HC2.out.trans (if_neg fun h => i3 h.2.2))
      clear HC2
      subst i1 i2
      have j3 : (nF != (nG : Int)) = true := by simpa using i3
      clear i3
      go_enter Tryz.func19, Tryz.ntmps19
      go_wp2_with (first
  | (go_at_call 32; (with_reducible refine (US.out _).mono ?_); rintro e w' ⟨rfl, ku, rfl⟩)
  | fail)
      go_ret
      exact ⟨by rw [HC3.out]; rfl, (by repeat' (first | exact Q.refl _ | refine Q.alloc ?_ _ | refine Q.jk ?_ _ | refine Q.drew ?_))⟩
    ·have HC3 := Lib.hid (HC2.out.trans (if_neg fun h => i2 h.2.1))
     clear HC2
     subst i1
     have j2 : ((nG : Int) != (nW : Int)) = true := by simpa using (by omega : ¬ (nG : Int) = (nW : Int))
     clear i2
     go_enter Tryz.func19, Tryz.ntmps19
     go_wp2_with (first
  | (go_at_call 32; (with_reducible refine (US.out _).mono ?_); rintro e w' ⟨rfl, ku, rfl⟩)
  | fail)
     go_ret
     exact ⟨by rw [HC3.out]; rfl, (by repeat' (first | exact Q.refl _ | refine Q.alloc ?_ _ | refine Q.jk ?_ _ | refine Q.drew ?_))⟩
   ·have HC3 := Lib.hid (HC2.out.trans (if_neg fun h => i1 h.1))
    clear HC2
    have j1 : ((nW : Int) != (nY : Int)) = true := by simpa using (by omega : ¬ (nW : Int) = (nY : Int))
    clear i1
    go_enter Tryz.func19, Tryz.ntmps19
    go_wp2_with (first
  | (go_at_call 32; (with_reducible refine (US.out _).mono ?_); rintro e w' ⟨rfl, ku, rfl⟩)
  | fail)
    go_ret
    exact ⟨by rw [HC3.out]; rfl, (by repeat' (first | exact Q.refl _ | refine Q.alloc ?_ _ | refine Q.jk ?_ _ | refine Q.drew ?_))⟩
 ·have e4 : (r.kd != 4) = true := by simpa using h4
  have HC1 := Lib.hid (HC.out.trans (if_neg h4))
  clear HC h4
  generalize r.kd = kd at c1 e4
  go_enter Tryz.func19, Tryz.ntmps19
  go_wp2_with fail
  go_ret
  exact ⟨by rw [HC1.out]; rfl, (by repeat' (first | exact Q.refl _ | refine Q.alloc ?_ _ | refine Q.jk ?_ _ | refine Q.drew ?_))⟩
end Go.Proofs.YtcjflafjmdfanaaGreatDoor
/- Scale of package cyclo where the products fit. -/
namespace Go.Sub
def Cy.sc (x : Cy) (k : Int) : Cy := ⟨x.a * k, x.b * k, x.c * k, x.d * k⟩
theorem sc_in {x : Cy} {k l m : Int} (hx : x.In l) (h1 : -m ≤ k) (h2 : k ≤ m) : (x.sc k).In (l * m) := by
 obtain ⟨x1, x2, x3, x4, x5, x6, x7, x8⟩ := hx
 have a := bd_mul x1 x2 h1 h2
 have b := bd_mul x3 x4 h1 h2
 have c := bd_mul x5 x6 h1 h2
 have d := bd_mul x7 x8 h1 h2
 exact ⟨a.1, a.2, b.1, b.2, c.1, c.2, d.1, d.2⟩
theorem scaleR_fit {x : Cy} {k l m : Int} (hx : x.In l) (h1 : -m ≤ k) (h2 : k ≤ m) (hl : l ≤ 576460752303423488) (hm : m ≤ 576460752303423488) (hlm : l * m ≤ 576460752303423488) : scaleR x k = ⟨x.sc k, 0⟩ := by
 have h := sc_in hx h1 h2
 have e1 := wiB_of (hx.mono hl)
 have e2 := wiB_of (h.mono hlm)
 have e3 : brkB 576460752303423488 k = false := by simp [brkB]; omega
 unfold Cy.sc at e2
 simp [scaleR, limR, e1, e2, e3, Cy.sc]
end Go.Sub
namespace Go.Proofs.YtcjflafjmdfanaaGreatDoor
open Go.RowKit Go.Sub
theorem scale_fit (x : Cy) (k l m : Int) (w : World) (hx : x.In l) (h1 : -m ≤ k) (h2 : k ≤ m) (hl : l ≤ 576460752303423488) (hm : m ≤ 576460752303423488) (hlm : l * m ≤ 576460752303423488) :
  Calls Tryz.prog 99 #[.agg #[.int .i64 x.a, .int .i64 x.b, .int .i64 x.c, .int .i64 x.d], .int .i64 k] w fun e w' => e = .returned (.tuple #[.agg #[.int .i64 (x.sc k).a, .int .i64 (x.sc k).b, .int .i64 (x.sc k).c, .int .i64 (x.sc k).d], .int .i64 0]) ∧ Q w w' := by
 have h := scale_any x.a x.b x.c x.d k w
 rw [show scaleR ⟨x.a, x.b, x.c, x.d⟩ k = _ from scaleR_fit hx h1 h2 hl hm hlm] at h
 exact h
end Go.Proofs.YtcjflafjmdfanaaGreatDoor
namespace Go.Sub
/-- A current, the ratio of its transformer, and whether it is counted in reverse. -/
structure Cur where
 i : Cy
 r : Int
 v : Bool
def Cur.k (c : Cur) : Int := if c.v then -c.r else c.r
def Cur.wt (c : Cur) : Cy := c.i.sc c.k
def Cur.OK (c : Cur) : Prop := c.i.In 65536 ∧ 1 ≤ c.r ∧ c.r ≤ 100
def cz : Cy := ⟨0, 0, 0, 0⟩
def sz : Su := ⟨0, 0⟩
def sumW : List Cur → Cy
 | [] => cz
 | c :: l => c.wt.add (sumW l)
def resW : List Cur → Su
 | [] => sz
 | c :: l => c.wt.norm.add (resW l)
theorem cadd_assoc (x y z : Cy) : (x.add y).add z = x.add (y.add z) := by apply Cy.ext' <;> simp only [Cy.add] <;> omega
theorem cadd_comm (x y : Cy) : x.add y = y.add x := by apply Cy.ext' <;> simp only [Cy.add] <;> omega
theorem cadd_zero (x : Cy) : x.add cz = x := by apply Cy.ext' <;> simp only [Cy.add, cz] <;> omega
theorem czero_add (x : Cy) : cz.add x = x := by rw [cadd_comm, cadd_zero]
theorem sadd_assoc (x y z : Su) : (x.add y).add z = x.add (y.add z) := by apply Su.ext' <;> simp only [Su.add] <;> omega
theorem sadd_comm (x y : Su) : x.add y = y.add x := by apply Su.ext' <;> simp only [Su.add] <;> omega
theorem sadd_zero (x : Su) : x.add sz = x := by apply Su.ext' <;> simp only [Su.add, sz] <;> omega
theorem szero_add (x : Su) : sz.add x = x := by rw [sadd_comm, sadd_zero]
theorem sumW_append (l m : List Cur) : sumW (l ++ m) = (sumW l).add (sumW m) := by
 induction l with
 | nil => exact (czero_add _).symm
 | cons c l ih => rw [List.cons_append, sumW, sumW, ih, cadd_assoc]
theorem resW_append (l m : List Cur) : resW (l ++ m) = (resW l).add (resW m) := by
 induction l with
 | nil => exact (szero_add _).symm
 | cons c l ih => rw [List.cons_append, resW, resW, ih, sadd_assoc]
theorem sumW_take {l : List Cur} {k : Nat} (h : k < l.length) : sumW (l.take (k + 1)) = (sumW (l.take k)).add l[k].wt := by
 rw [List.take_add_one, List.getElem?_eq_getElem h, sumW_append]
 simp only [Option.toList, sumW, cadd_zero]
theorem resW_take {l : List Cur} {k : Nat} (h : k < l.length) : resW (l.take (k + 1)) = (resW (l.take k)).add l[k].wt.norm := by
 rw [List.take_add_one, List.getElem?_eq_getElem h, resW_append]
 simp only [Option.toList, resW, sadd_zero]
theorem Cur.OK.k_bd {c : Cur} (h : c.OK) : -100 ≤ c.k ∧ c.k ≤ 100 := by
 obtain ⟨_, h1, h2⟩ := h
 unfold Cur.k
 split <;> omega
theorem Cur.OK.wt_in {c : Cur} (h : c.OK) : c.wt.In 6553600 := (sc_in (l := 65536) (m := 100) h.1 h.k_bd.1 h.k_bd.2).mono (by decide)
theorem Cur.OK.norm_in {c : Cur} (h : c.OK) : c.wt.norm.In 300000000000000 := (Go.Sub.norm_in h.wt_in).mono (by decide)
theorem sumW_in {l : List Cur} (h : ∀ c ∈ l, c.OK) : (sumW l).In (l.length * 6553600) := by
 induction l with
 | nil => unfold sumW cz Cy.In; simp
 | cons c l ih =>
  have h1 := Cy.add_in (h c (by simp)).wt_in (ih fun c hc => h c (by simp [hc]))
  refine Cy.In.mono h1 ?_
  simp only [List.length_cons]
  omega
theorem su_add_in {x y : Su} {l m : Int} (hx : x.In l) (hy : y.In m) : (x.add y).In (l + m) := by
 unfold Su.In Su.add at *
 dsimp only
 omega
theorem resW_in {l : List Cur} (h : ∀ c ∈ l, c.OK) : (resW l).In (l.length * 300000000000000) := by
 induction l with
 | nil => unfold resW sz Su.In; simp
 | cons c l ih =>
  have h1 := su_add_in (h c (by simp)).norm_in (ih fun c hc => h c (by simp [hc]))
  refine Su.In.mono h1 ?_
  simp only [List.length_cons]
  omega
theorem sumW_bd {l : List Cur} (h : ∀ c ∈ l, c.OK) (hl : l.length ≤ 16) : (sumW l).In 105000000 := (sumW_in h).mono (by omega)
theorem resW_bd {l : List Cur} (h : ∀ c ∈ l, c.OK) (hl : l.length ≤ 16) : (resW l).In 5000000000000000 := (resW_in h).mono (by omega)
theorem ok_take {l : List Cur} (h : ∀ c ∈ l, c.OK) (k : Nat) : ∀ c ∈ l.take k, c.OK := fun c hc => h c (List.mem_of_mem_take hc)
end Go.Sub
