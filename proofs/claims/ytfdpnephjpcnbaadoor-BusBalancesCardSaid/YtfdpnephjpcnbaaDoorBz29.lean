
/- What Valid, made, digits, Of, result, Compare, Sign and Mul of package substationref01 return. -/
import Derived.Test.YtfdpnephjpcnbaaDoorBz28
import Derived.Laws.MakeOwn
import Derived.IntWalk
import Derived.Test.YtfdpnephjpcnbaaDoorBz11
import Derived.Deep.RegionHeld3
import Derived.Laws.Bits64
set_option linter.unusedSimpArgs false
set_option linter.unusedVariables false
/- What times of package substationref01 returns. -/
namespace Go.Sub
/-- The cells of digits. -/
def cellsU (o : List Int) : Array Value := (o.map (Value.int .u32)).toArray
theorem cellsU_at {o : List Int} {j : Nat} (h : j < o.length) : (cellsU o)[j]? = some (.int .u32 (o.getD j 0)) := by
  simp [cellsU, List.getD, h]
theorem cellsU_set (o : List Int) (j : Nat) (d : Int) : (cellsU o).setIfInBounds j (.int .u32 d) = cellsU (o.set j d) := by
  simp [cellsU, List.map_set]
theorem madeCells_u32 (n : Nat) : madeCells (Value.int .u32 0).cells n = cellsU (List.replicate n 0) := by
  unfold madeCells cellsU
  apply Array.ext
  · simp
  · intro i h1 h2
    have e : i % 1 = 0 := Nat.mod_one i
    simp [Value.cells, e]
end Go.Sub
namespace Go.Proofs.YtfdpnephjpcnbaaDoor
open Go.RowKit Go.Sub
theorem make_u32 (w : World) (k : Int) (n : Nat) (hk : k = n) (hn : n < 1000000) :
    (Instr.makeSlice 144 (.int .i64 k) (.int .i64 k)).run Tryd.prog w = .ok (.slice (some ⟨w.heap.size, 0, none⟩) n n) (w.alloc (.cells (cellsU (List.replicate n 0)) 176)) := by
  obtain ⟨i, hi, hz, hs1, hb⟩ := infoU32
  subst hk
  have := run_make (P := Tryd.prog) w 144 176 i (.int .u32 0) Tryd.underlying144 hi hz .i64 .i64 n n (by omega) (Int.le_refl _) (by rw [hb]; omega) (by omega)
  rw [this, hs1]
  simp only [Int.toNat_natCast, Nat.mul_one]
  rw [madeCells_u32]
end Go.Proofs.YtfdpnephjpcnbaaDoor
namespace Go.Sub
/-- An integer of few digits. -/
def Sm (z : Int) : Prop := (z.natAbs : Int) < wt 12
theorem Sm.len {z : Int} (h : Sm z) : (dig z.natAbs).length ≤ 12 := dig_length_le h
theorem Sm.of {z : Int} (h0 : -39402006196394479212279040100143613805079739270465446667948293404245721771497210611414266254884915640806627990306816 < z) (h1 : z < 39402006196394479212279040100143613805079739270465446667948293404245721771497210611414266254884915640806627990306816) : Sm z := by
  have : wt 12 = 39402006196394479212279040100143613805079739270465446667948293404245721771497210611414266254884915640806627990306816 := by decide
  unfold Sm
  rw [this]
  omega
theorem dval_dg (z : Int) : dval (dig z.natAbs) = (z.natAbs : Int) := dval_dig _
theorem cmpI_neg (x y : Int) : cmpI (-x) (-y) = cmpI y x := by unfold cmpI; repeat' split <;> omega
theorem trL_dig (n : Nat) : trL (dig n) = dig n := by unfold trL; rw [dval_dig]; rfl
theorem trL_two (u : Int) (_ : 0 ≤ u) (_ : u < 18446744073709551616) : trL [u % 4294967296, u / 4294967296] = dig u.toNat := by
  unfold trL
  congr 2
  simp only [dval]
  omega
theorem ones_xor (n : Nat) (h : n < 2 ^ 64) : (2 ^ 64 - 1) ^^^ n = 2 ^ 64 - 1 - n := by
  apply Nat.eq_of_testBit_eq
  intro i
  rw [Nat.testBit_xor, Nat.testBit_two_pow_sub_one, show 2 ^ 64 - 1 - n = 2 ^ 64 - (n + 1) by omega, Nat.testBit_two_pow_sub_succ h]
  by_cases hi : i < 64
  · simp [hi]
  · simp only [hi, decide_false, Bool.false_xor, Bool.false_and]
    exact Nat.testBit_lt_two_pow (Nat.lt_of_lt_of_le h (Nat.pow_le_pow_right (by omega) (by omega)))
theorem not64 (x : Int) (h0 : 0 ≤ x) (h1 : x < 18446744073709551616) : bits .xor .u64 IntKind.u64.max x = 18446744073709551615 - x := by
  obtain ⟨n, rfl⟩ := Int.eq_ofNat_of_zero_le h0
  have hm : IntKind.u64.max = ((18446744073709551615 : Nat) : Int) := by decide
  rw [hm, bits_xor_u64_nat _ _ (by omega) (by omega)]
  have := ones_xor n (by omega)
  rw [show (2 ^ 64 - 1 : Nat) = 18446744073709551615 by decide] at this
  rw [this]
  omega
theorem neg64 {z : Int} (h0 : -9223372036854775808 ≤ z) (h1 : z < 0) : IntKind.u64.wrap (bits .xor .u64 IntKind.u64.max (IntKind.u64.wrap z) + 1) = -z := by
  rw [IntKind.wrap_u64 z, not64 _ (by omega) (by omega), IntKind.wrap_u64]
  omega
theorem dig_len2 {z : Int} (h0 : 0 ≤ z) (h1 : z < 18446744073709551616) : (dig z.toNat).length ≤ 2 := dig_length_le (by
  have : wt 2 = 18446744073709551616 := by decide
  rw [this]
  omega)
theorem cmp_signs {x y : Int} (h : x < 0) (h' : 0 ≤ y) : cmpI x y = -1 := by unfold cmpI; split <;> omega
theorem cmp_signs' {x y : Int} (h : 0 ≤ x) (h' : y < 0) : cmpI x y = 1 := by unfold cmpI; repeat' split <;> omega
theorem cmp_abs {x y : Int} (h : 0 ≤ x) (h' : 0 ≤ y) : cmpI (x.natAbs : Int) (y.natAbs : Int) = cmpI x y := by
  rw [show (x.natAbs : Int) = x by omega, show (y.natAbs : Int) = y by omega]
theorem cmp_abs' {x y : Int} (h : x < 0) (h' : y < 0) : cmpI (y.natAbs : Int) (x.natAbs : Int) = cmpI x y := by
  rw [show (x.natAbs : Int) = -x by omega, show (y.natAbs : Int) = -y by omega, cmpI_neg]
theorem cmp_zero (x : Int) : cmpI x 0 = sgn x := by unfold cmpI sgn; rfl
end Go.Sub
namespace Go
open Go.Sub
def RetZ (z : Int) (w : World) (e : Ending) (w' : World) : Prop := RetI (decide (z < 0)) (dig z.natAbs) w e w'
def RetZ2 (z : Int) (w : World) (e : Ending) (w' : World) : Prop := RetI2 (decide (z < 0)) (dig z.natAbs) w e w'
end Go
namespace Go.Proofs.YtfdpnephjpcnbaaDoor
open Go.RowKit Go.Sub
theorem mul_sgn {x y : Int} (l : List Int) (hl : l = dig (x * y).natAbs) : ((decide (x < 0) != decide (y < 0)) && decide (l ≠ [])) = decide (x * y < 0) := by
  have e : (l ≠ []) ↔ x * y ≠ 0 := by rw [hl, Ne, dig_nil]; omega
  rw [Bool.eq_iff_iff]
  simp only [Bool.and_eq_true, bne_iff_ne, ne_eq, decide_eq_decide, decide_eq_true_eq, e]
  rcases Int.lt_trichotomy x 0 with hx | hx | hx <;> rcases Int.lt_trichotomy y 0 with hy | hy | hy
  · have := Int.mul_pos_of_neg_of_neg hx hy; generalize x * y = p at *; omega
  · subst hy; simp
  · have := Int.mul_neg_of_neg_of_pos hx hy; generalize x * y = p at *; omega
  · subst hx; simp
  · subst hx; simp
  · subst hx; simp
  · have := Int.mul_neg_of_pos_of_neg hx hy; generalize x * y = p at *; omega
  · subst hy; simp
  · have := Int.mul_pos hx hy; generalize x * y = p at *; omega
theorem mul_dig (x y : Int) : (dval (dig x.natAbs) * dval (dig y.natAbs)).toNat = (x * y).natAbs := by
  rw [dval_dg, dval_dg, Int.natAbs_mul]
  omega
end Go.Proofs.YtfdpnephjpcnbaaDoor
