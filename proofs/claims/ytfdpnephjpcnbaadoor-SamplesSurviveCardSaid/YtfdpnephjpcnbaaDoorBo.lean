
/- Bytes put together: two bytes as a number, a number of 16 bits with a sign. Plain. -/
import Derived.Test.YtfdpnephjpcnbaaDoorCn
import Derived.Laws.BitsAllLaws
set_option linter.unusedVariables false
namespace Go.Sub
open Go Go.RowKit
theorem or_mul8 (a b : Nat) (h : a < 256) : b * 256 ||| a = b * 256 + a := by
  rw [show (256 : Nat) = 2 ^ 8 from rfl, ← Nat.shiftLeft_eq, Nat.shiftLeft_add_eq_or_of_lt (by omega)]
theorem be_i64 (a b : Int) (a0 : 0 ≤ a) (a1 : a < 65536) (b0 : 0 ≤ b) (b1 : b < 256) : bits .or .i64 (a * 256) b = a * 256 + b := by
  obtain ⟨n0, rfl⟩ := Int.eq_ofNat_of_zero_le a0
  obtain ⟨n1, rfl⟩ := Int.eq_ofNat_of_zero_le b0
  have e : ((n0 : Int) * 256) = ((n0 * 256 : Nat) : Int) := by omega
  rw [e]
  have h : ((BitVec.ofInt 64 ((n0 * 256 : Nat) : Int)) ||| (BitVec.ofInt 64 (n1 : Int))).toNat = n0 * 256 + n1 := by
    rw [BitVec.ofInt_natCast, BitVec.ofInt_natCast, BitVec.toNat_or, BitVec.toNat_ofNat, BitVec.toNat_ofNat, Nat.mod_eq_of_lt (by omega), Nat.mod_eq_of_lt (by omega), or_mul8 n1 n0 (by omega)]
  show IntKind.i64.wrap (((BitVec.ofInt 64 ((n0 * 256 : Nat) : Int)) ||| (BitVec.ofInt 64 (n1 : Int))).toNat : Int) = _
  rw [h]
  exact IntWalk.i64_in _ (by omega)
theorem be_u16 (a b : Int) (a0 : 0 ≤ a) (a1 : a < 256) (b0 : 0 ≤ b) (b1 : b < 256) : bits .or .u16 (a * 256) b = a * 256 + b := by
  obtain ⟨n0, rfl⟩ := Int.eq_ofNat_of_zero_le a0
  obtain ⟨n1, rfl⟩ := Int.eq_ofNat_of_zero_le b0
  have e : ((n0 : Int) * 256) = ((n0 * 256 : Nat) : Int) := by omega
  rw [e, u16_or_nat _ _ (by omega) (by omega), or_mul8 n1 n0 (by omega)]
  omega
theorem be_split (u : Int) (u0 : 0 ≤ u) (u1 : u < 65536) : bits .or .i64 (u / 256 * 256) (u % 256) = u := by
  rw [be_i64 _ _ (by omega) (by omega) (by omega) (by omega)]
  omega
theorem i16_back (x : Int) (x0 : -32768 ≤ x) (x1 : x ≤ 32767) : IntKind.i16.wrap (x / 256 % 256 * 256 + x % 256) = x := by
  have e : x / 256 % 256 * 256 + x % 256 = x % 65536 := by omega
  rw [e]
  unfold IntKind.wrap
  simp only [IntKind.bits, IntKind.signed, Bool.true_and, decide_eq_true_eq, Nat.reduceSub, Int.reducePow, ge_iff_le]
  split <;> omega
end Go.Sub
