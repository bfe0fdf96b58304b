
/- What Small of package substationref01, and scaled and Scale of substationref02 return. -/
import Derived.Test.YtfdpnephjpcnbaaDoorBz35
import Derived.Test.YtfdpnephjpcnbaaDoorBz11
set_option linter.unusedSimpArgs false
set_option linter.unusedVariables false
namespace Go.Sub
/-- The int that a number is, and whether it fits. -/
def smallR (z : Int) : Int × Bool := if -9223372036854775808 ≤ z ∧ z ≤ 9223372036854775807 then (z, true) else (0, false)
/-- n * k, or Limit + 1. -/
def scaledR (l n k : Int) : Int := if -l ≤ n * k ∧ n * k ≤ l then n * k else l + 1
theorem or_low {u d : Int} (h0 : 0 ≤ u) (h1 : u < 4294967296) (d0 : 0 ≤ d) (d1 : d < 4294967296) : bits .or .u64 (u * 4294967296) d = u * 4294967296 + d := by
  obtain ⟨a, rfl⟩ := Int.eq_ofNat_of_zero_le h0
  obtain ⟨b, rfl⟩ := Int.eq_ofNat_of_zero_le d0
  have e1 : ((a : Int) * 4294967296) = ((2 ^ 32 * a : Nat) : Int) := by omega
  rw [e1]
  rw [bits_or_u64_nat _ _ (by omega) (by omega), ← Nat.two_pow_add_eq_or_of_lt (show b < 2 ^ 32 by omega)]
  omega
end Go.Sub
namespace Go.Proofs.YtfdpnephjpcnbaaDoor
open Go.RowKit Go.Sub
/-- The digits from k on, as one number. -/
def highD (l : List Int) (k : Nat) : Int := dval (l.drop k)
theorem highD_step (l : List Int) (k : Nat) (h : k < l.length) : highD l k = highD l (k + 1) * 4294967296 + l.getD k 0 := by
  unfold highD
  rw [List.drop_eq_getElem_cons h, getD_lt h]
  simp only [dval]
  omega
theorem highD_lt {l : List Int} (hd : Dg l) (k : Nat) (h : l.length ≤ k + 1) : 0 ≤ highD l k ∧ highD l k < 4294967296 := by
  unfold highD
  have hd' : Dg (l.drop k) := fun x hx => hd x (List.mem_of_mem_drop hx)
  refine ⟨dval_nonneg hd', ?_⟩
  match e : l.drop k with
  | [] => simp [dval]
  | [x] => rw [e] at hd'; have := hd'.head; simp [dval]; omega
  | x :: y :: r =>
    have := congrArg List.length e
    rw [List.length_drop] at this
    simp at this
    omega
theorem limS_scaled (a b k : Int) : limS ⟨scaledR 1152921504606846976 a k, scaledR 1152921504606846976 b k⟩ = limS ⟨a * k, b * k⟩ := by
  by_cases h : wi2 1152921504606846976 (a * k) (b * k) = true
  · have h1 := (wi2_iff _ _ _).1 h
    rw [show scaledR 1152921504606846976 a k = a * k by unfold scaledR; rw [if_pos (by omega)], show scaledR 1152921504606846976 b k = b * k by unfold scaledR; rw [if_pos (by omega)]]
  · have h2 : wi2 1152921504606846976 (scaledR 1152921504606846976 a k) (scaledR 1152921504606846976 b k) = false := by
      cases e : wi2 1152921504606846976 (scaledR 1152921504606846976 a k) (scaledR 1152921504606846976 b k)
      · rfl
      · exfalso
        have h1 := (wi2_iff _ _ _).1 e
        unfold scaledR at h1
        refine h ((wi2_iff _ _ _).2 ?_)
        by_cases ha : -1152921504606846976 ≤ a * k ∧ a * k ≤ 1152921504606846976
        · by_cases hb : -1152921504606846976 ≤ b * k ∧ b * k ≤ 1152921504606846976
          · omega
          · rw [if_neg hb] at h1; omega
        · rw [if_neg ha] at h1; omega
    have h3 : wi2 1152921504606846976 (a * k) (b * k) = false := by simpa using h
    simp [limS, h2, h3]
end Go.Proofs.YtfdpnephjpcnbaaDoor
