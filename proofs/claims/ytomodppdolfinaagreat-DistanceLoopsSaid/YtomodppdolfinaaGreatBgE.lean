
/- What Small of package substationref01, and scaled and Scale of substationref02 return. -/
import Derived.Test.YtomodppdolfinaaGreatBgD
import Derived.Test.YtomodppdolfinaaGreatSuT
namespace Go.Sub
/-- The int that a number is, and whether it fits. -/
def smallR (z : Int) : Int × Bool := if -9223372036854775808 ≤ z ∧ z ≤ 9223372036854775807 then (z, true) else (0, false)
/-- n * k, or Limit + 1. -/
def scaledR (l n k : Int) : Int := if -l ≤ n * k ∧ n * k ≤ l then n * k else l + 1
theorem or_low {u d : Int} (h0 : 0 ≤ u) (h1 : u < 4294967296) (d0 : 0 ≤ d) (d1 : d < 4294967296) : bits .or .u64 (u * 4294967296) d = u * 4294967296 + d := by
  obtain ⟨a, rfl⟩ := Int.eq_ofNat_of_zero_le h0
  obtain ⟨b, rfl⟩ := Int.eq_ofNat_of_zero_le d0
  have e1 : ((a : Int) * 4294967296) = ((2 ^ 32 * a : Nat) : Int) := by omega
  rw [e1]
  rw [bits_or_u64_nat _ _ (by omega) (by omega), ← Nat.two_pow_add_eq_or_of_lt (show b < 2 ^ 32 by omega)]
  omega
end Go.Sub
namespace Go.Proofs.YtomodppdolfinaaGreat
open Go.RowKit Go.Sub
set_option maxRecDepth 100000 in
set_option maxHeartbeats 2000000 in
theorem r1small_big (b : Bool) (A : Option Addr) (n c : Nat) (x : Int) (w : World) (bx : b = decide (x < 0)) (rx : Rd w A n c (dig x.natAbs)) (hx : Sm x) (hn : 2 < n) :
    Calls Tryz.prog 79 #[.agg #[.bool b, .slice A n c]] w fun e w' => e = .returned (.tuple #[.int .i64 0, .bool false]) ∧ Q w w' := by
  have ln : n ≤ 12 := by rw [← rx.1]; exact hx.len
  have HX := Lib.hid rx
  have BX := Lib.hid bx
  have HVX := Lib.hid (fun w' (hq : Q w w') => r1valid_z b A n c x w' BX.out (HX.out.q hq) hx)
  clear rx bx hx
  go_enter Tryz.func79, Tryz.ntmps79
  go_wp2_with (go_at_call 87; (with_reducible refine (HVX.out _ (by repeat' (first | exact Q.refl _ | refine Q.alloc ?_ _ | refine Q.jk ?_ _ | refine Q.drew ?_))).mono ?_); rintro e w' ⟨rfl, kj, rfl⟩)
  go_ret2
  refine ⟨rfl, ?_⟩
  repeat' (first | exact Q.refl _ | refine Q.alloc ?_ _ | refine Q.jk ?_ _ | refine Q.drew ?_)
/-- The digits from k on, as one number. -/
def highD (l : List Int) (k : Nat) : Int := dval (l.drop k)
theorem highD_step (l : List Int) (k : Nat) (h : k < l.length) : highD l k = highD l (k + 1) * 4294967296 + l.getD k 0 := by
  unfold highD
  rw [List.drop_eq_getElem_cons h, getD_lt h]
  simp only [dval]
  omega
theorem highD_lt {l : List Int} (hd : Dg l) (k : Nat) (h : l.length ≤ k + 1) : 0 ≤ highD l k ∧ highD l k < 4294967296 := by
  unfold highD
  have hd' : Dg (l.drop k) := fun x hx => hd x (List.mem_of_mem_drop hx)
  refine ⟨dval_nonneg hd', ?_⟩
  match e : l.drop k with
  | [] => simp [dval]
  | [x] => rw [e] at hd'; have := hd'.head; simp [dval]; omega
  | x :: y :: r =>
    have := congrArg List.length e
    rw [List.length_drop] at this
    simp at this
    omega
set_option maxRecDepth 100000 in
set_option maxHeartbeats 2000000 in
theorem r1small_two (b : Bool) (A : Option Addr) (n c : Nat) (x : Int) (w : World) (bx : b = decide (x < 0)) (rx : Rd w A n c (dig x.natAbs)) (hx : Sm x) (hn : n ≤ 2) :
    Calls Tryz.prog 79 #[.agg #[.bool b, .slice A n c]] w fun e w' => e = .returned (.tuple #[.int .i64 (smallR x).1, .bool (smallR x).2]) ∧ Q w w' := by
  have HL := Lib.hid rx.1
  have HX := Lib.hid rx
  have BX := Lib.hid bx
  have hv : dval (dig x.natAbs) = (x.natAbs : Int) := dval_dg x
  have hlt : (x.natAbs : Int) < 18446744073709551616 := by
    have h1 := dval_lt (dig_Dg x.natAbs)
    rw [hv, rx.1] at h1
    have h2 : wt n ≤ wt 2 := by
      have : n = 0 ∨ n = 1 ∨ n = 2 := by omega
      rcases this with rfl | rfl | rfl <;> decide
    have : wt 2 = 18446744073709551616 := by decide
    omega
  have HV := Lib.hid hv
  have HVX := Lib.hid (fun w' (hq : Q w w') => r1valid_z b A n c x w' BX.out (HX.out.q hq) hx)
  have HLT : Hid (-18446744073709551616 < x ∧ x < 18446744073709551616) := Lib.hid (by omega)
  clear rx bx hv hx hlt
  go_enter Tryz.func79, Tryz.ntmps79
  go_upto_block 0 with ((go_at_call 87; (with_reducible refine (HVX.out _ (by repeat' (first | exact Q.refl _ | refine Q.alloc ?_ _ | refine Q.jk ?_ _ | refine Q.drew ?_))).mono ?_); rintro e w' ⟨rfl, kj, rfl⟩))
  go_cut [4] (fun s4 wx => s4 = .int .u64 (x.natAbs : Int) ∧ Q (w.alloc (.cells #[.bool b, .slice A n c] 98)) wx)
  case first =>
    go_wp2_with fail
    go_loopw [4, 5] (fun u i wr => ∃ k : Nat, i = .int .i64 ((k : Int) - 1) ∧ k ≤ n ∧ u = .int .u64 (highD (dig x.natAbs) k) ∧ Q (w.alloc (.cells #[.bool b, .slice A n c] 98)) wr) (fun _ i _ => (intOf i + 1).toNat)
    case atStart => exact ⟨n, rfl, Nat.le_refl _, by unfold highD; rw [List.drop_of_length_le (by rw [HL.out]; exact Nat.le_refl _)]; rfl, by repeat' (first | exact Q.refl _ | refine Q.alloc ?_ _ | refine Q.jk ?_ _ | refine Q.drew ?_)⟩
    case round =>
      obtain ⟨k, rfl, hk, rfl, kw, rfl⟩ := hrel
      rcases k with _ | j
      · go_wp2
        go_meet
        refine ⟨by unfold highD; rw [List.drop_zero, HV.out], ?_⟩
        repeat' (first | exact Q.refl _ | refine Q.alloc ?_ _ | refine Q.jk ?_ _ | refine Q.drew ?_)
      · rw [show ((j + 1 : Nat) : Int) - 1 = (j : Int) by omega]
        obtain ⟨g, rfl, hOld, hc⟩ := HX.out.at_ (by omega)
        have hcj := hc.out j (by omega)
        obtain ⟨d, ed⟩ : ∃ d, (dig x.natAbs).getD j 0 = d := ⟨_, rfl⟩
        rw [ed] at hcj
        have hd : 0 ≤ d ∧ d < 4294967296 := ed ▸ (dig_Dg _).getD j
        obtain ⟨hd0, hd1⟩ := hd
        obtain ⟨u0, u1⟩ := highD_lt (dig_Dg x.natAbs) (j + 1) (by rw [HL.out]; omega)
        have ST := highD_step (dig x.natAbs) j (by rw [HL.out]; omega)
        rw [ed] at ST
        have HS := Lib.hid ST
        have HO := Lib.hid (or_low u0 u1 hd0 hd1)
        have hj : j < n := by omega
        clear ed ST hc
        go_wp2
        go_roundw
        case rel => exact ⟨j, rfl, by omega, by first | rw [HS.out, ← HO.out] | (rw [HS.out, ← HO.out]; rfl), by repeat' (first | exact Q.refl _ | refine Q.alloc ?_ _ | refine Q.jk ?_ _ | refine Q.drew ?_)⟩
        case measure => simp [intOf]
  case rest =>
    obtain ⟨rfl, kx, rfl⟩ := hcut
    have hb := BX.out
    obtain ⟨hlt0, hlt1⟩ := HLT.out
    cases b
    · have hx0 : 0 ≤ x := by simpa using hb
      by_cases hf : x ≤ 9223372036854775807
      · have E : smallR x = (x, true) := by simp [smallR, hf]; omega
        have HE := Lib.hid E
        rw [show (x.natAbs : Int) = x by omega]
        clear E hb
        go_wp2
        go_ret2
        refine ⟨by rw [HE.out]; rfl, ?_⟩
        repeat' (first | exact Q.refl _ | refine Q.alloc ?_ _ | refine Q.jk ?_ _ | refine Q.drew ?_)
      · have E : smallR x = (0, false) := by simp [smallR, hf]
        have HE := Lib.hid E
        rw [show (x.natAbs : Int) = x by omega]
        clear E hb
        go_wp2
        go_ret2
        refine ⟨by rw [HE.out]; rfl, ?_⟩
        repeat' (first | exact Q.refl _ | refine Q.alloc ?_ _ | refine Q.jk ?_ _ | refine Q.drew ?_)
    · have hx0 : x < 0 := by simpa using hb
      by_cases hf : -9223372036854775808 ≤ x
      · have E : smallR x = (x, true) := by simp [smallR, hf]; omega
        have HE := Lib.hid E
        have HN : Hid (wrap64 (IntKind.u64.wrap (bits .xor .u64 IntKind.u64.max (-x) + 1)) = x) := Lib.hid (by
          rw [not64 _ (by omega) (by omega), IntKind.wrap_u64]
          unfold wrap64
          omega)
        rw [show (x.natAbs : Int) = -x by omega]
        clear E hb
        go_wp2
        go_ret2
        refine ⟨by rw [HE.out]; show Ending.returned (.tuple #[.int .i64 (wrap64 (IntKind.u64.wrap (bits .xor .u64 IntKind.u64.max (-x) + 1))), .bool true]) = _; rw [HN.out], ?_⟩
        repeat' (first | exact Q.refl _ | refine Q.alloc ?_ _ | refine Q.jk ?_ _ | refine Q.drew ?_)
      · have E : smallR x = (0, false) := by simp [smallR, hf]
        have HE := Lib.hid E
        rw [show (x.natAbs : Int) = -x by omega]
        clear E hb
        go_wp2
        go_ret2
        refine ⟨by rw [HE.out]; rfl, ?_⟩
        repeat' (first | exact Q.refl _ | refine Q.alloc ?_ _ | refine Q.jk ?_ _ | refine Q.drew ?_)
theorem r1small_z (b : Bool) (A : Option Addr) (n c : Nat) (x : Int) (w : World) (bx : b = decide (x < 0)) (rx : Rd w A n c (dig x.natAbs)) (hx : Sm x) :
    Calls Tryz.prog 79 #[.agg #[.bool b, .slice A n c]] w fun e w' => e = .returned (.tuple #[.int .i64 (smallR x).1, .bool (smallR x).2]) ∧ Q w w' := by
  rcases Nat.lt_or_ge 2 n with hn | hn
  · have h := r1small_big b A n c x w bx rx hx hn
    have e : smallR x = (0, false) := by
      have hl : ¬ (x.natAbs : Int) < wt 2 := fun h => by
        have := dig_length_le h
        rw [rx.1] at this
        omega
      have e2 : wt 2 = 18446744073709551616 := by decide
      rw [e2] at hl
      unfold smallR
      rw [if_neg (by omega)]
    rw [e]
    exact h
  · exact r1small_two b A n c x w bx rx hx hn
theorem limS_scaled (a b k : Int) : limS ⟨scaledR 1152921504606846976 a k, scaledR 1152921504606846976 b k⟩ = limS ⟨a * k, b * k⟩ := by
  by_cases h : wi2 1152921504606846976 (a * k) (b * k) = true
  · have h1 := (wi2_iff _ _ _).1 h
    rw [show scaledR 1152921504606846976 a k = a * k by unfold scaledR; rw [if_pos (by omega)], show scaledR 1152921504606846976 b k = b * k by unfold scaledR; rw [if_pos (by omega)]]
  · have h2 : wi2 1152921504606846976 (scaledR 1152921504606846976 a k) (scaledR 1152921504606846976 b k) = false := by
      cases e : wi2 1152921504606846976 (scaledR 1152921504606846976 a k) (scaledR 1152921504606846976 b k)
      · rfl
      · exfalso
        have h1 := (wi2_iff _ _ _).1 e
        unfold scaledR at h1
        refine h ((wi2_iff _ _ _).2 ?_)
        by_cases ha : -1152921504606846976 ≤ a * k ∧ a * k ≤ 1152921504606846976
        · by_cases hb : -1152921504606846976 ≤ b * k ∧ b * k ≤ 1152921504606846976
          · omega
          · rw [if_neg hb] at h1; omega
        · rw [if_neg ha] at h1; omega
    have h3 : wi2 1152921504606846976 (a * k) (b * k) = false := by simpa using h
    simp [limS, h2, h3]
end Go.Proofs.YtomodppdolfinaaGreat
