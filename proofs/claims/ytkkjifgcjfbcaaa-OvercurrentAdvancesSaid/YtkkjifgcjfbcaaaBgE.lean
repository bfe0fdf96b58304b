
/- What Small of package substationref01, and scaled and Scale of substationref02 return. -/
import Derived.Test.YtkkjifgcjfbcaaaBgD
import Derived.Test.YtkkjifgcjfbcaaaSuT
namespace Go.Sub
/-- The int that a number is, and whether it fits. -/
def smallR (z : Int) : Int × Bool := if -9223372036854775808 ≤ z ∧ z ≤ 9223372036854775807 then (z, true) else (0, false)
/-- n * k, or Limit + 1. -/
def scaledR (l n k : Int) : Int := if -l ≤ n * k ∧ n * k ≤ l then n * k else l + 1
theorem or_low {u d : Int} (h0 : 0 ≤ u) (h1 : u < 4294967296) (d0 : 0 ≤ d) (d1 : d < 4294967296) : bits .or .u64 (u * 4294967296) d = u * 4294967296 + d := by
  obtain ⟨a, rfl⟩ := Int.eq_ofNat_of_zero_le h0
  obtain ⟨b, rfl⟩ := Int.eq_ofNat_of_zero_le d0
  have e1 : ((a : Int) * 4294967296) = ((2 ^ 32 * a : Nat) : Int) := by omega
  rw [e1]
  rw [bits_or_u64_nat _ _ (by omega) (by omega), ← Nat.two_pow_add_eq_or_of_lt (show b < 2 ^ 32 by omega)]
  omega
end Go.Sub
namespace Go.Proofs.Ytkkjifgcjfbcaaa
open Go.RowKit Go.Sub
set_option maxRecDepth 100000 in
set_option maxHeartbeats 2000000 in
theorem r1small_big (b : Bool) (A : Option Addr) (n c : Nat) (x : Int) (w : World) (bx : b = decide (x < 0)) (rx : Rd w A n c (dig x.natAbs)) (hx : Sm x) (hn : 2 < n) :
    Calls Try.prog 94 #[.agg #[.bool b, .slice A n c]] w fun e w' => e = .returned (.tuple #[.int .i64 0, .bool false]) ∧ Q w w' := by
  have ln : n ≤ 12 := by rw [← rx.1]; exact hx.len
  have HX := Lib.hid rx
  have BX := Lib.hid bx
  have HVX := Lib.hid (fun w' (hq : Q w w') => r1valid_z b A n c x w' BX.out (HX.out.q hq) hx)
  clear rx bx hx
  go_enter Try.func94, Try.ntmps94
  go_wp2_with (go_at_call 106; (with_reducible refine (HVX.out _ (by repeat' (first | exact Q.refl _ | refine Q.alloc ?_ _ | refine Q.jk ?_ _ | refine Q.drew ?_))).mono ?_); rintro e w' ⟨rfl, kj, rfl⟩)
  go_ret2
  refine ⟨rfl, ?_⟩
  repeat' (first | exact Q.refl _ | refine Q.alloc ?_ _ | refine Q.jk ?_ _ | refine Q.drew ?_)
/-- The digits from k on, as one number. -/
def highD (l : List Int) (k : Nat) : Int := dval (l.drop k)
theorem highD_step (l : List Int) (k : Nat) (h : k < l.length) : highD l k = highD l (k + 1) * 4294967296 + l.getD k 0 := by
  unfold highD
  rw [List.drop_eq_getElem_cons h, getD_lt h]
  simp only [dval]
  omega
theorem highD_lt {l : List Int} (hd : Dg l) (k : Nat) (h : l.length ≤ k + 1) : 0 ≤ highD l k ∧ highD l k < 4294967296 := by
  unfold highD
  have hd' : Dg (l.drop k) := fun x hx => hd x (List.mem_of_mem_drop hx)
  refine ⟨dval_nonneg hd', ?_⟩
  match e : l.drop k with
  | [] => simp [dval]
  | [x] => rw [e] at hd'; have := hd'.head; simp [dval]; omega
  | x :: y :: r =>
    have := congrArg List.length e
    rw [List.length_drop] at this
    simp at this
    omega
set_option maxRecDepth 100000 in
set_option maxHeartbeats 2000000 in
theorem r1small_two (b : Bool) (A : Option Addr) (n c : Nat) (x : Int) (w : World) (bx : b = decide (x < 0)) (rx : Rd w A n c (dig x.natAbs)) (hx : Sm x) (hn : n ≤ 2) :
    Calls Try.prog 94 #[.agg #[.bool b, .slice A n c]] w fun e w' => e = .returned (.tuple #[.int .i64 (smallR x).1, .bool (smallR x).2]) ∧ Q w w' := by
  have HL := Lib.hid rx.1
  have HX := Lib.hid rx
  have BX := Lib.hid bx
  have hv : dval (dig x.natAbs) = (x.natAbs : Int) := dval_dg x
  have hlt : (x.natAbs : Int) < 18446744073709551616 := by
    have h1 := dval_lt (dig_Dg x.natAbs)
    rw [hv, rx.1] at h1
    have h2 : wt n ≤ wt 2 := by
      have : n = 0 ∨ n = 1 ∨ n = 2 := by omega
      rcases this with rfl | rfl | rfl <;> decide
    have : wt 2 = 18446744073709551616 := by decide
    omega
  have HV := Lib.hid hv
  have HVX := Lib.hid (fun w' (hq : Q w w') => r1valid_z b A n c x w' BX.out (HX.out.q hq) hx)
  have HLT : Hid (-18446744073709551616 < x ∧ x < 18446744073709551616) := Lib.hid (by omega)
  clear rx bx hv hx hlt
  go_enter Try.func94, Try.ntmps94
  go_upto_block 0 with ((go_at_call 106; (with_reducible refine (HVX.out _ (by repeat' (first | exact Q.refl _ | refine Q.alloc ?_ _ | refine Q.jk ?_ _ | refine Q.drew ?_))).mono ?_); rintro e w' ⟨rfl, kj, rfl⟩))
  go_cut [4] (fun s4 wx => s4 = .int .u64 (x.natAbs : Int) ∧ Q (w.alloc (.cells #[.bool b, .slice A n c] 71)) wx)
  case first =>
    go_wp2_with fail
    go_loopw [4, 5] (fun u i wr => ∃ k : Nat, i = .int .i64 ((k : Int) - 1) ∧ k ≤ n ∧ u = .int .u64 (highD (dig x.natAbs) k) ∧ Q (w.alloc (.cells #[.bool b, .slice A n c] 71)) wr) (fun _ i _ => (intOf i + 1).toNat)
    case atStart => exact ⟨n, rfl, Nat.le_refl _, by unfold highD; rw [List.drop_of_length_le (by rw [HL.out]; exact Nat.le_refl _)]; rfl, by repeat' (first | exact Q.refl _ | refine Q.alloc ?_ _ | refine Q.jk ?_ _ | refine Q.drew ?_)⟩
    case round =>
      obtain ⟨k, rfl, hk, rfl, kw, rfl⟩ := hrel
      rcases k with _ | j
      · go_wp2
        go_meet
        refine ⟨by unfold highD; rw [List.drop_zero, HV.out], ?_⟩
        repeat' (first | exact Q.refl _ | refine Q.alloc ?_ _ | refine Q.jk ?_ _ | refine Q.drew ?_)
      · rw [show ((j + 1 : Nat) : Int) - 1 = (j : Int) by omega]
        obtain ⟨g, rfl, hOld, hc⟩ := HX.out.at_ (by omega)
        have hcj := hc.out j (by omega)
        obtain ⟨d, ed⟩ : ∃ d, (dig x.natAbs).getD j 0 = d := ⟨_, rfl⟩
        rw [ed] at hcj
        have hd : 0 ≤ d ∧ d < 4294967296 := ed ▸ (dig_Dg _).getD j
        obtain ⟨hd0, hd1⟩ := hd
        obtain ⟨u0, u1⟩ := highD_lt (dig_Dg x.natAbs) (j + 1) (by rw [HL.out]; omega)
        have ST := highD_step (dig x.natAbs) j (by rw [HL.out]; omega)
        rw [ed] at ST
        have HS := Lib.hid ST
        have HO := Lib.hid (or_low u0 u1 hd0 hd1)
        have hj : j < n := by omega
        clear ed ST hc
        go_wp2
        go_roundw
        case rel => exact ⟨j, rfl, by omega, by first | rw [HS.out, ← HO.out] | (rw [HS.out, ← HO.out]; rfl), by repeat' (first | exact Q.refl _ | refine Q.alloc ?_ _ | refine Q.jk ?_ _ | refine Q.drew ?_)⟩
        case measure => simp [intOf]
  case rest =>
    obtain ⟨rfl, kx, rfl⟩ := hcut
    have hb := BX.out
    obtain ⟨hlt0, hlt1⟩ := HLT.out
    cases b
    · have hx0 : 0 ≤ x := by simpa using hb
      by_cases hf : x ≤ 9223372036854775807
      · have E : smallR x = (x, true) := by simp [smallR, hf]; omega
        have HE := Lib.hid E
        rw [show (x.natAbs : Int) = x by omega]
        clear E hb
        go_wp2
        go_ret2
        refine ⟨by rw [HE.out]; rfl, ?_⟩
        repeat' (first | exact Q.refl _ | refine Q.alloc ?_ _ | refine Q.jk ?_ _ | refine Q.drew ?_)
      · have E : smallR x = (0, false) := by simp [smallR, hf]
        have HE := Lib.hid E
        rw [show (x.natAbs : Int) = x by omega]
        clear E hb
        go_wp2
        go_ret2
        refine ⟨by rw [HE.out]; rfl, ?_⟩
        repeat' (first | exact Q.refl _ | refine Q.alloc ?_ _ | refine Q.jk ?_ _ | refine Q.drew ?_)
    · have hx0 : x < 0 := by simpa using hb
      by_cases hf : -9223372036854775808 ≤ x
      · have E : smallR x = (x, true) := by simp [smallR, hf]; omega
        have HE := Lib.hid E
        have HN : Hid (wrap64 (IntKind.u64.wrap (bits .xor .u64 IntKind.u64.max (-x) + 1)) = x) := Lib.hid (by
          rw [not64 _ (by omega) (by omega), IntKind.wrap_u64]
          unfold wrap64
          omega)
        rw [show (x.natAbs : Int) = -x by omega]
        clear E hb
        go_wp2
        go_ret2
        refine ⟨by rw [HE.out]; show Ending.returned (.tuple #[.int .i64 (wrap64 (IntKind.u64.wrap (bits .xor .u64 IntKind.u64.max (-x) + 1))), .bool true]) = _; rw [HN.out], ?_⟩
        repeat' (first | exact Q.refl _ | refine Q.alloc ?_ _ | refine Q.jk ?_ _ | refine Q.drew ?_)
      · have E : smallR x = (0, false) := by simp [smallR, hf]
        have HE := Lib.hid E
        rw [show (x.natAbs : Int) = -x by omega]
        clear E hb
        go_wp2
        go_ret2
        refine ⟨by rw [HE.out]; rfl, ?_⟩
        repeat' (first | exact Q.refl _ | refine Q.alloc ?_ _ | refine Q.jk ?_ _ | refine Q.drew ?_)
theorem r1small_z (b : Bool) (A : Option Addr) (n c : Nat) (x : Int) (w : World) (bx : b = decide (x < 0)) (rx : Rd w A n c (dig x.natAbs)) (hx : Sm x) :
    Calls Try.prog 94 #[.agg #[.bool b, .slice A n c]] w fun e w' => e = .returned (.tuple #[.int .i64 (smallR x).1, .bool (smallR x).2]) ∧ Q w w' := by
  rcases Nat.lt_or_ge 2 n with hn | hn
  · have h := r1small_big b A n c x w bx rx hx hn
    have e : smallR x = (0, false) := by
      have hl : ¬ (x.natAbs : Int) < wt 2 := fun h => by
        have := dig_length_le h
        rw [rx.1] at this
        omega
      have e2 : wt 2 = 18446744073709551616 := by decide
      rw [e2] at hl
      unfold smallR
      rw [if_neg (by omega)]
    rw [e]
    exact h
  · exact r1small_two b A n c x w bx rx hx hn
set_option maxHeartbeats 1000000 in
theorem r2between_any (n l h : Int) (w : World) :
    Calls Try.prog 66 #[.int .i64 n, .int .i64 l, .int .i64 h] w fun e w' => e = .returned (.bool (decide (l ≤ n) && decide (n ≤ h))) ∧ w = w' := by
  go_enter Try.func66, Try.ntmps66
  go_wp2
  all_goals go_ret
  all_goals
    refine ⟨?_, rfl⟩
    show Ending.returned (Value.bool _) = _
    refine congrArg (fun x => Ending.returned (Value.bool x)) ?_
    rw [Bool.eq_iff_iff]
    simp [*]
    try omega
set_option maxHeartbeats 2000000 in
theorem r2scaled_any (n k : Int) (w : World) (n0 : -1152921504606846976 ≤ n) (n1 : n ≤ 1152921504606846976) (k0 : -1152921504606846976 ≤ k) (k1 : k ≤ 1152921504606846976) :
    Calls Try.prog 67 #[.int .i64 n, .int .i64 k] w fun e w' => e = .returned (.int .i64 (scaledR 1152921504606846976 n k)) ∧ Q w w' := by
  have OF1 := Lib.hid (fun w => r1of_any n w (by omega) (by omega))
  have OF2 := Lib.hid (fun w => r1of_any k w (by omega) (by omega))
  have S1 := Lib.hid (Sm.b100 (x := n) (by omega) (by omega))
  have S2 := Lib.hid (Sm.b100 (x := k) (by omega) (by omega))
  have S3 := Lib.hid (Sm.sq (x := n) (y := k) (by omega) (by omega) (by omega) (by omega))
  by_cases hf : -9223372036854775808 ≤ n * k ∧ n * k ≤ 9223372036854775807
  · have SM : Hid (smallR (n * k) = (n * k, true)) := Lib.hid (by unfold smallR; rw [if_pos hf])
    obtain ⟨hf0, hf1⟩ := hf
    by_cases hl : -1152921504606846976 ≤ n * k ∧ n * k ≤ 1152921504606846976
    · have SR : Hid (scaledR 1152921504606846976 n k = n * k) := Lib.hid (by unfold scaledR; rw [if_pos hl])
      have HB : Hid ((decide (-1152921504606846976 ≤ n * k) && decide (n * k ≤ 1152921504606846976)) = true) := Lib.hid (by simp; exact hl)
      clear hl
      go_enter Try.func67, Try.ntmps67
      go_wp2_with (first
       | (go_at_call 60; first | ((with_reducible refine (OF1.out _).mono ?_); rintro e w' ⟨A1, n1, c1, k1, rfl, rfl, hr1, hf1⟩; have HR1 := Lib.hid hr1; clear hr1 hf1) | ((with_reducible refine (OF2.out _).mono ?_); rintro e w' ⟨A2, n2, c2, k2, rfl, rfl, hr2, hf2⟩; have HR2 := Lib.hid hr2; clear hr2 hf2))
       | (go_at_call 91; refine (r2prod_z _ _ _ _ n _ _ _ _ k _ rfl (HR1.out.q (by repeat' (first | exact Q.refl _ | refine Q.alloc ?_ _ | refine Q.jk ?_ _ | refine Q.drew ?_))) S1.out rfl (HR2.out.q (by repeat' (first | exact Q.refl _ | refine Q.alloc ?_ _ | refine Q.jk ?_ _ | refine Q.drew ?_))) S2.out S3.out).mono ?_; rintro e w' ⟨A3, n3, c3, k3, rfl, rfl, hr3, hf3⟩; have HR3 := Lib.hid hr3; clear hr3 hf3)
       | (go_at_call 94; refine (r1small_z _ _ _ _ (n * k) _ rfl (HR3.out.q (by repeat' (first | exact Q.refl _ | refine Q.alloc ?_ _ | refine Q.jk ?_ _ | refine Q.drew ?_))) S3.out).mono ?_; rintro e w' ⟨rfl, kj, rfl⟩; rw [SM.out]) | (go_at_call 66; refine (r2between_any _ _ _ _).mono ?_; rintro e w' ⟨rfl, rfl⟩; rw [HB.out]))
      go_ret
      refine ⟨by rw [SR.out]; rfl, ?_⟩
      repeat' (first | exact Q.refl _ | refine Q.alloc ?_ _ | refine Q.jk ?_ _ | refine Q.drew ?_)
    · have SR : Hid (scaledR 1152921504606846976 n k = 1152921504606846976 + 1) := Lib.hid (by unfold scaledR; rw [if_neg hl])
      have HB : Hid ((decide (-1152921504606846976 ≤ n * k) && decide (n * k ≤ 1152921504606846976)) = false) := Lib.hid (by rw [Bool.eq_false_iff]; simp; omega)
      clear hl
      go_enter Try.func67, Try.ntmps67
      go_wp2_with (first
       | (go_at_call 60; first | ((with_reducible refine (OF1.out _).mono ?_); rintro e w' ⟨A1, n1, c1, k1, rfl, rfl, hr1, hf1⟩; have HR1 := Lib.hid hr1; clear hr1 hf1) | ((with_reducible refine (OF2.out _).mono ?_); rintro e w' ⟨A2, n2, c2, k2, rfl, rfl, hr2, hf2⟩; have HR2 := Lib.hid hr2; clear hr2 hf2))
       | (go_at_call 91; refine (r2prod_z _ _ _ _ n _ _ _ _ k _ rfl (HR1.out.q (by repeat' (first | exact Q.refl _ | refine Q.alloc ?_ _ | refine Q.jk ?_ _ | refine Q.drew ?_))) S1.out rfl (HR2.out.q (by repeat' (first | exact Q.refl _ | refine Q.alloc ?_ _ | refine Q.jk ?_ _ | refine Q.drew ?_))) S2.out S3.out).mono ?_; rintro e w' ⟨A3, n3, c3, k3, rfl, rfl, hr3, hf3⟩; have HR3 := Lib.hid hr3; clear hr3 hf3)
       | (go_at_call 94; refine (r1small_z _ _ _ _ (n * k) _ rfl (HR3.out.q (by repeat' (first | exact Q.refl _ | refine Q.alloc ?_ _ | refine Q.jk ?_ _ | refine Q.drew ?_))) S3.out).mono ?_; rintro e w' ⟨rfl, kj, rfl⟩; rw [SM.out]) | (go_at_call 66; refine (r2between_any _ _ _ _).mono ?_; rintro e w' ⟨rfl, rfl⟩; rw [HB.out]))
      go_ret
      refine ⟨by rw [SR.out]; rfl, ?_⟩
      repeat' (first | exact Q.refl _ | refine Q.alloc ?_ _ | refine Q.jk ?_ _ | refine Q.drew ?_)
  · have SM : Hid (smallR (n * k) = (0, false)) := Lib.hid (by unfold smallR; rw [if_neg hf])
    have SR : Hid (scaledR 1152921504606846976 n k = 1152921504606846976 + 1) := Lib.hid (by unfold scaledR; rw [if_neg (by omega)])
    clear hf
    go_enter Try.func67, Try.ntmps67
    go_wp2_with (first
     | (go_at_call 60; first | ((with_reducible refine (OF1.out _).mono ?_); rintro e w' ⟨A1, n1, c1, k1, rfl, rfl, hr1, hf1⟩; have HR1 := Lib.hid hr1; clear hr1 hf1) | ((with_reducible refine (OF2.out _).mono ?_); rintro e w' ⟨A2, n2, c2, k2, rfl, rfl, hr2, hf2⟩; have HR2 := Lib.hid hr2; clear hr2 hf2))
     | (go_at_call 91; refine (r2prod_z _ _ _ _ n _ _ _ _ k _ rfl (HR1.out.q (by repeat' (first | exact Q.refl _ | refine Q.alloc ?_ _ | refine Q.jk ?_ _ | refine Q.drew ?_))) S1.out rfl (HR2.out.q (by repeat' (first | exact Q.refl _ | refine Q.alloc ?_ _ | refine Q.jk ?_ _ | refine Q.drew ?_))) S2.out S3.out).mono ?_; rintro e w' ⟨A3, n3, c3, k3, rfl, rfl, hr3, hf3⟩; have HR3 := Lib.hid hr3; clear hr3 hf3)
     | (go_at_call 94; refine (r1small_z _ _ _ _ (n * k) _ rfl (HR3.out.q (by repeat' (first | exact Q.refl _ | refine Q.alloc ?_ _ | refine Q.jk ?_ _ | refine Q.drew ?_))) S3.out).mono ?_; rintro e w' ⟨rfl, kj, rfl⟩; rw [SM.out]) | (go_at_call 66; refine (r2between_any _ _ _ _).mono ?_; rintro e w' ⟨rfl, rfl⟩; rw [HB.out]))
    go_ret
    refine ⟨by rw [SR.out]; rfl, ?_⟩
    repeat' (first | exact Q.refl _ | refine Q.alloc ?_ _ | refine Q.jk ?_ _ | refine Q.drew ?_)
theorem limS_scaled (a b k : Int) : limS ⟨scaledR 1152921504606846976 a k, scaledR 1152921504606846976 b k⟩ = limS ⟨a * k, b * k⟩ := by
  by_cases h : wi2 1152921504606846976 (a * k) (b * k) = true
  · have h1 := (wi2_iff _ _ _).1 h
    rw [show scaledR 1152921504606846976 a k = a * k by unfold scaledR; rw [if_pos (by omega)], show scaledR 1152921504606846976 b k = b * k by unfold scaledR; rw [if_pos (by omega)]]
  · have h2 : wi2 1152921504606846976 (scaledR 1152921504606846976 a k) (scaledR 1152921504606846976 b k) = false := by
      cases e : wi2 1152921504606846976 (scaledR 1152921504606846976 a k) (scaledR 1152921504606846976 b k)
      · rfl
      · exfalso
        have h1 := (wi2_iff _ _ _).1 e
        unfold scaledR at h1
        refine h ((wi2_iff _ _ _).2 ?_)
        by_cases ha : -1152921504606846976 ≤ a * k ∧ a * k ≤ 1152921504606846976
        · by_cases hb : -1152921504606846976 ≤ b * k ∧ b * k ≤ 1152921504606846976
          · omega
          · rw [if_neg hb] at h1; omega
        · rw [if_neg ha] at h1; omega
    have h3 : wi2 1152921504606846976 (a * k) (b * k) = false := by simpa using h
    simp [limS, h2, h3]
set_option maxHeartbeats 2000000 in
theorem r2scale_any (a b k : Int) (w : World) :
    Calls Try.prog 31 #[.agg #[.int .i64 a, .int .i64 b], .int .i64 k] w fun e w' => e = .returned (.tuple #[.agg #[.int .i64 (sscaleR ⟨a, b⟩ k).v.a, .int .i64 (sscaleR ⟨a, b⟩ k).v.b], .int .i64 (sscaleR ⟨a, b⟩ k).e]) ∧ Q w w' := by
  by_cases h : wi3 1152921504606846976 a b k = true
  · obtain ⟨l1, l2, l3, l4, l5, l6⟩ := (wi3_iff _ _ _ _).1 h
    have hR : sscaleR ⟨a, b⟩ k = limS ⟨scaledR 1152921504606846976 a k, scaledR 1152921504606846976 b k⟩ := by rw [limS_scaled]; simp [sscaleR, h]
    rw [hR]
    have h1 : wi2 1152921504606846976 a b = true := (wi2_iff _ _ _).2 (by omega)
    have HB : Hid ((decide (-1152921504606846976 ≤ k) && decide (k ≤ 1152921504606846976)) = true) := Lib.hid (by simp; omega)
    clear hR h
    go_enter Try.func31, Try.ntmps31
    go_wp2_with (first | (go_at_call 63; refine (r2within_any _ _ 1152921504606846976 _ (by omega) (by omega)).mono ?_; rintro e w' ⟨rfl, kj, rfl⟩) | (go_at_call 66; refine (r2between_any _ _ _ _).mono ?_; rintro e w' ⟨rfl, rfl⟩; rw [HB.out]))
    refine wp_region_tail 12 (by kernel_rfl) (by kernel_rfl) ?_
    simp only [List.take_succ_cons, List.take_zero, List.drop_succ_cons, List.drop_zero]
    repeat (go_big_quiet_step (first | (go_at_call 67; exact Calls.jk_of (r2scaled_any _ _ _ (by omega) (by omega) (by omega) (by omega))) | (go_at_call 64; exact Calls.jk_of (r2result_any _ _ _))))
    refine wpQuiet_nil ?_
    intro _ hw'
    obtain ⟨kq, rfl⟩ := hw'
    go_wp2
    refine bodyPost_ret (v := .tuple #[.agg #[.int .i64 (limS ⟨scaledR 1152921504606846976 a k, scaledR 1152921504606846976 b k⟩).v.a, .int .i64 (limS ⟨scaledR 1152921504606846976 a k, scaledR 1152921504606846976 b k⟩).v.b], .int .i64 (limS ⟨scaledR 1152921504606846976 a k, scaledR 1152921504606846976 b k⟩).e]) (by simp [results, Try.results31, go_sem]) rfl ⟨rfl, ?_⟩
    repeat' (first | exact Q.refl _ | refine Q.alloc ?_ _ | refine Q.jk ?_ _ | refine Q.drew ?_)
  · have hR : sscaleR ⟨a, b⟩ k = ⟨zeroS, 1⟩ := by simp [sscaleR, h]
    rw [hR]
    clear hR
    by_cases h1 : wi2 1152921504606846976 a b = true
    · have HB : Hid ((decide (-1152921504606846976 ≤ k) && decide (k ≤ 1152921504606846976)) = false) := Lib.hid (by
        rw [Bool.eq_false_iff]
        intro e
        simp at e
        have k1 := (wi2_iff _ _ _).1 h1
        exact h ((wi3_iff _ _ _ _).2 (by omega)))
      clear h
      go_enter Try.func31, Try.ntmps31
      go_wp2_with (first | (go_at_call 63; refine (r2within_any _ _ 1152921504606846976 _ (by omega) (by omega)).mono ?_; rintro e w' ⟨rfl, kj, rfl⟩) | (go_at_call 66; refine (r2between_any _ _ _ _).mono ?_; rintro e w' ⟨rfl, rfl⟩; rw [HB.out]))
      refine bodyPost_ret (v := .tuple #[.agg #[.int .i64 (R2.mk zeroS 1).v.a, .int .i64 (R2.mk zeroS 1).v.b], .int .i64 (R2.mk zeroS 1).e]) (by simp [results, Try.results31, go_sem, zeroS]) rfl ⟨rfl, ?_⟩
      repeat' (first | exact Q.refl _ | refine Q.alloc ?_ _ | refine Q.jk ?_ _ | refine Q.drew ?_)
    · have h1 : wi2 1152921504606846976 a b = false := by simpa using h1
      clear h
      go_enter Try.func31, Try.ntmps31
      go_wp2_with (go_at_call 63; refine (r2within_any _ _ 1152921504606846976 _ (by omega) (by omega)).mono ?_; rintro e w' ⟨rfl, kj, rfl⟩)
      refine bodyPost_ret (v := .tuple #[.agg #[.int .i64 (R2.mk zeroS 1).v.a, .int .i64 (R2.mk zeroS 1).v.b], .int .i64 (R2.mk zeroS 1).e]) (by simp [results, Try.results31, go_sem, zeroS]) rfl ⟨rfl, ?_⟩
      repeat' (first | exact Q.refl _ | refine Q.alloc ?_ _ | refine Q.jk ?_ _ | refine Q.drew ?_)
end Go.Proofs.Ytkkjifgcjfbcaaa
