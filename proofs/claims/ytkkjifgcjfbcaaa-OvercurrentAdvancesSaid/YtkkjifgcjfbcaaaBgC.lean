
/- What Valid, made, digits, Of, result, Compare, Sign and Mul of package substationref01 return. -/
import Derived.Test.YtkkjifgcjfbcaaaBgB
import Derived.Test.YtkkjifgcjfbcaaaSuM
import Derived.Deep.RegionHeld3
import Derived.Laws.Bits64
namespace Go.Sub
/-- An integer of few digits. -/
def Sm (z : Int) : Prop := (z.natAbs : Int) < wt 12
theorem Sm.len {z : Int} (h : Sm z) : (dig z.natAbs).length ≤ 12 := dig_length_le h
theorem Sm.of {z : Int} (h0 : -39402006196394479212279040100143613805079739270465446667948293404245721771497210611414266254884915640806627990306816 < z) (h1 : z < 39402006196394479212279040100143613805079739270465446667948293404245721771497210611414266254884915640806627990306816) : Sm z := by
  have : wt 12 = 39402006196394479212279040100143613805079739270465446667948293404245721771497210611414266254884915640806627990306816 := by decide
  unfold Sm
  rw [this]
  omega
theorem dval_dg (z : Int) : dval (dig z.natAbs) = (z.natAbs : Int) := dval_dig _
theorem cmpI_neg (x y : Int) : cmpI (-x) (-y) = cmpI y x := by unfold cmpI; repeat' split <;> omega
theorem trL_dig (n : Nat) : trL (dig n) = dig n := by unfold trL; rw [dval_dig]; rfl
theorem trL_two (u : Int) (_ : 0 ≤ u) (_ : u < 18446744073709551616) : trL [u % 4294967296, u / 4294967296] = dig u.toNat := by
  unfold trL
  congr 2
  simp only [dval]
  omega
theorem ones_xor (n : Nat) (h : n < 2 ^ 64) : (2 ^ 64 - 1) ^^^ n = 2 ^ 64 - 1 - n := by
  apply Nat.eq_of_testBit_eq
  intro i
  rw [Nat.testBit_xor, Nat.testBit_two_pow_sub_one, show 2 ^ 64 - 1 - n = 2 ^ 64 - (n + 1) by omega, Nat.testBit_two_pow_sub_succ h]
  by_cases hi : i < 64
  · simp [hi]
  · simp only [hi, decide_false, Bool.false_xor, Bool.false_and]
    exact Nat.testBit_lt_two_pow (Nat.lt_of_lt_of_le h (Nat.pow_le_pow_right (by omega) (by omega)))
theorem not64 (x : Int) (h0 : 0 ≤ x) (h1 : x < 18446744073709551616) : bits .xor .u64 IntKind.u64.max x = 18446744073709551615 - x := by
  obtain ⟨n, rfl⟩ := Int.eq_ofNat_of_zero_le h0
  have hm : IntKind.u64.max = ((18446744073709551615 : Nat) : Int) := by decide
  rw [hm, bits_xor_u64_nat _ _ (by omega) (by omega)]
  have := ones_xor n (by omega)
  rw [show (2 ^ 64 - 1 : Nat) = 18446744073709551615 by decide] at this
  rw [this]
  omega
theorem neg64 {z : Int} (h0 : -9223372036854775808 ≤ z) (h1 : z < 0) : IntKind.u64.wrap (bits .xor .u64 IntKind.u64.max (IntKind.u64.wrap z) + 1) = -z := by
  rw [IntKind.wrap_u64 z, not64 _ (by omega) (by omega), IntKind.wrap_u64]
  omega
theorem dig_len2 {z : Int} (h0 : 0 ≤ z) (h1 : z < 18446744073709551616) : (dig z.toNat).length ≤ 2 := dig_length_le (by
  have : wt 2 = 18446744073709551616 := by decide
  rw [this]
  omega)
theorem cmp_signs {x y : Int} (h : x < 0) (h' : 0 ≤ y) : cmpI x y = -1 := by unfold cmpI; split <;> omega
theorem cmp_signs' {x y : Int} (h : 0 ≤ x) (h' : y < 0) : cmpI x y = 1 := by unfold cmpI; repeat' split <;> omega
theorem cmp_abs {x y : Int} (h : 0 ≤ x) (h' : 0 ≤ y) : cmpI (x.natAbs : Int) (y.natAbs : Int) = cmpI x y := by
  rw [show (x.natAbs : Int) = x by omega, show (y.natAbs : Int) = y by omega]
theorem cmp_abs' {x y : Int} (h : x < 0) (h' : y < 0) : cmpI (y.natAbs : Int) (x.natAbs : Int) = cmpI x y := by
  rw [show (x.natAbs : Int) = -x by omega, show (y.natAbs : Int) = -y by omega, cmpI_neg]
theorem cmp_zero (x : Int) : cmpI x 0 = sgn x := by unfold cmpI sgn; rfl
end Go.Sub
namespace Go
open Go.Sub
def RetZ (z : Int) (w : World) (e : Ending) (w' : World) : Prop := RetI (decide (z < 0)) (dig z.natAbs) w e w'
def RetZ2 (z : Int) (w : World) (e : Ending) (w' : World) : Prop := RetI2 (decide (z < 0)) (dig z.natAbs) w e w'
end Go
namespace Go.Proofs.Ytkkjifgcjfbcaaa
open Go.RowKit Go.Sub
set_option maxRecDepth 100000 in
set_option maxHeartbeats 1000000 in
theorem r1valid_z (b : Bool) (A : Option Addr) (n c : Nat) (z : Int) (w : World) (hb : b = decide (z < 0)) (h : Rd w A n c (dig z.natAbs)) (hz : Sm z) :
    Calls Try.prog 106 #[.agg #[.bool b, .slice A n c]] w fun e w' => e = .returned (.bool true) ∧ Q w w' := by
  have hl := h.1
  have hs := hz.len
  rcases Nat.decEq n 0 with hn | hn
  · obtain ⟨j, rfl⟩ : ∃ j, n = j + 1 := ⟨n - 1, by omega⟩
    obtain ⟨g, rfl, hOld, hc⟩ := h.at_ (by omega)
    have ht := (dig_Tr z.natAbs).resolve_left (fun e => by rw [e] at hl; simp at hl)
    rw [hl] at ht
    have hcj := hc.out j (by omega)
    obtain ⟨x, ex⟩ : ∃ x, (dig z.natAbs).getD j 0 = x := ⟨_, rfl⟩
    rw [ex] at hcj
    have hx : (x != 0) = true := by
      have : x ≠ 0 := by rw [← ex]; exact ht
      simpa using this
    have hj : j < 400 := by omega
    clear ht ex hc h hl hs hb hz
    go_enter Try.func106, Try.ntmps106
    go_wp2
    go_ret
    refine ⟨rfl, ?_⟩
    repeat' (first | exact Q.refl _ | refine Q.alloc ?_ _ | refine Q.jk ?_ _ | refine Q.drew ?_)
  · subst hn
    have hz0 : z = 0 := by
      have := dig_nil.1 (List.eq_nil_of_length_eq_zero hl)
      omega
    subst hz0
    obtain rfl : b = false := by simpa using hb
    clear h hl hs hb hz
    go_enter Try.func106, Try.ntmps106
    go_wp2
    go_ret
    refine ⟨rfl, ?_⟩
    repeat' (first | exact Q.refl _ | refine Q.alloc ?_ _ | refine Q.jk ?_ _ | refine Q.drew ?_)
set_option maxHeartbeats 1000000 in
theorem r1made_any (b : Bool) (A : Option Addr) (n c : Nat) (l : List Int) (w : World) (h : Rd w A n c l) (hd : Dg l) (hn : n < 100000) :
    Calls Try.prog 92 #[.bool b, .slice A n c] w (RetI (b && decide (trL l ≠ [])) (trL l) w) := by
  have HR := Lib.hid h
  clear h
  cases b
  · rw [Bool.false_and]
    go_enter Try.func92, Try.ntmps92
    go_wp2_with (go_at_call 109; refine (r1trim_any _ _ _ l _ (HR.out.q ((Q.refl _).alloc _)) hd hn).mono ?_; rintro e w' ⟨A', n', c', k', rfl, rfl, hr', hf'⟩; have HR' := Lib.hid hr'; have HF' := Lib.hid hf'; clear hr' hf')
    refine bodyPost_ret (v := .agg #[.bool false, .slice A' n' c']) (by simp [results, Try.results92, go_sem]) rfl (RetI.of (A := A') (n := n') (c := c') rfl ?_ (Rd.swap (W := w.alloc (.cells #[.bool false, .slice none 0 0] 71)) (by simp) HR'.out HF'.out) (HF'.out.q ((Q.refl _).alloc _)))
    repeat' (first | exact Q.refl _ | refine Q.alloc ?_ _ | refine Q.jk ?_ _ | refine Q.drew ?_)
  · rw [Bool.true_and]
    by_cases ht : trL l = []
    · have HT := Lib.hid ht
      rw [show decide (trL l ≠ []) = false by simp [ht]]
      clear ht
      go_enter Try.func92, Try.ntmps92
      go_wp2_with (go_at_call 109; refine (r1trim_any _ _ _ l _ (HR.out.q ((Q.refl _).alloc _)) hd hn).mono ?_; rintro e w' ⟨A', n', c', k', rfl, rfl, hr', hf'⟩; have HR' := Lib.hid hr'; have HF' := Lib.hid hf'; clear hr' hf'; obtain rfl : n' = 0 := by (have h1 := HR'.out.1; rw [HT.out] at h1; exact h1.symm))
      refine bodyPost_ret (v := .agg #[.bool false, .slice A' 0 c']) (by simp [results, Try.results92, go_sem]) rfl (RetI.of (A := A') (n := 0) (c := c') rfl ?_ (Rd.swap (W := w.alloc (.cells #[.bool false, .slice none 0 0] 71)) (by simp) HR'.out HF'.out) (HF'.out.q ((Q.refl _).alloc _)))
      repeat' (first | exact Q.refl _ | refine Q.alloc ?_ _ | refine Q.jk ?_ _ | refine Q.drew ?_)
    · have HT := Lib.hid ht
      rw [show decide (trL l ≠ []) = true by simp [ht]]
      clear ht
      go_enter Try.func92, Try.ntmps92
      go_wp2_with (go_at_call 109; refine (r1trim_any _ _ _ l _ (HR.out.q ((Q.refl _).alloc _)) hd hn).mono ?_; rintro e w' ⟨A', n', c', k', rfl, rfl, hr', hf'⟩; have HR' := Lib.hid hr'; have HF' := Lib.hid hf'; clear hr' hf'; have hn' : 0 < n' := by (rcases Nat.eq_zero_or_pos n' with h0 | h0; exact absurd (List.eq_nil_of_length_eq_zero (HR'.out.1.trans h0)) HT.out; exact h0))
      refine bodyPost_ret (v := .agg #[.bool true, .slice A' n' c']) (by simp [results, Try.results92, go_sem]) rfl (RetI.of (A := A') (n := n') (c := c') rfl ?_ (Rd.swap (W := w.alloc (.cells #[.bool false, .slice none 0 0] 71)) (by simp) HR'.out HF'.out) (HF'.out.q ((Q.refl _).alloc _)))
      repeat' (first | exact Q.refl _ | refine Q.alloc ?_ _ | refine Q.jk ?_ _ | refine Q.drew ?_)
set_option maxHeartbeats 1000000 in
theorem r1digits_any (u : Int) (w : World) (h0 : 0 ≤ u) (h1 : u < 18446744073709551616) :
    Calls Try.prog 93 #[.int .u64 u] w (RetS (dig u.toNat) w) := by
  have HT := Lib.hid (trL_two u h0 h1)
  have HD : Hid (Dg [u % 4294967296, u / 4294967296]) := Lib.hid (Dg.cons (by omega) (by omega) (Dg.cons (by omega) (by omega) Dg.nil))
  go_enter Try.func93, Try.ntmps93
  go_wp2_with (go_at_call 109; refine (r1trim_any _ _ _ [u % 4294967296, u / 4294967296] _ (Rd.two _ _ _ _) HD.out (by decide)).mono ?_; rintro e w' ⟨A', n', c', k', rfl, rfl, hr', hf'⟩)
  go_ret
  refine RetS.of (A := A') (n := n') (c := c') rfl ?_ (by rw [← HT.out]; exact hr') (hf'.q ((Q.refl _).alloc _))
  repeat' (first | exact Q.refl _ | refine Q.alloc ?_ _ | refine Q.jk ?_ _ | refine Q.drew ?_)
set_option maxHeartbeats 1000000 in
theorem r1of_any (z : Int) (w : World) (h0 : -9223372036854775808 ≤ z) (h1 : z ≤ 9223372036854775807) :
    Calls Try.prog 60 #[.int .i64 z] w (RetZ z w) := by
  by_cases hz : z < 0
  · have HB : Hid ((true && decide (trL (dig (-z).toNat) ≠ [])) = decide (z < 0)) := Lib.hid (by
      rw [trL_dig, Bool.true_and]
      have : dig (-z).toNat ≠ [] := fun e => by have := dig_nil.1 e; omega
      simp [this, hz])
    have HN := Lib.hid (neg64 h0 hz)
    have HE : Hid (trL (dig (-z).toNat) = dig z.natAbs) := Lib.hid (by rw [trL_dig]; congr 1; omega)
    go_enter Try.func60, Try.ntmps60
    go_wp2_with (first | (go_at_call 93; rw [HN.out]; refine (r1digits_any (-z) _ (by omega) (by omega)).mono ?_; rintro e w' ⟨A1, n1, c1, k1, rfl, rfl, hr1, hf1⟩; have HR1 := Lib.hid hr1; have HF1 := Lib.hid hf1; have HL1 : n1 ≤ 2 := (by rw [← hr1.1]; exact dig_len2 (by omega) (by omega)); clear hr1 hf1) | (go_at_call 92; refine (r1made_any true _ _ _ _ _ HR1.out (dig_Dg _) (by omega)).mono ?_; rintro e w' ⟨A2, n2, c2, k2, rfl, rfl, hr2, hf2⟩; have HR2 := Lib.hid hr2; have HF2 := Lib.hid hf2; clear hr2 hf2; rw [HB.out]))
    refine bodyPost_ret (v := .agg #[.bool (decide (z < 0)), .slice A2 n2 c2]) (by simp [results, Try.results60, go_sem, hz]) rfl (RetI.of (A := A2) (n := n2) (c := c2) rfl ?_ ?_ (HF2.out.q (((Q.refl _).alloc _).jk _)))
    · repeat' (first | exact Q.refl _ | refine Q.alloc ?_ _ | refine Q.jk ?_ _ | refine Q.drew ?_)
    · have := HR2.out
      rw [HE.out] at this
      exact this.swap2 (by simp) (HF2.out.q ((Q.refl _).jk _))
  · have HB : Hid ((false && decide (trL (dig z.toNat) ≠ [])) = decide (z < 0)) := Lib.hid (by simp; omega)
    have HE : Hid (trL (dig z.toNat) = dig z.natAbs) := Lib.hid (by rw [trL_dig]; congr 1; omega)
    go_enter Try.func60, Try.ntmps60
    go_wp2_with (first | (go_at_call 93; refine (r1digits_any z _ (by omega) (by omega)).mono ?_; rintro e w' ⟨A1, n1, c1, k1, rfl, rfl, hr1, hf1⟩; have HR1 := Lib.hid hr1; have HF1 := Lib.hid hf1; have HL1 : n1 ≤ 2 := (by rw [← hr1.1]; exact dig_len2 (by omega) (by omega)); clear hr1 hf1) | (go_at_call 92; refine (r1made_any false _ _ _ _ _ HR1.out (dig_Dg _) (by omega)).mono ?_; rintro e w' ⟨A2, n2, c2, k2, rfl, rfl, hr2, hf2⟩; have HR2 := Lib.hid hr2; have HF2 := Lib.hid hf2; clear hr2 hf2; rw [HB.out]))
    refine bodyPost_ret (v := .agg #[.bool (decide (z < 0)), .slice A2 n2 c2]) (by simp [results, Try.results60, go_sem]) rfl (RetI.of (A := A2) (n := n2) (c := c2) rfl ?_ ?_ (HF2.out.q (((Q.refl _).alloc _).jk _)))
    · repeat' (first | exact Q.refl _ | refine Q.alloc ?_ _ | refine Q.jk ?_ _ | refine Q.drew ?_)
    · have := HR2.out
      rw [HE.out] at this
      exact this.swap2 (by simp) (HF2.out.q ((Q.refl _).jk _))
set_option maxHeartbeats 1000000 in
theorem r1result_any (b : Bool) (A : Option Addr) (n c : Nat) (w : World) (h : n ≤ 400) :
    Calls Try.prog 121 #[.agg #[.bool b, .slice A n c]] w fun e w' => e = .returned (.tuple #[.agg #[.bool b, .slice A n c], .int .i64 0]) ∧ Q w w' := by
  go_enter Try.func121, Try.ntmps121
  go_wp2
  refine bodyPost_ret (v := .tuple #[.agg #[.bool b, .slice A n c], .int .i64 0]) (by simp [results, Try.results121, go_sem]) rfl ⟨rfl, ?_⟩
  repeat' (first | exact Q.refl _ | refine Q.alloc ?_ _ | refine Q.jk ?_ _ | refine Q.drew ?_)
set_option maxHeartbeats 1000000 in
theorem r1cmp_z (b : Bool) (A : Option Addr) (n c : Nat) (x : Int) (b' : Bool) (B : Option Addr) (m d : Nat) (y : Int) (w : World) (bx : b = decide (x < 0)) (rx : Rd w A n c (dig x.natAbs)) (hx : Sm x) (by' : b' = decide (y < 0)) (ry : Rd w B m d (dig y.natAbs)) (hy : Sm y) :
    Calls Try.prog 90 #[.agg #[.bool b, .slice A n c], .agg #[.bool b', .slice B m d]] w fun e w' => e = .returned (.int .i64 (cmpI x y)) ∧ Q w w' := by
  have ln : n ≤ 12 := by rw [← rx.1]; exact hx.len
  have lm : m ≤ 12 := by rw [← ry.1]; exact hy.len
  have HX := Lib.hid rx
  have HY := Lib.hid ry
  have BX := Lib.hid bx
  have BY := Lib.hid by'
  clear rx ry
  cases b <;> cases b'
  · have hx0 : 0 ≤ x := by simpa using bx
    have hy0 : 0 ≤ y := by simpa using by'
    have E := Lib.hid (cmp_abs hx0 hy0)
    clear bx by' hx0 hy0
    go_enter Try.func90, Try.ntmps90
    go_wp2_with (first | (go_at_call 106; first | ((with_reducible refine (r1valid_z _ _ _ _ x _ BX.out (HX.out.q (by repeat' (first | exact Q.refl _ | refine Q.alloc ?_ _ | refine Q.jk ?_ _ | refine Q.drew ?_))) hx).mono ?_); rintro e w' ⟨rfl, kj, rfl⟩) | ((with_reducible refine (r1valid_z _ _ _ _ y _ BY.out (HY.out.q (by repeat' (first | exact Q.refl _ | refine Q.alloc ?_ _ | refine Q.jk ?_ _ | refine Q.drew ?_))) hy).mono ?_); rintro e w' ⟨rfl, kj, rfl⟩)) | (go_at_call 107; refine (r1compare_any _ _ _ (dig x.natAbs) _ _ _ (dig y.natAbs) _ (HX.out.q (by repeat' (first | exact Q.refl _ | refine Q.alloc ?_ _ | refine Q.jk ?_ _ | refine Q.drew ?_))) (HY.out.q (by repeat' (first | exact Q.refl _ | refine Q.alloc ?_ _ | refine Q.jk ?_ _ | refine Q.drew ?_))) (dig_Dg _) (dig_Dg _) (dig_Tr _) (dig_Tr _) (by omega) (by omega)).mono ?_; rintro e w' ⟨rfl, kj, rfl⟩))
    go_ret
    refine ⟨by rw [← E.out, ← dval_dg, ← dval_dg]; rfl, ?_⟩
    repeat' (first | exact Q.refl _ | refine Q.alloc ?_ _ | refine Q.jk ?_ _ | refine Q.drew ?_)
  · have hx0 : 0 ≤ x := by simpa using bx
    have hy0 : y < 0 := by simpa using by'
    have E := Lib.hid (cmp_signs' hx0 hy0)
    clear bx by' hx0 hy0
    go_enter Try.func90, Try.ntmps90
    go_wp2_with (go_at_call 106; first | ((with_reducible refine (r1valid_z _ _ _ _ x _ BX.out (HX.out.q (by repeat' (first | exact Q.refl _ | refine Q.alloc ?_ _ | refine Q.jk ?_ _ | refine Q.drew ?_))) hx).mono ?_); rintro e w' ⟨rfl, kj, rfl⟩) | ((with_reducible refine (r1valid_z _ _ _ _ y _ BY.out (HY.out.q (by repeat' (first | exact Q.refl _ | refine Q.alloc ?_ _ | refine Q.jk ?_ _ | refine Q.drew ?_))) hy).mono ?_); rintro e w' ⟨rfl, kj, rfl⟩))
    go_ret
    refine ⟨by rw [E.out]; rfl, ?_⟩
    repeat' (first | exact Q.refl _ | refine Q.alloc ?_ _ | refine Q.jk ?_ _ | refine Q.drew ?_)
  · have hx0 : x < 0 := by simpa using bx
    have hy0 : 0 ≤ y := by simpa using by'
    have E := Lib.hid (cmp_signs hx0 hy0)
    clear bx by' hx0 hy0
    go_enter Try.func90, Try.ntmps90
    go_wp2_with (go_at_call 106; first | ((with_reducible refine (r1valid_z _ _ _ _ x _ BX.out (HX.out.q (by repeat' (first | exact Q.refl _ | refine Q.alloc ?_ _ | refine Q.jk ?_ _ | refine Q.drew ?_))) hx).mono ?_); rintro e w' ⟨rfl, kj, rfl⟩) | ((with_reducible refine (r1valid_z _ _ _ _ y _ BY.out (HY.out.q (by repeat' (first | exact Q.refl _ | refine Q.alloc ?_ _ | refine Q.jk ?_ _ | refine Q.drew ?_))) hy).mono ?_); rintro e w' ⟨rfl, kj, rfl⟩))
    go_ret
    refine ⟨by rw [E.out]; rfl, ?_⟩
    repeat' (first | exact Q.refl _ | refine Q.alloc ?_ _ | refine Q.jk ?_ _ | refine Q.drew ?_)
  · have hx0 : x < 0 := by simpa using bx
    have hy0 : y < 0 := by simpa using by'
    have E := Lib.hid (cmp_abs' hx0 hy0)
    clear bx by' hx0 hy0
    go_enter Try.func90, Try.ntmps90
    go_wp2_with (first | (go_at_call 106; first | ((with_reducible refine (r1valid_z _ _ _ _ x _ BX.out (HX.out.q (by repeat' (first | exact Q.refl _ | refine Q.alloc ?_ _ | refine Q.jk ?_ _ | refine Q.drew ?_))) hx).mono ?_); rintro e w' ⟨rfl, kj, rfl⟩) | ((with_reducible refine (r1valid_z _ _ _ _ y _ BY.out (HY.out.q (by repeat' (first | exact Q.refl _ | refine Q.alloc ?_ _ | refine Q.jk ?_ _ | refine Q.drew ?_))) hy).mono ?_); rintro e w' ⟨rfl, kj, rfl⟩)) | (go_at_call 107; refine (r1compare_any _ _ _ (dig y.natAbs) _ _ _ (dig x.natAbs) _ (HY.out.q (by repeat' (first | exact Q.refl _ | refine Q.alloc ?_ _ | refine Q.jk ?_ _ | refine Q.drew ?_))) (HX.out.q (by repeat' (first | exact Q.refl _ | refine Q.alloc ?_ _ | refine Q.jk ?_ _ | refine Q.drew ?_))) (dig_Dg _) (dig_Dg _) (dig_Tr _) (dig_Tr _) (by omega) (by omega)).mono ?_; rintro e w' ⟨rfl, kj, rfl⟩))
    go_ret
    refine ⟨by rw [← E.out, ← dval_dg, ← dval_dg]; rfl, ?_⟩
    repeat' (first | exact Q.refl _ | refine Q.alloc ?_ _ | refine Q.jk ?_ _ | refine Q.drew ?_)
set_option maxHeartbeats 1000000 in
theorem r1sign_z (b : Bool) (A : Option Addr) (n c : Nat) (x : Int) (w : World) (bx : b = decide (x < 0)) (rx : Rd w A n c (dig x.natAbs)) (hx : Sm x) :
    Calls Try.prog 89 #[.agg #[.bool b, .slice A n c]] w fun e w' => e = .returned (.int .i64 (sgn x)) ∧ Q w w' := by
  have HX := Lib.hid rx
  have BX := Lib.hid bx
  have HZ : ∀ w, Rd w none 0 0 (dig (0 : Int).natAbs) := fun w => by rw [show (0 : Int).natAbs = 0 from rfl, dig_zero]; exact Rd.nil w
  have HZ' := Lib.hid HZ
  clear rx bx HZ
  rw [← cmp_zero]
  go_enter Try.func89, Try.ntmps89
  go_wp2_with (go_at_call 90; refine (r1cmp_z _ _ _ _ x _ _ _ _ 0 _ BX.out (HX.out.q (by repeat' (first | exact Q.refl _ | refine Q.alloc ?_ _ | refine Q.jk ?_ _ | refine Q.drew ?_))) hx (by decide) (HZ'.out _) (Sm.of (by decide) (by decide))).mono ?_; rintro e w' ⟨rfl, kj, rfl⟩)
  go_ret
  refine ⟨rfl, ?_⟩
  repeat' (first | exact Q.refl _ | refine Q.alloc ?_ _ | refine Q.jk ?_ _ | refine Q.drew ?_)
theorem mul_sgn {x y : Int} (l : List Int) (hl : l = dig (x * y).natAbs) : ((decide (x < 0) != decide (y < 0)) && decide (l ≠ [])) = decide (x * y < 0) := by
  have e : (l ≠ []) ↔ x * y ≠ 0 := by rw [hl, Ne, dig_nil]; omega
  rw [Bool.eq_iff_iff]
  simp only [Bool.and_eq_true, bne_iff_ne, ne_eq, decide_eq_decide, decide_eq_true_eq, e]
  rcases Int.lt_trichotomy x 0 with hx | hx | hx <;> rcases Int.lt_trichotomy y 0 with hy | hy | hy
  · have := Int.mul_pos_of_neg_of_neg hx hy; generalize x * y = p at *; omega
  · subst hy; simp
  · have := Int.mul_neg_of_neg_of_pos hx hy; generalize x * y = p at *; omega
  · subst hx; simp
  · subst hx; simp
  · subst hx; simp
  · have := Int.mul_neg_of_pos_of_neg hx hy; generalize x * y = p at *; omega
  · subst hy; simp
  · have := Int.mul_pos hx hy; generalize x * y = p at *; omega
theorem mul_dig (x y : Int) : (dval (dig x.natAbs) * dval (dig y.natAbs)).toNat = (x * y).natAbs := by
  rw [dval_dg, dval_dg, Int.natAbs_mul]
  omega
set_option maxHeartbeats 2000000 in
theorem r1mul_b (b : Bool) (A : Option Addr) (n c : Nat) (x : Int) (b' : Bool) (B : Option Addr) (m d : Nat) (y : Int) (w : World) (bx : b = decide (x < 0)) (rx : Rd w A n c (dig x.natAbs)) (hx : Sm x) (by' : b' = decide (y < 0)) (ry : Rd w B m d (dig y.natAbs)) (hy : Sm y) (hxy : Sm (x * y)) :
    Calls Try.prog 108 #[.agg #[.bool b, .slice A n c], .agg #[.bool b', .slice B m d]] w (RetZ2 (x * y) w) := by
  have ln : n ≤ 12 := by rw [← rx.1]; exact hx.len
  have lm : m ≤ 12 := by rw [← ry.1]; exact hy.len
  have HX := Lib.hid rx
  have HY := Lib.hid ry
  have BX := Lib.hid bx
  have BY := Lib.hid by'
  have HL := Lib.hid hxy.len
  have HD := Lib.hid (mul_dig x y)
  have HT : Hid (trL (dig (dval (dig x.natAbs) * dval (dig y.natAbs)).toNat) = dig (x * y).natAbs) := Lib.hid (by rw [trL_dig, HD.out])
  have HS : Hid (((b != b') && decide (trL (dig (dval (dig x.natAbs) * dval (dig y.natAbs)).toNat) ≠ [])) = decide (x * y < 0)) := Lib.hid (by rw [bx, by']; exact mul_sgn _ HT.out)
  clear rx ry bx by'
  cases b <;> cases b'

  · have HS' : Hid ((false && decide (trL (dig (dval (dig x.natAbs) * dval (dig y.natAbs)).toNat) ≠ [])) = decide (x * y < 0)) := Lib.hid HS.out
    clear HS
    go_enter Try.func108, Try.ntmps108
    go_wp2_with (go_at_call 106; first | ((with_reducible refine (r1valid_z _ _ _ _ x _ BX.out (HX.out.q (by repeat' (first | exact Q.refl _ | refine Q.alloc ?_ _ | refine Q.jk ?_ _ | refine Q.drew ?_))) hx).mono ?_); rintro e w' ⟨rfl, kj, rfl⟩) | ((with_reducible refine (r1valid_z _ _ _ _ y _ BY.out (HY.out.q (by repeat' (first | exact Q.refl _ | refine Q.alloc ?_ _ | refine Q.jk ?_ _ | refine Q.drew ?_))) hy).mono ?_); rintro e w' ⟨rfl, kj, rfl⟩))
    go_region_held3 (fun w' => w'.cell? ⟨w.heap.size, 0, none⟩ = some (.bool false) ∧ w'.cell? ⟨w.heap.size, 1, none⟩ = some (.slice A n c) ∧ w'.cell? ⟨w.heap.size + 1, 0, none⟩ = some (.bool false) ∧ w'.cell? ⟨w.heap.size + 1, 1, none⟩ = some (.slice B m d)) (simp [go_sem])
      (first
       | (go_at_call 122; refine (r1times_any _ _ _ (dig x.natAbs) _ _ _ (dig y.natAbs) _ (HX.out.q (by repeat' (first | exact Q.refl _ | refine Q.alloc ?_ _ | refine Q.jk ?_ _ | refine Q.drew ?_))) (HY.out.q (by repeat' (first | exact Q.refl _ | refine Q.alloc ?_ _ | refine Q.jk ?_ _ | refine Q.drew ?_))) (dig_Dg _) (dig_Dg _) (by omega) (by omega)).mono ?_; rintro e w' ⟨A1, n1, c1, k1, rfl, rfl, hr1, hf1⟩; have HR1 := Lib.hid hr1; have HF1 := Lib.hid hf1; have HL1 : n1 ≤ 12 := (by rw [← hr1.1, HD.out]; exact HL.out); clear hr1 hf1)
       | (go_at_call 92; refine (r1made_any _ _ _ _ _ _ HR1.out (dig_Dg _) (by omega)).mono ?_; rintro e w' ⟨A2, n2, c2, k2, rfl, rfl, hr2, hf2⟩; have HR2 := Lib.hid hr2; have HF2 := Lib.hid hf2; have HL2 : n2 ≤ 12 := (by rw [← hr2.1, HT.out]; exact HL.out); clear hr2 hf2; rw [HS'.out])
       | (go_at_call 121; refine (r1result_any _ _ _ _ _ (by omega)).mono ?_; rintro e w' ⟨rfl, kj, rfl⟩))
    rename_i hHeld
    clear hHeld
    go_wp2
    refine bodyPost_ret (v := .tuple #[.agg #[.bool (decide (x * y < 0)), .slice A2 n2 c2], .int .i64 0]) (by simp [results, Try.results108, go_sem]) rfl (RetI2.of (A := A2) (n := n2) (c := c2) rfl ?_ ?_ (HF2.out.q (by repeat' (first | exact Q.refl _ | refine Q.alloc ?_ _ | refine Q.jk ?_ _ | refine Q.drew ?_))))
    · repeat' (first | exact Q.refl _ | refine Q.alloc ?_ _ | refine Q.jk ?_ _ | refine Q.drew ?_)
    · have := HR2.out
      rw [HT.out] at this
      exact (this.swap4 (by simp) (HF2.out.q (by repeat' (first | exact Q.refl _ | refine Q.alloc ?_ _ | refine Q.jk ?_ _ | refine Q.drew ?_)))).q ((Q.refl _).jk _)
  · have HS' : Hid ((true && decide (trL (dig (dval (dig x.natAbs) * dval (dig y.natAbs)).toNat) ≠ [])) = decide (x * y < 0)) := Lib.hid HS.out
    clear HS
    go_enter Try.func108, Try.ntmps108
    go_wp2_with (go_at_call 106; first | ((with_reducible refine (r1valid_z _ _ _ _ x _ BX.out (HX.out.q (by repeat' (first | exact Q.refl _ | refine Q.alloc ?_ _ | refine Q.jk ?_ _ | refine Q.drew ?_))) hx).mono ?_); rintro e w' ⟨rfl, kj, rfl⟩) | ((with_reducible refine (r1valid_z _ _ _ _ y _ BY.out (HY.out.q (by repeat' (first | exact Q.refl _ | refine Q.alloc ?_ _ | refine Q.jk ?_ _ | refine Q.drew ?_))) hy).mono ?_); rintro e w' ⟨rfl, kj, rfl⟩))
    go_region_held3 (fun w' => w'.cell? ⟨w.heap.size, 0, none⟩ = some (.bool false) ∧ w'.cell? ⟨w.heap.size, 1, none⟩ = some (.slice A n c) ∧ w'.cell? ⟨w.heap.size + 1, 0, none⟩ = some (.bool true) ∧ w'.cell? ⟨w.heap.size + 1, 1, none⟩ = some (.slice B m d)) (simp [go_sem])
      (first
       | (go_at_call 122; refine (r1times_any _ _ _ (dig x.natAbs) _ _ _ (dig y.natAbs) _ (HX.out.q (by repeat' (first | exact Q.refl _ | refine Q.alloc ?_ _ | refine Q.jk ?_ _ | refine Q.drew ?_))) (HY.out.q (by repeat' (first | exact Q.refl _ | refine Q.alloc ?_ _ | refine Q.jk ?_ _ | refine Q.drew ?_))) (dig_Dg _) (dig_Dg _) (by omega) (by omega)).mono ?_; rintro e w' ⟨A1, n1, c1, k1, rfl, rfl, hr1, hf1⟩; have HR1 := Lib.hid hr1; have HF1 := Lib.hid hf1; have HL1 : n1 ≤ 12 := (by rw [← hr1.1, HD.out]; exact HL.out); clear hr1 hf1)
       | (go_at_call 92; refine (r1made_any _ _ _ _ _ _ HR1.out (dig_Dg _) (by omega)).mono ?_; rintro e w' ⟨A2, n2, c2, k2, rfl, rfl, hr2, hf2⟩; have HR2 := Lib.hid hr2; have HF2 := Lib.hid hf2; have HL2 : n2 ≤ 12 := (by rw [← hr2.1, HT.out]; exact HL.out); clear hr2 hf2; rw [HS'.out])
       | (go_at_call 121; refine (r1result_any _ _ _ _ _ (by omega)).mono ?_; rintro e w' ⟨rfl, kj, rfl⟩))
    rename_i hHeld
    clear hHeld
    go_wp2
    refine bodyPost_ret (v := .tuple #[.agg #[.bool (decide (x * y < 0)), .slice A2 n2 c2], .int .i64 0]) (by simp [results, Try.results108, go_sem]) rfl (RetI2.of (A := A2) (n := n2) (c := c2) rfl ?_ ?_ (HF2.out.q (by repeat' (first | exact Q.refl _ | refine Q.alloc ?_ _ | refine Q.jk ?_ _ | refine Q.drew ?_))))
    · repeat' (first | exact Q.refl _ | refine Q.alloc ?_ _ | refine Q.jk ?_ _ | refine Q.drew ?_)
    · have := HR2.out
      rw [HT.out] at this
      exact (this.swap4 (by simp) (HF2.out.q (by repeat' (first | exact Q.refl _ | refine Q.alloc ?_ _ | refine Q.jk ?_ _ | refine Q.drew ?_)))).q ((Q.refl _).jk _)
  · have HS' : Hid ((true && decide (trL (dig (dval (dig x.natAbs) * dval (dig y.natAbs)).toNat) ≠ [])) = decide (x * y < 0)) := Lib.hid HS.out
    clear HS
    go_enter Try.func108, Try.ntmps108
    go_wp2_with (go_at_call 106; first | ((with_reducible refine (r1valid_z _ _ _ _ x _ BX.out (HX.out.q (by repeat' (first | exact Q.refl _ | refine Q.alloc ?_ _ | refine Q.jk ?_ _ | refine Q.drew ?_))) hx).mono ?_); rintro e w' ⟨rfl, kj, rfl⟩) | ((with_reducible refine (r1valid_z _ _ _ _ y _ BY.out (HY.out.q (by repeat' (first | exact Q.refl _ | refine Q.alloc ?_ _ | refine Q.jk ?_ _ | refine Q.drew ?_))) hy).mono ?_); rintro e w' ⟨rfl, kj, rfl⟩))
    go_region_held3 (fun w' => w'.cell? ⟨w.heap.size, 0, none⟩ = some (.bool true) ∧ w'.cell? ⟨w.heap.size, 1, none⟩ = some (.slice A n c) ∧ w'.cell? ⟨w.heap.size + 1, 0, none⟩ = some (.bool false) ∧ w'.cell? ⟨w.heap.size + 1, 1, none⟩ = some (.slice B m d)) (simp [go_sem])
      (first
       | (go_at_call 122; refine (r1times_any _ _ _ (dig x.natAbs) _ _ _ (dig y.natAbs) _ (HX.out.q (by repeat' (first | exact Q.refl _ | refine Q.alloc ?_ _ | refine Q.jk ?_ _ | refine Q.drew ?_))) (HY.out.q (by repeat' (first | exact Q.refl _ | refine Q.alloc ?_ _ | refine Q.jk ?_ _ | refine Q.drew ?_))) (dig_Dg _) (dig_Dg _) (by omega) (by omega)).mono ?_; rintro e w' ⟨A1, n1, c1, k1, rfl, rfl, hr1, hf1⟩; have HR1 := Lib.hid hr1; have HF1 := Lib.hid hf1; have HL1 : n1 ≤ 12 := (by rw [← hr1.1, HD.out]; exact HL.out); clear hr1 hf1)
       | (go_at_call 92; refine (r1made_any _ _ _ _ _ _ HR1.out (dig_Dg _) (by omega)).mono ?_; rintro e w' ⟨A2, n2, c2, k2, rfl, rfl, hr2, hf2⟩; have HR2 := Lib.hid hr2; have HF2 := Lib.hid hf2; have HL2 : n2 ≤ 12 := (by rw [← hr2.1, HT.out]; exact HL.out); clear hr2 hf2; rw [HS'.out])
       | (go_at_call 121; refine (r1result_any _ _ _ _ _ (by omega)).mono ?_; rintro e w' ⟨rfl, kj, rfl⟩))
    rename_i hHeld
    clear hHeld
    go_wp2
    refine bodyPost_ret (v := .tuple #[.agg #[.bool (decide (x * y < 0)), .slice A2 n2 c2], .int .i64 0]) (by simp [results, Try.results108, go_sem]) rfl (RetI2.of (A := A2) (n := n2) (c := c2) rfl ?_ ?_ (HF2.out.q (by repeat' (first | exact Q.refl _ | refine Q.alloc ?_ _ | refine Q.jk ?_ _ | refine Q.drew ?_))))
    · repeat' (first | exact Q.refl _ | refine Q.alloc ?_ _ | refine Q.jk ?_ _ | refine Q.drew ?_)
    · have := HR2.out
      rw [HT.out] at this
      exact (this.swap4 (by simp) (HF2.out.q (by repeat' (first | exact Q.refl _ | refine Q.alloc ?_ _ | refine Q.jk ?_ _ | refine Q.drew ?_)))).q ((Q.refl _).jk _)
  · have HS' : Hid ((false && decide (trL (dig (dval (dig x.natAbs) * dval (dig y.natAbs)).toNat) ≠ [])) = decide (x * y < 0)) := Lib.hid HS.out
    clear HS
    go_enter Try.func108, Try.ntmps108
    go_wp2_with (go_at_call 106; first | ((with_reducible refine (r1valid_z _ _ _ _ x _ BX.out (HX.out.q (by repeat' (first | exact Q.refl _ | refine Q.alloc ?_ _ | refine Q.jk ?_ _ | refine Q.drew ?_))) hx).mono ?_); rintro e w' ⟨rfl, kj, rfl⟩) | ((with_reducible refine (r1valid_z _ _ _ _ y _ BY.out (HY.out.q (by repeat' (first | exact Q.refl _ | refine Q.alloc ?_ _ | refine Q.jk ?_ _ | refine Q.drew ?_))) hy).mono ?_); rintro e w' ⟨rfl, kj, rfl⟩))
    go_region_held3 (fun w' => w'.cell? ⟨w.heap.size, 0, none⟩ = some (.bool true) ∧ w'.cell? ⟨w.heap.size, 1, none⟩ = some (.slice A n c) ∧ w'.cell? ⟨w.heap.size + 1, 0, none⟩ = some (.bool true) ∧ w'.cell? ⟨w.heap.size + 1, 1, none⟩ = some (.slice B m d)) (simp [go_sem])
      (first
       | (go_at_call 122; refine (r1times_any _ _ _ (dig x.natAbs) _ _ _ (dig y.natAbs) _ (HX.out.q (by repeat' (first | exact Q.refl _ | refine Q.alloc ?_ _ | refine Q.jk ?_ _ | refine Q.drew ?_))) (HY.out.q (by repeat' (first | exact Q.refl _ | refine Q.alloc ?_ _ | refine Q.jk ?_ _ | refine Q.drew ?_))) (dig_Dg _) (dig_Dg _) (by omega) (by omega)).mono ?_; rintro e w' ⟨A1, n1, c1, k1, rfl, rfl, hr1, hf1⟩; have HR1 := Lib.hid hr1; have HF1 := Lib.hid hf1; have HL1 : n1 ≤ 12 := (by rw [← hr1.1, HD.out]; exact HL.out); clear hr1 hf1)
       | (go_at_call 92; refine (r1made_any _ _ _ _ _ _ HR1.out (dig_Dg _) (by omega)).mono ?_; rintro e w' ⟨A2, n2, c2, k2, rfl, rfl, hr2, hf2⟩; have HR2 := Lib.hid hr2; have HF2 := Lib.hid hf2; have HL2 : n2 ≤ 12 := (by rw [← hr2.1, HT.out]; exact HL.out); clear hr2 hf2; rw [HS'.out])
       | (go_at_call 121; refine (r1result_any _ _ _ _ _ (by omega)).mono ?_; rintro e w' ⟨rfl, kj, rfl⟩))
    rename_i hHeld
    clear hHeld
    go_wp2
    refine bodyPost_ret (v := .tuple #[.agg #[.bool (decide (x * y < 0)), .slice A2 n2 c2], .int .i64 0]) (by simp [results, Try.results108, go_sem]) rfl (RetI2.of (A := A2) (n := n2) (c := c2) rfl ?_ ?_ (HF2.out.q (by repeat' (first | exact Q.refl _ | refine Q.alloc ?_ _ | refine Q.jk ?_ _ | refine Q.drew ?_))))
    · repeat' (first | exact Q.refl _ | refine Q.alloc ?_ _ | refine Q.jk ?_ _ | refine Q.drew ?_)
    · have := HR2.out
      rw [HT.out] at this
      exact (this.swap4 (by simp) (HF2.out.q (by repeat' (first | exact Q.refl _ | refine Q.alloc ?_ _ | refine Q.jk ?_ _ | refine Q.drew ?_)))).q ((Q.refl _).jk _)
end Go.Proofs.Ytkkjifgcjfbcaaa
