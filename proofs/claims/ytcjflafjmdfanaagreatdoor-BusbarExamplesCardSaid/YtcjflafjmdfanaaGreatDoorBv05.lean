
/- What Valid, trim, compareMag and mulMag of package integer return. -/
import Derived.Test.YtcjflafjmdfanaaGreatDoorBv04
import Derived.Test.YtcjflafjmdfanaaGreatDoorBv01
import Derived.Deep.RegionHeld3
import Derived.Laws.Bits64
set_option maxHeartbeats 64000000
set_option maxRecDepth 100000
set_option linter.unusedSimpArgs false
set_option linter.unusedVariables false
/- What Valid, made, digits, Of, result, Compare, Sign and Mul of package substationref01 return. -/
namespace Go.Sub
def Sm (z : Int) : Prop := (z.natAbs : Int) < wt 12
theorem Sm.len {z : Int} (h : Sm z) : (dig z.natAbs).length ≤ 12 := dig_length_le h
theorem Sm.of {z : Int} (h0 : -39402006196394479212279040100143613805079739270465446667948293404245721771497210611414266254884915640806627990306816 < z) (h1 : z < 39402006196394479212279040100143613805079739270465446667948293404245721771497210611414266254884915640806627990306816) : Sm z := by
 have : wt 12 = 39402006196394479212279040100143613805079739270465446667948293404245721771497210611414266254884915640806627990306816 := by decide
 unfold Sm
 rw [this]
 omega
theorem dval_dg (z : Int) : dval (dig z.natAbs) = (z.natAbs : Int) := dval_dig _
theorem cmpI_neg (x y : Int) : cmpI (-x) (-y) = cmpI y x := by unfold cmpI; repeat' split <;> omega
theorem trL_dig (n : Nat) : trL (dig n) = dig n := by unfold trL; rw [dval_dig]; rfl
theorem trL_two (u : Int) (_ : 0 ≤ u) (_ : u < 18446744073709551616) : trL [u % 4294967296, u / 4294967296] = dig u.toNat := by
 unfold trL
 congr 2
 simp only [dval]
 omega
theorem ones_xor (n : Nat) (h : n < 2 ^ 64) : (2 ^ 64 - 1) ^^^ n = 2 ^ 64 - 1 - n := by
 apply Nat.eq_of_testBit_eq
 intro i
 rw [Nat.testBit_xor, Nat.testBit_two_pow_sub_one, show 2 ^ 64 - 1 - n = 2 ^ 64 - (n + 1) by omega, Nat.testBit_two_pow_sub_succ h]
 by_cases hi : i < 64
 ·simp [hi]
 simp only [hi, decide_false, Bool.false_xor, Bool.false_and]
 exact Nat.testBit_lt_two_pow (Nat.lt_of_lt_of_le h (Nat.pow_le_pow_right (by omega) (by omega)))
theorem not64 (x : Int) (h0 : 0 ≤ x) (h1 : x < 18446744073709551616) : bits .xor .u64 IntKind.u64.max x = 18446744073709551615 - x := by
 obtain ⟨n, rfl⟩ := Int.eq_ofNat_of_zero_le h0
 have hm : IntKind.u64.max = ((18446744073709551615 : Nat) : Int) := by decide
 rw [hm, bits_xor_u64_nat _ _ (by omega) (by omega)]
 have := ones_xor n (by omega)
 rw [show (2 ^ 64 - 1 : Nat) = 18446744073709551615 by decide] at this
 rw [this]
 omega
theorem neg64 {z : Int} (h0 : -9223372036854775808 ≤ z) (h1 : z < 0) : IntKind.u64.wrap (bits .xor .u64 IntKind.u64.max (IntKind.u64.wrap z) + 1) = -z := by
 rw [IntKind.wrap_u64 z, not64 _ (by omega) (by omega), IntKind.wrap_u64]
 omega
theorem dig_len2 {z : Int} (h0 : 0 ≤ z) (h1 : z < 18446744073709551616) : (dig z.toNat).length ≤ 2 := dig_length_le (by
 have : wt 2 = 18446744073709551616 := by decide
 rw [this]
 omega)
theorem cmp_signs {x y : Int} (h : x < 0) (h' : 0 ≤ y) : cmpI x y = -1 := by unfold cmpI; split <;> omega
theorem cmp_signs' {x y : Int} (h : 0 ≤ x) (h' : y < 0) : cmpI x y = 1 := by unfold cmpI; repeat' split <;> omega
theorem cmp_abs {x y : Int} (h : 0 ≤ x) (h' : 0 ≤ y) : cmpI (x.natAbs : Int) (y.natAbs : Int) = cmpI x y := by
 rw [show (x.natAbs : Int) = x by omega, show (y.natAbs : Int) = y by omega]
theorem cmp_abs' {x y : Int} (h : x < 0) (h' : y < 0) : cmpI (y.natAbs : Int) (x.natAbs : Int) = cmpI x y := by
 rw [show (x.natAbs : Int) = -x by omega, show (y.natAbs : Int) = -y by omega, cmpI_neg]
theorem cmp_zero (x : Int) : cmpI x 0 = sgn x := by unfold cmpI sgn; rfl
end Go.Sub
namespace Go
open Go.Sub
def RetZ (z : Int) (w : World) (e : Ending) (w' : World) : Prop := RetI (decide (z < 0)) (dig z.natAbs) w e w'
def RetZ2 (z : Int) (w : World) (e : Ending) (w' : World) : Prop := RetI2 (decide (z < 0)) (dig z.natAbs) w e w'
end Go
namespace Go.Proofs.YtcjflafjmdfanaaGreatDoor
open Go.RowKit Go.Sub
theorem r1valid_z (b : Bool) (A : Option Addr) (n c : Nat) (z : Int) (w : World) (hb : b = decide (z < 0)) (h : Rd w A n c (dig z.natAbs)) (hz : Sm z) :
  Calls Tryz.prog 163 #[.agg #[.bool b, .slice A n c]] w fun e w' => e = .returned (.bool true) ∧ Q w w' := by
 have hl := h.1
 have hs := hz.len
 rcases Nat.decEq n 0 with hn | hn
 ·obtain ⟨j, rfl⟩ : ∃ j, n = j + 1 := ⟨n - 1, by omega⟩
  obtain ⟨g, rfl, hOld, hc⟩ := h.at_ (by omega)
  have ht := (dig_Tr z.natAbs).resolve_left (fun e => by rw [e] at hl; simp at hl)
  rw [hl] at ht
  have hcj := hc.o j (by omega)
  obtain ⟨x, ex⟩ : ∃ x, (dig z.natAbs).getD j 0 = x := ⟨_, rfl⟩
  rw [ex] at hcj
  have hx : (x != 0) = true := by
   have : x ≠ 0 := by rw [← ex]; exact ht
   simpa using this
  have hj : j < 400 := by omega
  clear ht ex hc h hl hs hb hz
  go_enter Tryz.func163, Tryz.ntmps163
  go_wp2
  go_ret
  refine ⟨rfl, ?_⟩
  exact Q.i
 subst hn
 have hz0 : z = 0 := by
  have := dig_nil.1 (List.eq_nil_of_length_eq_zero hl)
  omega
 subst hz0
 obtain rfl : b = false := by simpa using hb
 clear h hl hs hb hz
 go_enter Tryz.func163, Tryz.ntmps163
 go_wp2
 go_ret
 refine ⟨rfl, ?_⟩
 exact Q.i
theorem r1made_any (b : Bool) (A : Option Addr) (n c : Nat) (l : List Int) (w : World) (h : Rd w A n c l) (hd : Dg l) (hn : n < 100000) :
  Calls Tryz.prog 166 #[.bool b, .slice A n c] w (RetI (b && decide (trL l ≠ [])) (trL l) w) := by
 have HR := hh h
 clear h
 cases b
 ·rw [Bool.false_and]
  go_enter Tryz.func166, Tryz.ntmps166
  go_wp2_with (go_at_call 180; refine (r1trim_any _ _ _ l _ (HR.o.q ((Q.refl _).alloc _)) hd hn).mono ?_; rintro e w' ⟨A', n', c', k', rfl, rfl, hr', hf'⟩; have HR' := hh hr'; have HF' := hh hf'; clear hr' hf')
  refine bodyPost_ret (v := .agg #[.bool false, .slice A' n' c']) (by simp [results, Tryz.results166, go_sem]) rfl (RetI.of (A := A') (n := n') (c := c') rfl ?_ (Rd.swap (W := w.alloc (.cells #[.bool false, .slice none 0 0] 196)) (by simp) HR'.o HF'.o) (HF'.o.q ((Q.refl _).alloc _)))
  exact Q.i
 rw [Bool.true_and]
 by_cases ht : trL l = []
 ·have HT := hh ht
  rw [show decide (trL l ≠ []) = false by simp [ht]]
  clear ht
  go_enter Tryz.func166, Tryz.ntmps166
  go_wp2_with (go_at_call 180; refine (r1trim_any _ _ _ l _ (HR.o.q ((Q.refl _).alloc _)) hd hn).mono ?_; rintro e w' ⟨A', n', c', k', rfl, rfl, hr', hf'⟩; have HR' := hh hr'; have HF' := hh hf'; clear hr' hf'; obtain rfl : n' = 0 := by (have h1 := HR'.o.1; rw [HT.o] at h1; exact h1.symm))
  refine bodyPost_ret (v := .agg #[.bool false, .slice A' 0 c']) (by simp [results, Tryz.results166, go_sem]) rfl (RetI.of (A := A') (n := 0) (c := c') rfl ?_ (Rd.swap (W := w.alloc (.cells #[.bool false, .slice none 0 0] 196)) (by simp) HR'.o HF'.o) (HF'.o.q ((Q.refl _).alloc _)))
  exact Q.i
 have HT := hh ht
 rw [show decide (trL l ≠ []) = true by simp [ht]]
 clear ht
 go_enter Tryz.func166, Tryz.ntmps166
 go_wp2_with (go_at_call 180; refine (r1trim_any _ _ _ l _ (HR.o.q ((Q.refl _).alloc _)) hd hn).mono ?_; rintro e w' ⟨A', n', c', k', rfl, rfl, hr', hf'⟩; have HR' := hh hr'; have HF' := hh hf'; clear hr' hf'; have hn' : 0 < n' := by (rcases Nat.eq_zero_or_pos n' with h0 | h0; exact absurd (List.eq_nil_of_length_eq_zero (HR'.o.1.trans h0)) HT.o; exact h0))
 refine bodyPost_ret (v := .agg #[.bool true, .slice A' n' c']) (by simp [results, Tryz.results166, go_sem]) rfl (RetI.of (A := A') (n := n') (c := c') rfl ?_ (Rd.swap (W := w.alloc (.cells #[.bool false, .slice none 0 0] 196)) (by simp) HR'.o HF'.o) (HF'.o.q ((Q.refl _).alloc _)))
 exact Q.i
theorem r1digits_any (u : Int) (w : World) (h0 : 0 ≤ u) (h1 : u < 18446744073709551616) :
  Calls Tryz.prog 167 #[.int .u64 u] w (RetS (dig u.toNat) w) := by
 have HT := hh (trL_two u h0 h1)
 have HD : Hid (Dg [u % 4294967296, u / 4294967296]) := hh (Dg.cons (by omega) (by omega) (Dg.cons (by omega) (by omega) Dg.nil))
 go_enter Tryz.func167, Tryz.ntmps167
 go_wp2_with (go_at_call 180; refine (r1trim_any _ _ _ [u % 4294967296, u / 4294967296] _ (Rd.two _ _ _ _) HD.o (by decide)).mono ?_; rintro e w' ⟨A', n', c', k', rfl, rfl, hr', hf'⟩)
 go_ret
 refine RetS.of (A := A') (n := n') (c := c') rfl ?_ (by rw [← HT.o]; exact hr') (hf'.q ((Q.refl _).alloc _))
 exact Q.i
theorem r1of_any (z : Int) (w : World) (h0 : -9223372036854775808 ≤ z) (h1 : z ≤ 9223372036854775807) :
  Calls Tryz.prog 145 #[.int .i64 z] w (RetZ z w) := by
 by_cases hz : z < 0
 rotate_left
 ·have HB : Hid ((false && decide (trL (dig z.toNat) ≠ [])) = decide (z < 0)) := hh (by simp; omega)
  have HE : Hid (trL (dig z.toNat) = dig z.natAbs) := hh (by rw [trL_dig]; congr 1; omega)
  go_enter Tryz.func145, Tryz.ntmps145
  go_wp2_with (first | (go_at_call 167; refine (r1digits_any z _ (by omega) (by omega)).mono ?_; rintro e w' ⟨A1, n1, c1, k1, rfl, rfl, hr1, hf1⟩; have HR1 := hh hr1; have HF1 := hh hf1; have HL1 : n1 ≤ 2 := (by rw [← hr1.1]; exact dig_len2 (by omega) (by omega)); clear hr1 hf1) | (go_at_call 166; refine (r1made_any false _ _ _ _ _ HR1.o (dig_Dg _) (by omega)).mono ?_; rintro e w' ⟨A2, n2, c2, k2, rfl, rfl, hr2, hf2⟩; have HR2 := hh hr2; have HF2 := hh hf2; clear hr2 hf2; rw [HB.o]))
  refine bodyPost_ret (v := .agg #[.bool (decide (z < 0)), .slice A2 n2 c2]) (by simp [results, Tryz.results145, go_sem]) rfl (RetI.of (A := A2) (n := n2) (c := c2) rfl ?_ ?_ (HF2.o.q (((Q.refl _).alloc _).jk _)))
  ·exact Q.i
  have := HR2.o
  rw [HE.o] at this
  exact this.swap2 (by simp) (HF2.o.q ((Q.refl _).jk _))
 have HB : Hid ((true && decide (trL (dig (-z).toNat) ≠ [])) = decide (z < 0)) := hh (by
  rw [trL_dig, Bool.true_and]
  have : dig (-z).toNat ≠ [] := fun e => by have := dig_nil.1 e; omega
  simp [this, hz])
 have HN := hh (neg64 h0 hz)
 have HE : Hid (trL (dig (-z).toNat) = dig z.natAbs) := hh (by rw [trL_dig]; congr 1; omega)
 go_enter Tryz.func145, Tryz.ntmps145
 go_wp2_with (first | (go_at_call 167; rw [HN.o]; refine (r1digits_any (-z) _ (by omega) (by omega)).mono ?_; rintro e w' ⟨A1, n1, c1, k1, rfl, rfl, hr1, hf1⟩; have HR1 := hh hr1; have HF1 := hh hf1; have HL1 : n1 ≤ 2 := (by rw [← hr1.1]; exact dig_len2 (by omega) (by omega)); clear hr1 hf1) | (go_at_call 166; refine (r1made_any true _ _ _ _ _ HR1.o (dig_Dg _) (by omega)).mono ?_; rintro e w' ⟨A2, n2, c2, k2, rfl, rfl, hr2, hf2⟩; have HR2 := hh hr2; have HF2 := hh hf2; clear hr2 hf2; rw [HB.o]))
 refine bodyPost_ret (v := .agg #[.bool (decide (z < 0)), .slice A2 n2 c2]) (by simp [results, Tryz.results145, go_sem, hz]) rfl (RetI.of (A := A2) (n := n2) (c := c2) rfl ?_ ?_ (HF2.o.q (((Q.refl _).alloc _).jk _)))
 ·exact Q.i
 have := HR2.o
 rw [HE.o] at this
 exact this.swap2 (by simp) (HF2.o.q ((Q.refl _).jk _))
theorem r1result_any (b : Bool) (A : Option Addr) (n c : Nat) (w : World) (h : n ≤ 400) :
  Calls Tryz.prog 178 #[.agg #[.bool b, .slice A n c]] w fun e w' => e = .returned (.tuple #[.agg #[.bool b, .slice A n c], .int .i64 0]) ∧ Q w w' := by
 go_enter Tryz.func178, Tryz.ntmps178
 go_wp2
 refine bodyPost_ret (v := .tuple #[.agg #[.bool b, .slice A n c], .int .i64 0]) (by simp [results, Tryz.results178, go_sem]) rfl ⟨rfl, ?_⟩
 exact Q.i
theorem r1cmp_z (b : Bool) (A : Option Addr) (n c : Nat) (x : Int) (b' : Bool) (B : Option Addr) (m d : Nat) (y : Int) (w : World) (bx : b = decide (x < 0)) (rx : Rd w A n c (dig x.natAbs)) (hx : Sm x) (by' : b' = decide (y < 0)) (ry : Rd w B m d (dig y.natAbs)) (hy : Sm y) :
  Calls Tryz.prog 143 #[.agg #[.bool b, .slice A n c], .agg #[.bool b', .slice B m d]] w fun e w' => e = .returned (.int .i64 (cmpI x y)) ∧ Q w w' := by
 have ln : n ≤ 12 := by rw [← rx.1]; exact hx.len
 have lm : m ≤ 12 := by rw [← ry.1]; exact hy.len
 have HX := hh rx
 have HY := hh ry
 have BX := hh bx
 have BY := hh by'
 clear rx ry
 cases b <;> cases b'
 ·have hx0 : 0 ≤ x := by simpa using bx
  have hy0 : 0 ≤ y := by simpa using by'
  have E := hh (cmp_abs hx0 hy0)
  clear bx by' hx0 hy0
  go_enter Tryz.func143, Tryz.ntmps143
  go_wp2_with (first | (go_at_call 163; first | ((with_reducible refine (r1valid_z _ _ _ _ x _ BX.o (HX.o.q Q.i) hx).q ?_); intro kj) | ((with_reducible refine (r1valid_z _ _ _ _ y _ BY.o (HY.o.q Q.i) hy).q ?_); intro kj)) | (go_at_call 164; refine (r1compare_any _ _ _ (dig x.natAbs) _ _ _ (dig y.natAbs) _ (HX.o.q Q.i) (HY.o.q Q.i) (dig_Dg _) (dig_Dg _) (dig_Tr _) (dig_Tr _) (by omega) (by omega)).q ?_; intro kj))
  go_ret
  refine ⟨by rw [← E.o, ← dval_dg, ← dval_dg]; rfl, ?_⟩
  exact Q.i
 ·have hx0 : 0 ≤ x := by simpa using bx
  have hy0 : y < 0 := by simpa using by'
  have E := hh (cmp_signs' hx0 hy0)
  clear bx by' hx0 hy0
  go_enter Tryz.func143, Tryz.ntmps143
  go_wp2_with (go_at_call 163; first | ((with_reducible refine (r1valid_z _ _ _ _ x _ BX.o (HX.o.q Q.i) hx).q ?_); intro kj) | ((with_reducible refine (r1valid_z _ _ _ _ y _ BY.o (HY.o.q Q.i) hy).q ?_); intro kj))
  go_ret
  refine ⟨by rw [E.o]; rfl, ?_⟩
  exact Q.i
 ·have hx0 : x < 0 := by simpa using bx
  have hy0 : 0 ≤ y := by simpa using by'
  have E := hh (cmp_signs hx0 hy0)
  clear bx by' hx0 hy0
  go_enter Tryz.func143, Tryz.ntmps143
  go_wp2_with (go_at_call 163; first | ((with_reducible refine (r1valid_z _ _ _ _ x _ BX.o (HX.o.q Q.i) hx).q ?_); intro kj) | ((with_reducible refine (r1valid_z _ _ _ _ y _ BY.o (HY.o.q Q.i) hy).q ?_); intro kj))
  go_ret
  refine ⟨by rw [E.o]; rfl, ?_⟩
  exact Q.i
 have hx0 : x < 0 := by simpa using bx
 have hy0 : y < 0 := by simpa using by'
 have E := hh (cmp_abs' hx0 hy0)
 clear bx by' hx0 hy0
 go_enter Tryz.func143, Tryz.ntmps143
 go_wp2_with (first | (go_at_call 163; first | ((with_reducible refine (r1valid_z _ _ _ _ x _ BX.o (HX.o.q Q.i) hx).q ?_); intro kj) | ((with_reducible refine (r1valid_z _ _ _ _ y _ BY.o (HY.o.q Q.i) hy).q ?_); intro kj)) | (go_at_call 164; refine (r1compare_any _ _ _ (dig y.natAbs) _ _ _ (dig x.natAbs) _ (HY.o.q Q.i) (HX.o.q Q.i) (dig_Dg _) (dig_Dg _) (dig_Tr _) (dig_Tr _) (by omega) (by omega)).q ?_; intro kj))
 go_ret
 refine ⟨by rw [← E.o, ← dval_dg, ← dval_dg]; rfl, ?_⟩
 exact Q.i
theorem r1sign_z (b : Bool) (A : Option Addr) (n c : Nat) (x : Int) (w : World) (bx : b = decide (x < 0)) (rx : Rd w A n c (dig x.natAbs)) (hx : Sm x) :
  Calls Tryz.prog 142 #[.agg #[.bool b, .slice A n c]] w fun e w' => e = .returned (.int .i64 (sgn x)) ∧ Q w w' := by
 have HX := hh rx
 have BX := hh bx
 have HZ : ∀ w, Rd w none 0 0 (dig (0 : Int).natAbs) := fun w => by rw [show (0 : Int).natAbs = 0 from rfl, dig_zero]; exact Rd.nil w
 have HZ' := hh HZ
 clear rx bx HZ
 rw [← cmp_zero]
 go_enter Tryz.func142, Tryz.ntmps142
 go_wp2_with (go_at_call 143; refine (r1cmp_z _ _ _ _ x _ _ _ _ 0 _ BX.o (HX.o.q Q.i) hx (by decide) (HZ'.o _) (Sm.of (by decide) (by decide))).q ?_; intro kj)
 go_ret
 refine ⟨rfl, ?_⟩
 exact Q.i
theorem mul_sgn {x y : Int} (l : List Int) (hl : l = dig (x * y).natAbs) : ((decide (x < 0) != decide (y < 0)) && decide (l ≠ [])) = decide (x * y < 0) := by
 have e : (l ≠ []) ↔ x * y ≠ 0 := by rw [hl, Ne, dig_nil]; omega
 rw [Bool.eq_iff_iff]
 simp only [Bool.and_eq_true, bne_iff_ne, ne_eq, decide_eq_decide, decide_eq_true_eq, e]
 rcases Int.lt_trichotomy x 0 with hx | hx | hx <;> rcases Int.lt_trichotomy y 0 with hy | hy | hy
 ·have := Int.mul_pos_of_neg_of_neg hx hy; generalize x * y = p at *; omega
 ·subst hy; simp
 ·have := Int.mul_neg_of_neg_of_pos hx hy; generalize x * y = p at *; omega
 ·subst hx; simp
 ·subst hx; simp
 ·subst hx; simp
 ·have := Int.mul_neg_of_pos_of_neg hx hy; generalize x * y = p at *; omega
 ·subst hy; simp
 have := Int.mul_pos hx hy; generalize x * y = p at *; omega
theorem mul_dig (x y : Int) : (dval (dig x.natAbs) * dval (dig y.natAbs)).toNat = (x * y).natAbs := by
 rw [dval_dg, dval_dg, Int.natAbs_mul]
 omega
theorem r1mul_b (b : Bool) (A : Option Addr) (n c : Nat) (x : Int) (b' : Bool) (B : Option Addr) (m d : Nat) (y : Int) (w : World) (bx : b = decide (x < 0)) (rx : Rd w A n c (dig x.natAbs)) (hx : Sm x) (by' : b' = decide (y < 0)) (ry : Rd w B m d (dig y.natAbs)) (hy : Sm y) (hxy : Sm (x * y)) :
  Calls Tryz.prog 165 #[.agg #[.bool b, .slice A n c], .agg #[.bool b', .slice B m d]] w (RetZ2 (x * y) w) := by
 have ln : n ≤ 12 := by rw [← rx.1]; exact hx.len
 have lm : m ≤ 12 := by rw [← ry.1]; exact hy.len
 have HX := hh rx
 have HY := hh ry
 have BX := hh bx
 have BY := hh by'
 have HL := hh hxy.len
 have HD := hh (mul_dig x y)
 have HT : Hid (trL (dig (dval (dig x.natAbs) * dval (dig y.natAbs)).toNat) = dig (x * y).natAbs) := hh (by rw [trL_dig, HD.o])
 have HS : Hid (((b != b') && decide (trL (dig (dval (dig x.natAbs) * dval (dig y.natAbs)).toNat) ≠ [])) = decide (x * y < 0)) := hh (by rw [bx, by']; exact mul_sgn _ HT.o)
 clear rx ry bx by'
 cases b <;> cases b'
 ·have HS' : Hid ((false && decide (trL (dig (dval (dig x.natAbs) * dval (dig y.natAbs)).toNat) ≠ [])) = decide (x * y < 0)) := hh HS.o
  clear HS
  go_enter Tryz.func165, Tryz.ntmps165
  go_wp2_with (go_at_call 163; first | ((with_reducible refine (r1valid_z _ _ _ _ x _ BX.o (HX.o.q Q.i) hx).q ?_); intro kj) | ((with_reducible refine (r1valid_z _ _ _ _ y _ BY.o (HY.o.q Q.i) hy).q ?_); intro kj))
  go_region_held3 (fun w' => w'.cell? ⟨w.heap.size, 0, none⟩ = some (.bool false) ∧ w'.cell? ⟨w.heap.size, 1, none⟩ = some (.slice A n c) ∧ w'.cell? ⟨w.heap.size + 1, 0, none⟩ = some (.bool false) ∧ w'.cell? ⟨w.heap.size + 1, 1, none⟩ = some (.slice B m d)) (simp [go_sem])
   (first | (go_at_call 179; refine (r1times_any _ _ _ (dig x.natAbs) _ _ _ (dig y.natAbs) _ (HX.o.q Q.i) (HY.o.q Q.i) (dig_Dg _) (dig_Dg _) (by omega) (by omega)).mono ?_; rintro e w' ⟨A1, n1, c1, k1, rfl, rfl, hr1, hf1⟩; have HR1 := hh hr1; have HF1 := hh hf1; have HL1 : n1 ≤ 12 := (by rw [← hr1.1, HD.o]; exact HL.o); clear hr1 hf1) | (go_at_call 166; refine (r1made_any _ _ _ _ _ _ HR1.o (dig_Dg _) (by omega)).mono ?_; rintro e w' ⟨A2, n2, c2, k2, rfl, rfl, hr2, hf2⟩; have HR2 := hh hr2; have HF2 := hh hf2; have HL2 : n2 ≤ 12 := (by rw [← hr2.1, HT.o]; exact HL.o); clear hr2 hf2; rw [HS'.o]) | (go_at_call 178; refine (r1result_any _ _ _ _ _ (by omega)).q ?_; intro kj))
  rename_i hHeld
  clear hHeld
  go_wp2
  refine bodyPost_ret (v := .tuple #[.agg #[.bool (decide (x * y < 0)), .slice A2 n2 c2], .int .i64 0]) (by simp [results, Tryz.results165, go_sem]) rfl (RetI2.of (A := A2) (n := n2) (c := c2) rfl ?_ ?_ (HF2.o.q Q.i))
  ·exact Q.i
  have := HR2.o
  rw [HT.o] at this
  exact (this.swap4 (by simp) (HF2.o.q Q.i)).q ((Q.refl _).jk _)
 ·have HS' : Hid ((true && decide (trL (dig (dval (dig x.natAbs) * dval (dig y.natAbs)).toNat) ≠ [])) = decide (x * y < 0)) := hh HS.o
  clear HS
  go_enter Tryz.func165, Tryz.ntmps165
  go_wp2_with (go_at_call 163; first | ((with_reducible refine (r1valid_z _ _ _ _ x _ BX.o (HX.o.q Q.i) hx).q ?_); intro kj) | ((with_reducible refine (r1valid_z _ _ _ _ y _ BY.o (HY.o.q Q.i) hy).q ?_); intro kj))
  go_region_held3 (fun w' => w'.cell? ⟨w.heap.size, 0, none⟩ = some (.bool false) ∧ w'.cell? ⟨w.heap.size, 1, none⟩ = some (.slice A n c) ∧ w'.cell? ⟨w.heap.size + 1, 0, none⟩ = some (.bool true) ∧ w'.cell? ⟨w.heap.size + 1, 1, none⟩ = some (.slice B m d)) (simp [go_sem])
   (first | (go_at_call 179; refine (r1times_any _ _ _ (dig x.natAbs) _ _ _ (dig y.natAbs) _ (HX.o.q Q.i) (HY.o.q Q.i) (dig_Dg _) (dig_Dg _) (by omega) (by omega)).mono ?_; rintro e w' ⟨A1, n1, c1, k1, rfl, rfl, hr1, hf1⟩; have HR1 := hh hr1; have HF1 := hh hf1; have HL1 : n1 ≤ 12 := (by rw [← hr1.1, HD.o]; exact HL.o); clear hr1 hf1) | (go_at_call 166; refine (r1made_any _ _ _ _ _ _ HR1.o (dig_Dg _) (by omega)).mono ?_; rintro e w' ⟨A2, n2, c2, k2, rfl, rfl, hr2, hf2⟩; have HR2 := hh hr2; have HF2 := hh hf2; have HL2 : n2 ≤ 12 := (by rw [← hr2.1, HT.o]; exact HL.o); clear hr2 hf2; rw [HS'.o]) | (go_at_call 178; refine (r1result_any _ _ _ _ _ (by omega)).q ?_; intro kj))
  rename_i hHeld
  clear hHeld
  go_wp2
  refine bodyPost_ret (v := .tuple #[.agg #[.bool (decide (x * y < 0)), .slice A2 n2 c2], .int .i64 0]) (by simp [results, Tryz.results165, go_sem]) rfl (RetI2.of (A := A2) (n := n2) (c := c2) rfl ?_ ?_ (HF2.o.q Q.i))
  ·exact Q.i
  have := HR2.o
  rw [HT.o] at this
  exact (this.swap4 (by simp) (HF2.o.q Q.i)).q ((Q.refl _).jk _)
 ·have HS' : Hid ((true && decide (trL (dig (dval (dig x.natAbs) * dval (dig y.natAbs)).toNat) ≠ [])) = decide (x * y < 0)) := hh HS.o
  clear HS
  go_enter Tryz.func165, Tryz.ntmps165
  go_wp2_with (go_at_call 163; first | ((with_reducible refine (r1valid_z _ _ _ _ x _ BX.o (HX.o.q Q.i) hx).q ?_); intro kj) | ((with_reducible refine (r1valid_z _ _ _ _ y _ BY.o (HY.o.q Q.i) hy).q ?_); intro kj))
  go_region_held3 (fun w' => w'.cell? ⟨w.heap.size, 0, none⟩ = some (.bool true) ∧ w'.cell? ⟨w.heap.size, 1, none⟩ = some (.slice A n c) ∧ w'.cell? ⟨w.heap.size + 1, 0, none⟩ = some (.bool false) ∧ w'.cell? ⟨w.heap.size + 1, 1, none⟩ = some (.slice B m d)) (simp [go_sem])
   (first | (go_at_call 179; refine (r1times_any _ _ _ (dig x.natAbs) _ _ _ (dig y.natAbs) _ (HX.o.q Q.i) (HY.o.q Q.i) (dig_Dg _) (dig_Dg _) (by omega) (by omega)).mono ?_; rintro e w' ⟨A1, n1, c1, k1, rfl, rfl, hr1, hf1⟩; have HR1 := hh hr1; have HF1 := hh hf1; have HL1 : n1 ≤ 12 := (by rw [← hr1.1, HD.o]; exact HL.o); clear hr1 hf1) | (go_at_call 166; refine (r1made_any _ _ _ _ _ _ HR1.o (dig_Dg _) (by omega)).mono ?_; rintro e w' ⟨A2, n2, c2, k2, rfl, rfl, hr2, hf2⟩; have HR2 := hh hr2; have HF2 := hh hf2; have HL2 : n2 ≤ 12 := (by rw [← hr2.1, HT.o]; exact HL.o); clear hr2 hf2; rw [HS'.o]) | (go_at_call 178; refine (r1result_any _ _ _ _ _ (by omega)).q ?_; intro kj))
  rename_i hHeld
  clear hHeld
  go_wp2
  refine bodyPost_ret (v := .tuple #[.agg #[.bool (decide (x * y < 0)), .slice A2 n2 c2], .int .i64 0]) (by simp [results, Tryz.results165, go_sem]) rfl (RetI2.of (A := A2) (n := n2) (c := c2) rfl ?_ ?_ (HF2.o.q Q.i))
  ·exact Q.i
  have := HR2.o
  rw [HT.o] at this
  exact (this.swap4 (by simp) (HF2.o.q Q.i)).q ((Q.refl _).jk _)
 have HS' : Hid ((false && decide (trL (dig (dval (dig x.natAbs) * dval (dig y.natAbs)).toNat) ≠ [])) = decide (x * y < 0)) := hh HS.o
 clear HS
 go_enter Tryz.func165, Tryz.ntmps165
 go_wp2_with (go_at_call 163; first | ((with_reducible refine (r1valid_z _ _ _ _ x _ BX.o (HX.o.q Q.i) hx).q ?_); intro kj) | ((with_reducible refine (r1valid_z _ _ _ _ y _ BY.o (HY.o.q Q.i) hy).q ?_); intro kj))
 go_region_held3 (fun w' => w'.cell? ⟨w.heap.size, 0, none⟩ = some (.bool true) ∧ w'.cell? ⟨w.heap.size, 1, none⟩ = some (.slice A n c) ∧ w'.cell? ⟨w.heap.size + 1, 0, none⟩ = some (.bool true) ∧ w'.cell? ⟨w.heap.size + 1, 1, none⟩ = some (.slice B m d)) (simp [go_sem])
  (first | (go_at_call 179; refine (r1times_any _ _ _ (dig x.natAbs) _ _ _ (dig y.natAbs) _ (HX.o.q Q.i) (HY.o.q Q.i) (dig_Dg _) (dig_Dg _) (by omega) (by omega)).mono ?_; rintro e w' ⟨A1, n1, c1, k1, rfl, rfl, hr1, hf1⟩; have HR1 := hh hr1; have HF1 := hh hf1; have HL1 : n1 ≤ 12 := (by rw [← hr1.1, HD.o]; exact HL.o); clear hr1 hf1) | (go_at_call 166; refine (r1made_any _ _ _ _ _ _ HR1.o (dig_Dg _) (by omega)).mono ?_; rintro e w' ⟨A2, n2, c2, k2, rfl, rfl, hr2, hf2⟩; have HR2 := hh hr2; have HF2 := hh hf2; have HL2 : n2 ≤ 12 := (by rw [← hr2.1, HT.o]; exact HL.o); clear hr2 hf2; rw [HS'.o]) | (go_at_call 178; refine (r1result_any _ _ _ _ _ (by omega)).q ?_; intro kj))
 rename_i hHeld
 clear hHeld
 go_wp2
 refine bodyPost_ret (v := .tuple #[.agg #[.bool (decide (x * y < 0)), .slice A2 n2 c2], .int .i64 0]) (by simp [results, Tryz.results165, go_sem]) rfl (RetI2.of (A := A2) (n := n2) (c := c2) rfl ?_ ?_ (HF2.o.q Q.i))
 ·exact Q.i
 have := HR2.o
 rw [HT.o] at this
 exact (this.swap4 (by simp) (HF2.o.q Q.i)).q ((Q.refl _).jk _)
end Go.Proofs.YtcjflafjmdfanaaGreatDoor
namespace Go
open Go.Sub
def ITrim (A : Option Addr) (n c : Nat) (l : List Int) (w : World) (e : Ending) (w' : World) : Prop := ∃ A' n', e = .returned (.slice A' n' n') ∧ w = w' ∧ (∀ W, Rd W A n c l → Rd W A' n' n' (trL l)) ∧ ∀ W, Fr W A → Fr W A'
end Go
namespace Go.Proofs.YtcjflafjmdfanaaGreatDoor
open Go.RowKit Go.Sub
theorem itrim_any (A : Option Addr) (n c : Nat) (l : List Int) (w : World) (h : Rd w A n c l) (hd : Dg l) (hn : n < 100000) :
  Calls Tryz.prog 174 #[.slice A n c] w (ITrim A n c l w) := by
 rcases Nat.eq_zero_or_pos n with rfl | hp
 ·obtain rfl : l = [] := List.eq_nil_of_length_eq_zero h.1
  have HT : Hid (trL [] = []) := hh (by unfold trL; simp [dval, dig_zero])
  clear h
  go_enter Tryz.func174, Tryz.ntmps174
  go_wp2
  refine wp_loop_rounds 1 ?_
  rw [rounds_succ]
  go_wp2
  go_ret
  exact ⟨none, 0, rfl, rfl, fun W _ => by rw [HT.o]; exact Rd.nil W, fun W _ => Fr.none W⟩
 obtain ⟨g, rfl, hOld, hc⟩ := h.at_ hp
 have hl := h.1
 have hcap := h.2.1
 have HL := hh hl
 clear h hl
 go_enter Tryz.func174, Tryz.ntmps174
 go_upto_block 0 with (fail)
 go_cut [3] (fun i wx => ∃ k : Nat, i = .int .i64 k ∧ k ≤ n ∧ Hid (l.take k = trL l) ∧ w = wx)
 case first =>
  go_wp2_with fail
  go_loop [3] (fun i => ∃ k : Nat, i = .int .i64 k ∧ k ≤ n ∧ Hid (∀ j, k ≤ j → l.getD j 0 = 0)) (fun i => (intOf i).toNat)
  case atStart => exact ⟨n, rfl, Nat.le_refl _, hh fun j hj => getD_ge (by rw [HL.o]; exact hj)⟩
  case round =>
   obtain ⟨k, rfl, hk, HZ⟩ := hrel
   rcases k with _ | j
   ·go_wp2
    go_meet
    exact ⟨0, rfl, by omega, hh (trL_of hd (by omega) HZ.o (.inl rfl)), rfl⟩
   have hcj := hc.o j (by omega)
   have hj : j < n := by omega
   by_cases hz : l.getD j 0 = 0
   rotate_left
   ·have HZ1 := hh hz
    obtain ⟨d, ed⟩ : ∃ d, l.getD j 0 = d := ⟨_, rfl⟩
    rw [ed] at hcj hz
    have hz1 : (d == 0) = false := by simpa using hz
    clear ed hz
    go_wp2
    go_meet
    exact ⟨j + 1, rfl, by omega, hh (trL_of hd (by rw [HL.o]; omega) HZ.o (.inr HZ1.o)), rfl⟩
   have HZ0 := hh hz
   rw [hz] at hcj
   clear hz
   go_wp2
   go_round
   case rel => exact ⟨j, rfl, by omega, hh fun i hi => by
    rcases Nat.lt_or_ge j i with h1 | h1
    ·exact HZ.o i h1
    obtain rfl : i = j := by omega
    exact HZ0.o⟩
   case measure => simp [intOf]
 case rest =>
  obtain ⟨k, rfl, hk, HT, rfl⟩ := hcut
  rcases Nat.eq_zero_or_pos k with rfl | hkp
  ·go_wp2
   go_ret
   exact ⟨none, 0, rfl, rfl, fun W _ => by rw [← HT.o]; exact Rd.nil W, fun W _ => Fr.none W⟩
  have hk1 : ((k : Int) == 0) = false := by simp; omega
  go_wp2
  go_ret
  exact ⟨some ⟨g, 0, none⟩, k, rfl, rfl, fun W hW => by rw [← HT.o]; exact hW.take hk (Nat.le_refl _) (fun h => by cases h), fun W h => h⟩
theorem icmpMag_any (A : Option Addr) (n c : Nat) (l : List Int) (B : Option Addr) (m d : Nat) (r : List Int) (w : World) (h1 : Rd w A n c l) (h2 : Rd w B m d r) (dl : Dg l) (dr : Dg r) (tl : Tr l) (tr : Tr r) (hn : n < 100000) (hm : m < 100000) :
  Calls Tryz.prog 175 #[.slice A n c, .slice B m d] w fun e w' => e = .returned (.int .i64 (cmpI (dval l) (dval r))) ∧ Q w w' := by
 have l1 := h1.1
 have l2 := h2.1
 rcases Nat.lt_trichotomy n m with hlt | heq | hgt
 ·have hv := dval_longer dl dr tr (by omega)
  have e : cmpI (dval l) (dval r) = -1 := by simp [cmpI, hv]
  rw [e]
  clear h1 h2 e l1 l2 hv
  go_enter Tryz.func175, Tryz.ntmps175
  go_wp2
  go_ret
  exact ⟨rfl, Q.refl _⟩
 ·subst heq
  have L1 := hh l1
  have L2 := hh l2
  clear l1 l2
  rcases Nat.eq_zero_or_pos n with rfl | hp
  ·have e : cmpI (dval l) (dval r) = 0 := by
    rw [List.eq_nil_of_length_eq_zero L1.o, List.eq_nil_of_length_eq_zero L2.o]
    rfl
   rw [e]
   clear e h1 h2
   go_enter Tryz.func175, Tryz.ntmps175
   go_wp2
   refine wp_loop_rounds 1 ?_
   rw [rounds_succ]
   go_wp2
   go_ret
   exact ⟨rfl, Q.refl _⟩
  obtain ⟨g, rfl, hOld, hc⟩ := h1.at_ hp
  obtain ⟨g', rfl, hOld', hc'⟩ := h2.at_ hp
  clear h1 h2
  go_enter Tryz.func175, Tryz.ntmps175
  go_wp2
  go_loopw [5] (fun i wr => ∃ k : Nat, i = .int .i64 ((k : Int) - 1) ∧ k ≤ n ∧ Hid (∀ j, k ≤ j → l.getD j 0 = r.getD j 0) ∧ Q w wr) (fun i _ => (intOf i + 1).toNat)
  case atStart => exact ⟨n, rfl, Nat.le_refl _, hh fun j hj => by rw [getD_ge (by rw [L1.o]; exact hj), getD_ge (by rw [L2.o]; exact hj)], Q.refl _⟩
  case round =>
   obtain ⟨k, rfl, hk, HZ, kw, rfl⟩ := hrel
   rcases k with _ | j
   ·have e : cmpI (dval l) (dval r) = 0 := by
     have := dval_same l r (fun j => HZ.o j (Nat.zero_le _))
     simp [cmpI, this]
    have E := hh e
    clear e
    go_wp2
    go_ret
    exact ⟨by rw [E.o]; rfl, (Q.refl _).jk _⟩
   rw [show ((j + 1 : Nat) : Int) - 1 = (j : Int) by omega]
   have hcj := hc.o j (by omega)
   have hcj' := hc'.o j (by omega)
   have hj : j < n := by omega
   obtain ⟨x, ex⟩ : ∃ x, l.getD j 0 = x := ⟨_, rfl⟩
   obtain ⟨y, ey⟩ : ∃ y, r.getD j 0 = y := ⟨_, rfl⟩
   rw [ex] at hcj
   rw [ey] at hcj'
   have EX := hh ex
   have EY := hh ey
   clear ex ey
   rcases Int.lt_trichotomy x y with hxy | hxy | hxy
   ·have E : Hid (cmpI (dval l) (dval r) = -1) := hh (by
     have := dval_order dl dr j (by rw [L1.o]; exact hj) (by rw [L2.o]; exact hj) (fun i hi => HZ.o i hi) (by rw [EX.o, EY.o]; exact hxy)
     simp [cmpI, this])
    go_wp2
    try simp only [List.append]
    refine wrj (by kernel_rfl) ?_
    repeat (go_big_quiet_step (fail))
    refine wq0 fun kq => ?_
    go_wp2
    go_ret
    exact ⟨by rw [E.o]; rfl, ((Q.refl _).jk _).jk _⟩
   ·subst hxy
    go_wp2
    try simp only [List.append]
    refine wrj (by kernel_rfl) ?_
    repeat (go_big_quiet_step (fail))
    refine wq0 fun kq => ?_
    go_wp2
    try simp only [List.append]
    refine wrj (by kernel_rfl) ?_
    repeat (go_big_quiet_step (fail))
    refine wq0 fun kq => ?_
    go_wp2
    go_roundw
    case rel => exact ⟨j, rfl, by omega, hh fun i hi => by
     rcases Nat.lt_or_ge j i with h1 | h1
     ·exact HZ.o i h1
     obtain rfl : i = j := by omega
     rw [EX.o, EY.o], (((Q.refl _).jk _).jk _).jk _⟩
    case measure => simp [intOf]
   have E : Hid (cmpI (dval l) (dval r) = 1) := hh (by
    have := dval_order dr dl j (by rw [L2.o]; exact hj) (by rw [L1.o]; exact hj) (fun i hi => (HZ.o i hi).symm) (by rw [EX.o, EY.o]; exact hxy)
    simp [cmpI, this]
    omega)
   go_wp2
   try simp only [List.append]
   refine wrj (by kernel_rfl) ?_
   repeat (go_big_quiet_step (fail))
   refine wq0 fun kq => ?_
   go_wp2
   try simp only [List.append]
   refine wrj (by kernel_rfl) ?_
   repeat (go_big_quiet_step (fail))
   refine wq0 fun kq => ?_
   go_wp2
   go_ret
   exact ⟨by rw [E.o]; rfl, (((Q.refl _).jk _).jk _).jk _⟩
 have hv := dval_longer dr dl tl (by omega)
 have e : cmpI (dval l) (dval r) = 1 := by simp [cmpI, hv]; omega
 rw [e]
 have q2 : ¬ n < m := by omega
 clear h1 h2 e l1 l2 hv
 go_enter Tryz.func175, Tryz.ntmps175
 go_wp2
 go_ret
 exact ⟨rfl, Q.refl _⟩
theorem ivalid_z (b : Bool) (A : Option Addr) (n c : Nat) (z : Int) (w : World) (hb : b = decide (z < 0)) (h : Rd w A n c (dig z.natAbs)) (hz : Sm z) :
  Calls Tryz.prog 171 #[.agg #[.bool b, .slice A n c]] w fun e w' => e = .returned (.bool true) ∧ Q w w' := by
 have hl := h.1
 have hs := hz.len
 rcases Nat.decEq n 0 with hn | hn
 ·obtain ⟨j, rfl⟩ : ∃ j, n = j + 1 := ⟨n - 1, by omega⟩
  obtain ⟨g, rfl, hOld, hc⟩ := h.at_ (by omega)
  have ht := (dig_Tr z.natAbs).resolve_left (fun e => by rw [e] at hl; simp at hl)
  rw [hl] at ht
  have hcj := hc.o j (by omega)
  obtain ⟨x, ex⟩ : ∃ x, (dig z.natAbs).getD j 0 = x := ⟨_, rfl⟩
  rw [ex] at hcj
  have hx : (x != 0) = true := by
   have : x ≠ 0 := by rw [← ex]; exact ht
   simpa using this
  have hj : j < 400 := by omega
  clear ht ex hc h hl hs hb hz
  go_enter Tryz.func171, Tryz.ntmps171
  go_wp2
  go_ret
  refine ⟨rfl, ?_⟩
  exact Q.i
 subst hn
 have hz0 : z = 0 := by
  have := dig_nil.1 (List.eq_nil_of_length_eq_zero hl)
  omega
 subst hz0
 obtain rfl : b = false := by simpa using hb
 clear h hl hs hb hz
 go_enter Tryz.func171, Tryz.ntmps171
 go_wp2
 go_ret
 refine ⟨rfl, ?_⟩
 exact Q.i
theorem imulMag_pos (A : Option Addr) (n c : Nat) (l : List Int) (B : Option Addr) (m d : Nat) (r : List Int) (w : World) (h1 : Rd w A n c l) (h2 : Rd w B m d r) (dl : Dg l) (dr : Dg r) (hn : n < 10000) (hm : m < 10000) (hn0 : 0 < n) (hm0 : 0 < m) :
  Calls Tryz.prog 173 #[.slice A n c, .slice B m d] w (RetS (dig (dval l * dval r).toNat) w) := by
 have L1 := hh h1.1
 have L2 := hh h2.1
 have H1 := hh h1
 have H2 := hh h2
 clear h1 h2
 have z1 : ((n : Int) == 0) = false := by simp; omega
 have z2 : ((m : Int) == 0) = false := by simp; omega
 have hmk := make_u32 w (n + m) (n + m) (by omega) (by omega)
 go_enter Tryz.func173, Tryz.ntmps173
 go_wp2
 clear hmk
 go_loopw [26] (fun i wr => ∃ (k : Nat) (o : List Int) (kx : Jk), i = .int .i64 k ∧ k ≤ n ∧ Hid (MulInv l r o k 0 0) ∧ wr = (w.alloc (.cells (cellsU o) 240)).jk kx) (fun i _ => n - (intOf i).toNat)
 case atStart =>
  obtain ⟨k0, hk0⟩ := Q.refl (w.alloc (.cells (cellsU (List.replicate (n + m) 0)) 240))
  exact ⟨0, List.replicate (n + m) 0, k0, rfl, Nat.zero_le _, hh (by have := MulInv.start l r; rwa [L1.o, L2.o] at this), hk0⟩
 case round =>
  obtain ⟨k, o, kx, rfl, hk, HI, rfl⟩ := hrel
  rcases Nat.lt_or_ge k n with hlt | hge
  ·obtain ⟨g, rfl, hOld, hc⟩ := H1.o.at_ (by omega)
   have hcx := hc.o k hlt
   obtain ⟨x, ex⟩ : ∃ x, l.getD k 0 = x := ⟨_, rfl⟩
   rw [ex] at hcx
   have EX := hh ex
   have hx : 0 ≤ x ∧ x < 4294967296 := ex ▸ dl.getD k
   obtain ⟨hx0, hx1⟩ := hx
   clear ex hc
   go_upto_block 2 with (fail)
   go_cut [7] (fun s7 wx => ∃ (q : Int) (o : List Int) (kx : Jk), s7 = .int .u64 q ∧ 0 ≤ q ∧ q < 4294967296 ∧ Hid (MulInv l r o k m q) ∧ wx = (w.alloc (.cells (cellsU o) 240)).jk kx)
   case first =>
    go_wp2_with fail
    go_loopw [7, 31] (fun s7 s8 wr => ∃ (q : Int) (j : Nat) (o : List Int) (kx : Jk), s7 = .int .u64 q ∧ s8 = .int .i64 j ∧ j ≤ m ∧ 0 ≤ q ∧ q < 4294967296 ∧ Hid (MulInv l r o k j q) ∧ wr = (w.alloc (.cells (cellsU o) 240)).jk kx) (fun _ s8 _ => m - (intOf s8).toNat)
    case atStart => exact ⟨0, 0, o, kx, rfl, rfl, Nat.zero_le _, by decide, by decide, HI, rfl⟩
    case round =>
     clear HI
     obtain ⟨q, j, o, kx, rfl, rfl, hj, hq0, hq1, HI, rfl⟩ := hrel
     rcases Nat.lt_or_ge j m with hjl | hjg
     ·obtain ⟨g', rfl, hOld', hc'⟩ := H2.o.at_ (by omega)
      have hcy := hc'.o j hjl
      obtain ⟨y, ey⟩ : ∃ y, r.getD j 0 = y := ⟨_, rfl⟩
      rw [ey] at hcy
      have EY := hh ey
      have hy : 0 ≤ y ∧ y < 4294967296 := ey ▸ dr.getD j
      obtain ⟨hy0, hy1⟩ := hy
      clear ey hc'
      have hol : o.length = n + m := by rw [HI.o.len, L1.o, L2.o]
      have hcz := cellsU_at (o := o) (j := k + j) (by omega)
      obtain ⟨z, ez⟩ : ∃ z, o.getD (k + j) 0 = z := ⟨_, rfl⟩
      rw [ez] at hcz
      have EZ := hh ez
      have hz : 0 ≤ z ∧ z < 4294967296 := ez ▸ HI.o.dg.getD (k + j)
      obtain ⟨hz0, hz1⟩ := hz
      clear ez hol
      obtain ⟨ST, t0, t1⟩ := HI.o.step (t := x * y + z + q) dl dr (by rw [L1.o]; exact hlt) (by rw [L2.o]; exact hjl) (by rw [EX.o, EY.o, EZ.o])
      have HS := hh ST
      clear ST
      have hb := mul_bd ⟨hx0, hx1⟩ ⟨hy0, hy1⟩
      have HC := hh (cellsU_set o (k + j) ((x * y + z + q) % 4294967296))
      have E1 : IntKind.u64.wrap (x * y) = x * y := IntWalk.u64_in _ (by omega)
      have E2 : IntKind.u64.wrap (x * y + z) = x * y + z := IntWalk.u64_in _ (by omega)
      have E3 : IntKind.u64.wrap (x * y + z + q) = x * y + z + q := IntWalk.u64_in _ (by omega)
      have E4 : IntKind.i64.wrap ((k : Int) + (j : Int)) = (k : Int) + (j : Int) := IntWalk.i64_in _ (by omega)
      have E5 : ((k : Int) + (j : Int)).toNat = k + j := by omega
      have hkj : k + j < n + m := by omega
      go_wp2
      refine wrj (by kernel_rfl) ?_
      repeat (go_big_quiet_step (fail))
      refine wq0 fun kq => ?_
      clear E1 E2 E3 E4 E5
      go_wp2
      go_roundw
      case rel => exact ⟨_, j + 1, _, _, rfl, by go_num, by omega, HS.o.c0, HS.o.c1, HS, by rw [HC.o, World.jk_jk]⟩
      case measure => simp [intOf]; omega
     obtain rfl : j = m := by omega
     go_wp2
     go_meet
     exact ⟨q, o, kx, rfl, hq0, hq1, HI, rfl⟩
   case rest =>
    clear HI
    obtain ⟨q, o, kx, rfl, hq0, hq1, HI, rfl⟩ := hcut
    have HR : Hid (MulInv l r (o.set (k + m) q) (k + 1) 0 0) := hh (by
     have := HI.o
     rw [← L2.o] at this ⊢
     exact this.row (by rw [L1.o]; exact hlt))
    have HC := hh (cellsU_set o (k + m) q)
    have hkm : k + m < n + m := by omega
    have hcz := cellsU_at (o := o) (j := k + m) (by rw [HI.o.len, L1.o, L2.o]; omega)
    go_wp2
    go_roundw
    case rel => exact ⟨k + 1, _, kx, by go_num, by omega, HR, by rw [HC.o]⟩
    case measure => simp [intOf]; omega
  obtain rfl : k = n := by omega
  have HD : Hid (dval o = dval l * dval r) := hh (by
   have := HI.o
   rw [← L1.o] at this
   exact this.done)
  have hrd : Rd ((w.alloc (.cells (cellsU o) 240)).jk kx) (some ⟨w.heap.size, 0, none⟩) (k + m) (k + m) o := by
   have hol : o.length = k + m := by rw [HI.o.len, L1.o, L2.o]
   refine ⟨hol, Nat.le_refl _, fun _ => ⟨_, rfl, by simp [World.size_jk]; omega, fun i hi => ?_⟩, fun h => by cases h⟩
   rw [World.cell?_jk, cell_of_row _ _ _ (cellsU o) _ (0, 0) (heap_alloc_new w _)]
   exact cellsU_at (by omega)
  have HRD := hh hrd
  clear hrd
  go_wp2_with (go_at_call 174; refine (itrim_any _ _ _ o _ HRD.o HI.o.dg (by omega)).mono ?_; rintro e w' ⟨A', n', rfl, rfl, hr0, hf'⟩; have hr' := hr0 _ HRD.o; clear hr0)
  go_ret
  refine RetS.of (A := A') (n := n') (c := n') rfl (((Q.refl _).alloc _).jk _) ?_ (hf' w (fun ad e => by cases e; exact Nat.le_refl _))
  rw [← HD.o]
  exact hr'
theorem imulMag_any (A : Option Addr) (n c : Nat) (l : List Int) (B : Option Addr) (m d : Nat) (r : List Int) (w : World) (h1 : Rd w A n c l) (h2 : Rd w B m d r) (dl : Dg l) (dr : Dg r) (hn : n < 10000) (hm : m < 10000) :
  Calls Tryz.prog 173 #[.slice A n c, .slice B m d] w (RetS (dig (dval l * dval r).toNat) w) := by
 rcases Nat.eq_zero_or_pos n with hn0 | hn0
 ·obtain rfl : l = [] := List.eq_nil_of_length_eq_zero (h1.1.trans hn0)
  subst hn0
  have HT : Hid (dig (dval [] * dval r).toNat = []) := hh (by simp [dval, dig_zero])
  clear h1 h2
  go_enter Tryz.func173, Tryz.ntmps173
  go_wp2
  go_ret
  exact RetS.of (A := none) (n := 0) (c := 0) rfl (Q.refl _) (by rw [HT.o]; exact Rd.nil w) (Fr.none w)
 rcases Nat.eq_zero_or_pos m with hm0 | hm0
 ·obtain rfl : r = [] := List.eq_nil_of_length_eq_zero (h2.1.trans hm0)
  subst hm0
  have HT : Hid (dig (dval l * dval []).toNat = []) := hh (by simp [dval, dig_zero])
  have z1 : ((n : Int) == 0) = false := by simp; omega
  clear h1 h2
  go_enter Tryz.func173, Tryz.ntmps173
  go_wp2
  go_ret
  exact RetS.of (A := none) (n := 0) (c := 0) rfl (Q.refl _) (by rw [HT.o]; exact Rd.nil w) (Fr.none w)
 exact imulMag_pos A n c l B m d r w h1 h2 dl dr hn hm hn0 hm0
end Go.Proofs.YtcjflafjmdfanaaGreatDoor
