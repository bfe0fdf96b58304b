
/- What addMag and subMag of package integer return. -/
import Derived.Test.YtcjflafjmdfanaaGreatDoorBr20
import Derived.Test.YtcjflafjmdfanaaGreatDoorBr19
set_option linter.unusedSimpArgs false
set_option linter.unusedVariables false
/- What Of, result, Compare, Sign and Mul of package integer return. -/
namespace Go
open Go.Sub
/-- result made an integer of the sign b and of digits that lie in the slice A. -/
def IRes (b : Bool) (A : Option Addr) (l : List Int) (w : World) (e : Ending) (w' : World) : Prop := ∃ A' n' k, e = .returned (.tuple #[.agg #[.bool b, .slice A' n' n'], .int .i64 0]) ∧ w' = w.jk k ∧ Rd (w.jk k) A' n' n' (trL l) ∧ ∀ W, Fr W A → Fr W A'
theorem Rd.two' (w : World) (a b : Int) (t : TypeId) (g : Nat) (hg : g = w.heap.size) : Rd (w.alloc (.cells #[.int .u32 a, .int .u32 b] t)) (some ⟨g, 0, .none⟩) 2 2 [a, b] := hg ▸ Rd.two w a b t
theorem Rd.swapA {W W' : World} {o : Obj} {A : Option Addr} {n c : Nat} {l : List Int} (hs : W.heap.size = W'.heap.size) (h : Rd (W.alloc o) A n c l) (hf : Fr W A) : Rd (W'.alloc o) A n c l := by
 refine ⟨h.1, h.2.1, fun hn => ?_, h.2.2.2⟩
 obtain ⟨g, rfl, hg, hc⟩ := h.2.2.1 hn
 have hge : W.heap.size ≤ g := hf ⟨g, 0, .none⟩ rfl
 refine ⟨g, rfl, by simp at *; omega, fun i hi => ?_⟩
 rw [← hc i hi]
 refine World.cell?_of_block (w := W.alloc o) (a := ⟨g, i, .none⟩) ?_
 simp only [World.alloc, Array.getElem?_push]
 rw [hs] at hge ⊢
 split
 ·rfl
 ·rw [Array.getElem?_eq_none (by omega), Array.getElem?_eq_none (by omega)]
end Go
namespace Go.Proofs.YtcjflafjmdfanaaGreatDoor
open Go.RowKit Go.Sub
set_option maxHeartbeats 1000000 in
theorem iof_any (z : Int) (w : World) (h0 : -9223372036854775808 ≤ z) (h1 : z ≤ 9223372036854775807) :
  Calls Tryz.prog 157 #[.int .i64 z] w (RetZ z w) := by
 by_cases hz : z < 0
 ·have HT : Hid (trL [-z % 4294967296, -z / 4294967296] = dig z.natAbs) := Lib.hid (by rw [trL_two (-z) (by omega) (by omega)]; congr 1; omega)
  have HD : Hid (Dg [-z % 4294967296, -z / 4294967296]) := Lib.hid (Dg.cons (by omega) (by omega) (Dg.cons (by omega) (by omega) Dg.nil))
  have HN : Hid (IntKind.u64.wrap (-(IntKind.u64.wrap z)) = -z) := Lib.hid (by rw [IntKind.wrap_u64, IntKind.wrap_u64]; omega)
  go_enter Tryz.func157, Tryz.ntmps157
  go_upto_region 4 with (fail)
  rw [HN.out]
  go_wp2_with (go_at_call 174; refine (itrim_any _ _ _ [-z % 4294967296, -z / 4294967296] _ (Rd.two' _ _ _ _ _ (by simp)) HD.out (by decide)).mono ?_; rintro e w' ⟨A', n', rfl, rfl, hr0, hf'⟩; have HR := Lib.hid (hr0 _ (Rd.two' (w.alloc (.cells #[.bool false, .slice none 0 0] 196)) _ _ 240 _ (by simp))); have HF := Lib.hid (hf' (w.alloc (.cells #[.bool false, .slice none 0 0] 196)) (fun ad e => by cases e; simp)); clear hr0 hf')
  refine bodyPost_ret (v := .agg #[.bool (decide (z < 0)), .slice A' n' n']) (by simp [results, Tryz.results157, go_sem, hz]) rfl (RetI.of (A := A') (n := n') (c := n') rfl ?_ ?_ (HF.out.q (by repeat' (first | exact Q.refl _ | refine Q.alloc ?_ _ | refine Q.jk ?_ _ | refine Q.drew ?_))))
  ·repeat' (first | exact Q.refl _ | refine Q.alloc ?_ _ | refine Q.jk ?_ _ | refine Q.drew ?_)
  ·have := HR.out
   rw [HT.out] at this
   exact this.swapA (by simp) HF.out
 ·have HT : Hid (trL [z % 4294967296, z / 4294967296] = dig z.natAbs) := Lib.hid (by rw [trL_two z (by omega) (by omega)]; congr 1; omega)
  have HD : Hid (Dg [z % 4294967296, z / 4294967296]) := Lib.hid (Dg.cons (by omega) (by omega) (Dg.cons (by omega) (by omega) Dg.nil))
  go_enter Tryz.func157, Tryz.ntmps157
  go_wp2_with (go_at_call 174; refine (itrim_any _ _ _ [z % 4294967296, z / 4294967296] _ (Rd.two' _ _ _ _ _ (by simp)) HD.out (by decide)).mono ?_; rintro e w' ⟨A', n', rfl, rfl, hr0, hf'⟩; have HR := Lib.hid (hr0 _ (Rd.two' (w.alloc (.cells #[.bool false, .slice none 0 0] 196)) _ _ 240 _ (by simp))); have HF := Lib.hid (hf' (w.alloc (.cells #[.bool false, .slice none 0 0] 196)) (fun ad e => by cases e; simp)); clear hr0 hf')
  refine bodyPost_ret (v := .agg #[.bool (decide (z < 0)), .slice A' n' n']) (by simp [results, Tryz.results157, go_sem, hz]) rfl (RetI.of (A := A') (n := n') (c := n') rfl ?_ ?_ (HF.out.q (by repeat' (first | exact Q.refl _ | refine Q.alloc ?_ _ | refine Q.jk ?_ _ | refine Q.drew ?_))))
  ·repeat' (first | exact Q.refl _ | refine Q.alloc ?_ _ | refine Q.jk ?_ _ | refine Q.drew ?_)
  ·have := HR.out
   rw [HT.out] at this
   exact this.swapA (by simp) HF.out
set_option maxHeartbeats 1000000 in
theorem iresult_any (b : Bool) (A : Option Addr) (n c : Nat) (l : List Int) (w : World) (h : Rd w A n c l) (hd : Dg l) (hn : n < 100000) (hl : (trL l).length ≤ 12) :
  Calls Tryz.prog 172 #[.bool b, .slice A n c] w (IRes (b && decide (trL l ≠ [])) A l w) := by
 have HX := Lib.hid h
 have HL : Hid ((trL l).length ≤ 400) := Lib.hid (by omega)
 clear h hl
 cases b
 ·rw [Bool.false_and]
  go_enter Tryz.func172, Tryz.ntmps172
  go_wp2_with (go_at_call 174; refine (itrim_any _ _ _ l _ (HX.out.q (by repeat' (first | exact Q.refl _ | refine Q.alloc ?_ _ | refine Q.jk ?_ _ | refine Q.drew ?_))) hd (by omega)).mono ?_; rintro e w' ⟨A', n', rfl, rfl, hr0, hf'⟩; have HR := Lib.hid (hr0 w HX.out); have HF := Lib.hid hf'; clear hr0 hf'; have hn' : n' ≤ 400 := (by rw [← HR.out.1]; exact HL.out))
  refine bodyPost_ret (v := .tuple #[.agg #[.bool false, .slice A' n' n'], .int .i64 0]) (by simp [results, Tryz.results172, go_sem]) rfl ?_
  obtain ⟨kz, hkz⟩ := (show Q w (w.alloc (.cells #[.bool false, .slice A' n' n'] 196)) from (Q.refl _).alloc _)
  exact ⟨A', n', kz, rfl, hkz, HR.out.q ⟨kz, rfl⟩, HF.out⟩
 ·rw [Bool.true_and]
  by_cases ht : trL l = []
  ·have HT := Lib.hid ht
   rw [show decide (trL l ≠ []) = false by simp [ht]]
   clear ht
   go_enter Tryz.func172, Tryz.ntmps172
   go_wp2_with (go_at_call 174; refine (itrim_any _ _ _ l _ (HX.out.q (by repeat' (first | exact Q.refl _ | refine Q.alloc ?_ _ | refine Q.jk ?_ _ | refine Q.drew ?_))) hd (by omega)).mono ?_; rintro e w' ⟨A', n', rfl, rfl, hr0, hf'⟩; have HR := Lib.hid (hr0 w HX.out); have HF := Lib.hid hf'; clear hr0 hf'; have hn' : n' ≤ 400 := (by rw [← HR.out.1]; exact HL.out); obtain rfl : n' = 0 := by (have h1 := HR.out.1; rw [HT.out] at h1; exact h1.symm))
   refine bodyPost_ret (v := .tuple #[.agg #[.bool false, .slice A' 0 0], .int .i64 0]) (by simp [results, Tryz.results172, go_sem]) rfl ?_
   obtain ⟨kz, hkz⟩ := (show Q w (w.alloc (.cells #[.bool false, .slice A' 0 0] 196)) from (Q.refl _).alloc _)
   exact ⟨A', 0, kz, rfl, hkz, HR.out.q ⟨kz, rfl⟩, HF.out⟩
  ·have HT := Lib.hid ht
   rw [show decide (trL l ≠ []) = true by simp [ht]]
   clear ht
   go_enter Tryz.func172, Tryz.ntmps172
   go_wp2_with (go_at_call 174; refine (itrim_any _ _ _ l _ (HX.out.q (by repeat' (first | exact Q.refl _ | refine Q.alloc ?_ _ | refine Q.jk ?_ _ | refine Q.drew ?_))) hd (by omega)).mono ?_; rintro e w' ⟨A', n', rfl, rfl, hr0, hf'⟩; have HR := Lib.hid (hr0 w HX.out); have HF := Lib.hid hf'; clear hr0 hf'; have hn' : n' ≤ 400 := (by rw [← HR.out.1]; exact HL.out); have hn0 : 0 < n' := by (rcases Nat.eq_zero_or_pos n' with h0 | h0; exact absurd (List.eq_nil_of_length_eq_zero (HR.out.1.trans h0)) HT.out; exact h0))
   refine bodyPost_ret (v := .tuple #[.agg #[.bool true, .slice A' n' n'], .int .i64 0]) (by simp [results, Tryz.results172, go_sem]) rfl ?_
   obtain ⟨kz, hkz⟩ := (show Q w (w.alloc (.cells #[.bool true, .slice A' n' n'] 196)) from (Q.refl _).alloc _)
   exact ⟨A', n', kz, rfl, hkz, HR.out.q ⟨kz, rfl⟩, HF.out⟩
set_option maxHeartbeats 1000000 in
theorem icmp_z (b : Bool) (A : Option Addr) (n c : Nat) (x : Int) (b' : Bool) (B : Option Addr) (m d : Nat) (y : Int) (w : World) (bx : b = decide (x < 0)) (rx : Rd w A n c (dig x.natAbs)) (hx : Sm x) (by' : b' = decide (y < 0)) (ry : Rd w B m d (dig y.natAbs)) (hy : Sm y) :
  Calls Tryz.prog 158 #[.agg #[.bool b, .slice A n c], .agg #[.bool b', .slice B m d]] w fun e w' => e = .returned (.int .i64 (cmpI x y)) ∧ Q w w' := by
 have ln : n ≤ 12 := by rw [← rx.1]; exact hx.len
 have lm : m ≤ 12 := by rw [← ry.1]; exact hy.len
 have HX := Lib.hid rx
 have HY := Lib.hid ry
 have BX := Lib.hid bx
 have BY := Lib.hid by'
 clear rx ry
 cases b <;> cases b'
 ·have hx0 : 0 ≤ x := by simpa using bx
  have hy0 : 0 ≤ y := by simpa using by'
  have E := Lib.hid (cmp_abs hx0 hy0)
  clear bx by' hx0 hy0
  go_enter Tryz.func158, Tryz.ntmps158
  go_wp2_with (first | (go_at_call 171; first | ((with_reducible refine (ivalid_z _ _ _ _ x _ BX.out (HX.out.q (by repeat' (first | exact Q.refl _ | refine Q.alloc ?_ _ | refine Q.jk ?_ _ | refine Q.drew ?_))) hx).mono ?_); rintro e w' ⟨rfl, kj, rfl⟩) | ((with_reducible refine (ivalid_z _ _ _ _ y _ BY.out (HY.out.q (by repeat' (first | exact Q.refl _ | refine Q.alloc ?_ _ | refine Q.jk ?_ _ | refine Q.drew ?_))) hy).mono ?_); rintro e w' ⟨rfl, kj, rfl⟩)) | (go_at_call 175; refine (icmpMag_any _ _ _ (dig x.natAbs) _ _ _ (dig y.natAbs) _ (HX.out.q (by repeat' (first | exact Q.refl _ | refine Q.alloc ?_ _ | refine Q.jk ?_ _ | refine Q.drew ?_))) (HY.out.q (by repeat' (first | exact Q.refl _ | refine Q.alloc ?_ _ | refine Q.jk ?_ _ | refine Q.drew ?_))) (dig_Dg _) (dig_Dg _) (dig_Tr _) (dig_Tr _) (by omega) (by omega)).mono ?_; rintro e w' ⟨rfl, kj, rfl⟩))
  go_ret
  refine ⟨by rw [← E.out, ← dval_dg, ← dval_dg]; rfl, ?_⟩
  repeat' (first | exact Q.refl _ | refine Q.alloc ?_ _ | refine Q.jk ?_ _ | refine Q.drew ?_)
 ·have hx0 : 0 ≤ x := by simpa using bx
  have hy0 : y < 0 := by simpa using by'
  have E := Lib.hid (cmp_signs' hx0 hy0)
  clear bx by' hx0 hy0
  go_enter Tryz.func158, Tryz.ntmps158
  go_wp2_with (go_at_call 171; first | ((with_reducible refine (ivalid_z _ _ _ _ x _ BX.out (HX.out.q (by repeat' (first | exact Q.refl _ | refine Q.alloc ?_ _ | refine Q.jk ?_ _ | refine Q.drew ?_))) hx).mono ?_); rintro e w' ⟨rfl, kj, rfl⟩) | ((with_reducible refine (ivalid_z _ _ _ _ y _ BY.out (HY.out.q (by repeat' (first | exact Q.refl _ | refine Q.alloc ?_ _ | refine Q.jk ?_ _ | refine Q.drew ?_))) hy).mono ?_); rintro e w' ⟨rfl, kj, rfl⟩))
  go_ret
  refine ⟨by rw [E.out]; rfl, ?_⟩
  repeat' (first | exact Q.refl _ | refine Q.alloc ?_ _ | refine Q.jk ?_ _ | refine Q.drew ?_)
 ·have hx0 : x < 0 := by simpa using bx
  have hy0 : 0 ≤ y := by simpa using by'
  have E := Lib.hid (cmp_signs hx0 hy0)
  clear bx by' hx0 hy0
  go_enter Tryz.func158, Tryz.ntmps158
  go_wp2_with (go_at_call 171; first | ((with_reducible refine (ivalid_z _ _ _ _ x _ BX.out (HX.out.q (by repeat' (first | exact Q.refl _ | refine Q.alloc ?_ _ | refine Q.jk ?_ _ | refine Q.drew ?_))) hx).mono ?_); rintro e w' ⟨rfl, kj, rfl⟩) | ((with_reducible refine (ivalid_z _ _ _ _ y _ BY.out (HY.out.q (by repeat' (first | exact Q.refl _ | refine Q.alloc ?_ _ | refine Q.jk ?_ _ | refine Q.drew ?_))) hy).mono ?_); rintro e w' ⟨rfl, kj, rfl⟩))
  go_ret
  refine ⟨by rw [E.out]; rfl, ?_⟩
  repeat' (first | exact Q.refl _ | refine Q.alloc ?_ _ | refine Q.jk ?_ _ | refine Q.drew ?_)
 ·have hx0 : x < 0 := by simpa using bx
  have hy0 : y < 0 := by simpa using by'
  have E := Lib.hid (cmp_abs' hx0 hy0)
  clear bx by' hx0 hy0
  go_enter Tryz.func158, Tryz.ntmps158
  go_wp2_with (first | (go_at_call 171; first | ((with_reducible refine (ivalid_z _ _ _ _ x _ BX.out (HX.out.q (by repeat' (first | exact Q.refl _ | refine Q.alloc ?_ _ | refine Q.jk ?_ _ | refine Q.drew ?_))) hx).mono ?_); rintro e w' ⟨rfl, kj, rfl⟩) | ((with_reducible refine (ivalid_z _ _ _ _ y _ BY.out (HY.out.q (by repeat' (first | exact Q.refl _ | refine Q.alloc ?_ _ | refine Q.jk ?_ _ | refine Q.drew ?_))) hy).mono ?_); rintro e w' ⟨rfl, kj, rfl⟩)) | (go_at_call 175; refine (icmpMag_any _ _ _ (dig y.natAbs) _ _ _ (dig x.natAbs) _ (HY.out.q (by repeat' (first | exact Q.refl _ | refine Q.alloc ?_ _ | refine Q.jk ?_ _ | refine Q.drew ?_))) (HX.out.q (by repeat' (first | exact Q.refl _ | refine Q.alloc ?_ _ | refine Q.jk ?_ _ | refine Q.drew ?_))) (dig_Dg _) (dig_Dg _) (dig_Tr _) (dig_Tr _) (by omega) (by omega)).mono ?_; rintro e w' ⟨rfl, kj, rfl⟩))
  go_ret
  refine ⟨by rw [← E.out, ← dval_dg, ← dval_dg]; rfl, ?_⟩
  repeat' (first | exact Q.refl _ | refine Q.alloc ?_ _ | refine Q.jk ?_ _ | refine Q.drew ?_)
set_option maxHeartbeats 1000000 in
theorem isign_z (b : Bool) (A : Option Addr) (n c : Nat) (x : Int) (w : World) (bx : b = decide (x < 0)) (rx : Rd w A n c (dig x.natAbs)) (hx : Sm x) :
  Calls Tryz.prog 155 #[.agg #[.bool b, .slice A n c]] w fun e w' => e = .returned (.int .i64 (sgn x)) ∧ Q w w' := by
 have HX := Lib.hid rx
 have BX := Lib.hid bx
 have HZ : ∀ w, Rd w none 0 0 (dig (0 : Int).natAbs) := fun w => by rw [show (0 : Int).natAbs = 0 from rfl, dig_zero]; exact Rd.nil w
 have HZ' := Lib.hid HZ
 clear rx bx HZ
 rw [← cmp_zero]
 go_enter Tryz.func155, Tryz.ntmps155
 go_wp2_with (go_at_call 158; refine (icmp_z _ _ _ _ x _ _ _ _ 0 _ BX.out (HX.out.q (by repeat' (first | exact Q.refl _ | refine Q.alloc ?_ _ | refine Q.jk ?_ _ | refine Q.drew ?_))) hx (by decide) (HZ'.out _) (Sm.of (by decide) (by decide))).mono ?_; rintro e w' ⟨rfl, kj, rfl⟩)
 go_ret
 refine ⟨rfl, ?_⟩
 repeat' (first | exact Q.refl _ | refine Q.alloc ?_ _ | refine Q.jk ?_ _ | refine Q.drew ?_)
set_option maxHeartbeats 2000000 in
theorem imul_z (b : Bool) (A : Option Addr) (n c : Nat) (x : Int) (b' : Bool) (B : Option Addr) (m d : Nat) (y : Int) (w : World) (bx : b = decide (x < 0)) (rx : Rd w A n c (dig x.natAbs)) (hx : Sm x) (by' : b' = decide (y < 0)) (ry : Rd w B m d (dig y.natAbs)) (hy : Sm y) (hxy : Sm (x * y)) :
    Calls Tryz.prog 156 #[.agg #[.bool b, .slice A n c], .agg #[.bool b', .slice B m d]] w (RetZ2 (x * y) w) := by
  have ln : n ≤ 12 := by rw [← rx.1]; exact hx.len
  have lm : m ≤ 12 := by rw [← ry.1]; exact hy.len
  have HX := Lib.hid rx
  have HY := Lib.hid ry
  have BX := Lib.hid bx
  have BY := Lib.hid by'
  have HL := Lib.hid hxy.len
  have HD := Lib.hid (mul_dig x y)
  have HT : Hid (trL (dig (dval (dig x.natAbs) * dval (dig y.natAbs)).toNat) = dig (x * y).natAbs) := Lib.hid (by rw [trL_dig, HD.out])
  have HS : Hid (((b != b') && decide (trL (dig (dval (dig x.natAbs) * dval (dig y.natAbs)).toNat) ≠ [])) = decide (x * y < 0)) := Lib.hid (by rw [bx, by']; exact mul_sgn _ HT.out)
  clear rx ry bx by'
  cases b <;> cases b'
  · have HS' : Hid ((false && decide (trL (dig (dval (dig x.natAbs) * dval (dig y.natAbs)).toNat) ≠ [])) = decide (x * y < 0)) := Lib.hid HS.out
    clear HS
    go_enter Tryz.func156, Tryz.ntmps156
    go_wp2_with (go_at_call 171; first | ((with_reducible refine (ivalid_z _ _ _ _ x _ BX.out (HX.out.q (by repeat' (first | exact Q.refl _ | refine Q.alloc ?_ _ | refine Q.jk ?_ _ | refine Q.drew ?_))) hx).mono ?_); rintro e w' ⟨rfl, kj, rfl⟩) | ((with_reducible refine (ivalid_z _ _ _ _ y _ BY.out (HY.out.q (by repeat' (first | exact Q.refl _ | refine Q.alloc ?_ _ | refine Q.jk ?_ _ | refine Q.drew ?_))) hy).mono ?_); rintro e w' ⟨rfl, kj, rfl⟩))
    go_region_held3 (fun w' => w'.cell? ⟨w.heap.size, 0, none⟩ = some (.bool false) ∧ w'.cell? ⟨w.heap.size, 1, none⟩ = some (.slice A n c) ∧ w'.cell? ⟨w.heap.size + 1, 0, none⟩ = some (.bool false) ∧ w'.cell? ⟨w.heap.size + 1, 1, none⟩ = some (.slice B m d)) (simp [go_sem])
      (first
       | (go_at_call 173; refine (imulMag_any _ _ _ (dig x.natAbs) _ _ _ (dig y.natAbs) _ (HX.out.q (by repeat' (first | exact Q.refl _ | refine Q.alloc ?_ _ | refine Q.jk ?_ _ | refine Q.drew ?_))) (HY.out.q (by repeat' (first | exact Q.refl _ | refine Q.alloc ?_ _ | refine Q.jk ?_ _ | refine Q.drew ?_))) (dig_Dg _) (dig_Dg _) (by omega) (by omega)).mono ?_; rintro e w' ⟨A1, n1, c1, k1, rfl, rfl, hr1, hf1⟩; have HR1 := Lib.hid hr1; have HF1 := Lib.hid hf1; have HL1 : n1 ≤ 12 := (by rw [← hr1.1, HD.out]; exact HL.out); clear hr1 hf1)
       | (go_at_call 172; refine (iresult_any _ _ _ _ _ _ HR1.out (dig_Dg _) (by omega) (by rw [HT.out]; exact HL.out)).mono ?_; rintro e w' ⟨A2, n2, k2, rfl, rfl, hr2, hf2⟩; have HR2 := Lib.hid hr2; have HF2 := Lib.hid (hf2 _ HF1.out); clear hr2 hf2; rw [HS'.out]))
    rename_i hHeld
    clear hHeld
    go_wp2
    refine bodyPost_ret (v := .tuple #[.agg #[.bool (decide (x * y < 0)), .slice A2 n2 n2], .int .i64 0]) (by simp [results, Tryz.results156, go_sem]) rfl (RetI2.of (A := A2) (n := n2) (c := n2) rfl ?_ ?_ (HF2.out.q (by repeat' (first | exact Q.refl _ | refine Q.alloc ?_ _ | refine Q.jk ?_ _ | refine Q.drew ?_))))
    · repeat' (first | exact Q.refl _ | refine Q.alloc ?_ _ | refine Q.jk ?_ _ | refine Q.drew ?_)
    · have := HR2.out
      rw [HT.out] at this
      exact this.swap4 (by simp) (HF2.out.q (by repeat' (first | exact Q.refl _ | refine Q.alloc ?_ _ | refine Q.jk ?_ _ | refine Q.drew ?_)))
  · have HS' : Hid ((true && decide (trL (dig (dval (dig x.natAbs) * dval (dig y.natAbs)).toNat) ≠ [])) = decide (x * y < 0)) := Lib.hid HS.out
    clear HS
    go_enter Tryz.func156, Tryz.ntmps156
    go_wp2_with (go_at_call 171; first | ((with_reducible refine (ivalid_z _ _ _ _ x _ BX.out (HX.out.q (by repeat' (first | exact Q.refl _ | refine Q.alloc ?_ _ | refine Q.jk ?_ _ | refine Q.drew ?_))) hx).mono ?_); rintro e w' ⟨rfl, kj, rfl⟩) | ((with_reducible refine (ivalid_z _ _ _ _ y _ BY.out (HY.out.q (by repeat' (first | exact Q.refl _ | refine Q.alloc ?_ _ | refine Q.jk ?_ _ | refine Q.drew ?_))) hy).mono ?_); rintro e w' ⟨rfl, kj, rfl⟩))
    go_region_held3 (fun w' => w'.cell? ⟨w.heap.size, 0, none⟩ = some (.bool false) ∧ w'.cell? ⟨w.heap.size, 1, none⟩ = some (.slice A n c) ∧ w'.cell? ⟨w.heap.size + 1, 0, none⟩ = some (.bool true) ∧ w'.cell? ⟨w.heap.size + 1, 1, none⟩ = some (.slice B m d)) (simp [go_sem])
      (first
       | (go_at_call 173; refine (imulMag_any _ _ _ (dig x.natAbs) _ _ _ (dig y.natAbs) _ (HX.out.q (by repeat' (first | exact Q.refl _ | refine Q.alloc ?_ _ | refine Q.jk ?_ _ | refine Q.drew ?_))) (HY.out.q (by repeat' (first | exact Q.refl _ | refine Q.alloc ?_ _ | refine Q.jk ?_ _ | refine Q.drew ?_))) (dig_Dg _) (dig_Dg _) (by omega) (by omega)).mono ?_; rintro e w' ⟨A1, n1, c1, k1, rfl, rfl, hr1, hf1⟩; have HR1 := Lib.hid hr1; have HF1 := Lib.hid hf1; have HL1 : n1 ≤ 12 := (by rw [← hr1.1, HD.out]; exact HL.out); clear hr1 hf1)
       | (go_at_call 172; refine (iresult_any _ _ _ _ _ _ HR1.out (dig_Dg _) (by omega) (by rw [HT.out]; exact HL.out)).mono ?_; rintro e w' ⟨A2, n2, k2, rfl, rfl, hr2, hf2⟩; have HR2 := Lib.hid hr2; have HF2 := Lib.hid (hf2 _ HF1.out); clear hr2 hf2; rw [HS'.out]))
    rename_i hHeld
    clear hHeld
    go_wp2
    refine bodyPost_ret (v := .tuple #[.agg #[.bool (decide (x * y < 0)), .slice A2 n2 n2], .int .i64 0]) (by simp [results, Tryz.results156, go_sem]) rfl (RetI2.of (A := A2) (n := n2) (c := n2) rfl ?_ ?_ (HF2.out.q (by repeat' (first | exact Q.refl _ | refine Q.alloc ?_ _ | refine Q.jk ?_ _ | refine Q.drew ?_))))
    · repeat' (first | exact Q.refl _ | refine Q.alloc ?_ _ | refine Q.jk ?_ _ | refine Q.drew ?_)
    · have := HR2.out
      rw [HT.out] at this
      exact this.swap4 (by simp) (HF2.out.q (by repeat' (first | exact Q.refl _ | refine Q.alloc ?_ _ | refine Q.jk ?_ _ | refine Q.drew ?_)))
  · have HS' : Hid ((true && decide (trL (dig (dval (dig x.natAbs) * dval (dig y.natAbs)).toNat) ≠ [])) = decide (x * y < 0)) := Lib.hid HS.out
    clear HS
    go_enter Tryz.func156, Tryz.ntmps156
    go_wp2_with (go_at_call 171; first | ((with_reducible refine (ivalid_z _ _ _ _ x _ BX.out (HX.out.q (by repeat' (first | exact Q.refl _ | refine Q.alloc ?_ _ | refine Q.jk ?_ _ | refine Q.drew ?_))) hx).mono ?_); rintro e w' ⟨rfl, kj, rfl⟩) | ((with_reducible refine (ivalid_z _ _ _ _ y _ BY.out (HY.out.q (by repeat' (first | exact Q.refl _ | refine Q.alloc ?_ _ | refine Q.jk ?_ _ | refine Q.drew ?_))) hy).mono ?_); rintro e w' ⟨rfl, kj, rfl⟩))
    go_region_held3 (fun w' => w'.cell? ⟨w.heap.size, 0, none⟩ = some (.bool true) ∧ w'.cell? ⟨w.heap.size, 1, none⟩ = some (.slice A n c) ∧ w'.cell? ⟨w.heap.size + 1, 0, none⟩ = some (.bool false) ∧ w'.cell? ⟨w.heap.size + 1, 1, none⟩ = some (.slice B m d)) (simp [go_sem])
      (first
       | (go_at_call 173; refine (imulMag_any _ _ _ (dig x.natAbs) _ _ _ (dig y.natAbs) _ (HX.out.q (by repeat' (first | exact Q.refl _ | refine Q.alloc ?_ _ | refine Q.jk ?_ _ | refine Q.drew ?_))) (HY.out.q (by repeat' (first | exact Q.refl _ | refine Q.alloc ?_ _ | refine Q.jk ?_ _ | refine Q.drew ?_))) (dig_Dg _) (dig_Dg _) (by omega) (by omega)).mono ?_; rintro e w' ⟨A1, n1, c1, k1, rfl, rfl, hr1, hf1⟩; have HR1 := Lib.hid hr1; have HF1 := Lib.hid hf1; have HL1 : n1 ≤ 12 := (by rw [← hr1.1, HD.out]; exact HL.out); clear hr1 hf1)
       | (go_at_call 172; refine (iresult_any _ _ _ _ _ _ HR1.out (dig_Dg _) (by omega) (by rw [HT.out]; exact HL.out)).mono ?_; rintro e w' ⟨A2, n2, k2, rfl, rfl, hr2, hf2⟩; have HR2 := Lib.hid hr2; have HF2 := Lib.hid (hf2 _ HF1.out); clear hr2 hf2; rw [HS'.out]))
    rename_i hHeld
    clear hHeld
    go_wp2
    refine bodyPost_ret (v := .tuple #[.agg #[.bool (decide (x * y < 0)), .slice A2 n2 n2], .int .i64 0]) (by simp [results, Tryz.results156, go_sem]) rfl (RetI2.of (A := A2) (n := n2) (c := n2) rfl ?_ ?_ (HF2.out.q (by repeat' (first | exact Q.refl _ | refine Q.alloc ?_ _ | refine Q.jk ?_ _ | refine Q.drew ?_))))
    · repeat' (first | exact Q.refl _ | refine Q.alloc ?_ _ | refine Q.jk ?_ _ | refine Q.drew ?_)
    · have := HR2.out
      rw [HT.out] at this
      exact this.swap4 (by simp) (HF2.out.q (by repeat' (first | exact Q.refl _ | refine Q.alloc ?_ _ | refine Q.jk ?_ _ | refine Q.drew ?_)))
  · have HS' : Hid ((false && decide (trL (dig (dval (dig x.natAbs) * dval (dig y.natAbs)).toNat) ≠ [])) = decide (x * y < 0)) := Lib.hid HS.out
    clear HS
    go_enter Tryz.func156, Tryz.ntmps156
    go_wp2_with (go_at_call 171; first | ((with_reducible refine (ivalid_z _ _ _ _ x _ BX.out (HX.out.q (by repeat' (first | exact Q.refl _ | refine Q.alloc ?_ _ | refine Q.jk ?_ _ | refine Q.drew ?_))) hx).mono ?_); rintro e w' ⟨rfl, kj, rfl⟩) | ((with_reducible refine (ivalid_z _ _ _ _ y _ BY.out (HY.out.q (by repeat' (first | exact Q.refl _ | refine Q.alloc ?_ _ | refine Q.jk ?_ _ | refine Q.drew ?_))) hy).mono ?_); rintro e w' ⟨rfl, kj, rfl⟩))
    go_region_held3 (fun w' => w'.cell? ⟨w.heap.size, 0, none⟩ = some (.bool true) ∧ w'.cell? ⟨w.heap.size, 1, none⟩ = some (.slice A n c) ∧ w'.cell? ⟨w.heap.size + 1, 0, none⟩ = some (.bool true) ∧ w'.cell? ⟨w.heap.size + 1, 1, none⟩ = some (.slice B m d)) (simp [go_sem])
      (first
       | (go_at_call 173; refine (imulMag_any _ _ _ (dig x.natAbs) _ _ _ (dig y.natAbs) _ (HX.out.q (by repeat' (first | exact Q.refl _ | refine Q.alloc ?_ _ | refine Q.jk ?_ _ | refine Q.drew ?_))) (HY.out.q (by repeat' (first | exact Q.refl _ | refine Q.alloc ?_ _ | refine Q.jk ?_ _ | refine Q.drew ?_))) (dig_Dg _) (dig_Dg _) (by omega) (by omega)).mono ?_; rintro e w' ⟨A1, n1, c1, k1, rfl, rfl, hr1, hf1⟩; have HR1 := Lib.hid hr1; have HF1 := Lib.hid hf1; have HL1 : n1 ≤ 12 := (by rw [← hr1.1, HD.out]; exact HL.out); clear hr1 hf1)
       | (go_at_call 172; refine (iresult_any _ _ _ _ _ _ HR1.out (dig_Dg _) (by omega) (by rw [HT.out]; exact HL.out)).mono ?_; rintro e w' ⟨A2, n2, k2, rfl, rfl, hr2, hf2⟩; have HR2 := Lib.hid hr2; have HF2 := Lib.hid (hf2 _ HF1.out); clear hr2 hf2; rw [HS'.out]))
    rename_i hHeld
    clear hHeld
    go_wp2
    refine bodyPost_ret (v := .tuple #[.agg #[.bool (decide (x * y < 0)), .slice A2 n2 n2], .int .i64 0]) (by simp [results, Tryz.results156, go_sem]) rfl (RetI2.of (A := A2) (n := n2) (c := n2) rfl ?_ ?_ (HF2.out.q (by repeat' (first | exact Q.refl _ | refine Q.alloc ?_ _ | refine Q.jk ?_ _ | refine Q.drew ?_))))
    · repeat' (first | exact Q.refl _ | refine Q.alloc ?_ _ | refine Q.jk ?_ _ | refine Q.drew ?_)
    · have := HR2.out
      rw [HT.out] at this
      exact this.swap4 (by simp) (HF2.out.q (by repeat' (first | exact Q.refl _ | refine Q.alloc ?_ _ | refine Q.jk ?_ _ | refine Q.drew ?_)))
end Go.Proofs.YtcjflafjmdfanaaGreatDoor
namespace Go.Sub
theorem take_set_succ (o : List Int) (i : Nat) (d : Int) (h : i < o.length) : (o.set i d).take (i + 1) = o.take i ++ [d] := by
 rw [List.take_succ_eq_append_getElem (by simpa using h), List.getElem_set_self, List.take_set_of_le (Nat.le_refl _)]
end Go.Sub
namespace Go.Proofs.YtcjflafjmdfanaaGreatDoor
open Go.RowKit Go.Sub
set_option maxRecDepth 100000 in
set_option maxHeartbeats 2000000 in
theorem iaddMag_ge (A : Option Addr) (n c : Nat) (l : List Int) (B : Option Addr) (m d : Nat) (r : List Int) (w : World) (h1 : Rd w A n c l) (h2 : Rd w B m d r) (dl : Dg l) (dr : Dg r) (hn : n < 10000) (hmn : m ≤ n) :
  Calls Tryz.prog 183 #[.slice A n c, .slice B m d] w (RetS (dig (dval l + dval r).toNat) w) := by
 have L1 := Lib.hid h1.1
 have L2 := Lib.hid h2.1
 have H1 := Lib.hid h1
 have H2 := Lib.hid h2
 clear h1 h2
 have hmk := make_u32 w (n + 1) (n + 1) (by omega) (by omega)
 go_enter Tryz.func183, Tryz.ntmps183
 go_wp2
 clear hmk
 go_loopw [6, 22] (fun s6 i wr => ∃ (q : Int) (i' : Nat) (o : List Int) (kx : Jk), s6 = .int .u64 q ∧ i = .int .i64 i' ∧ i' ≤ n ∧ Hid (AddInv l r (o.take i') i' q) ∧ Hid (o.length = n + 1) ∧ Hid (Dg o) ∧ wr = (w.alloc (.cells (cellsU o) 240)).jk kx) (fun _ i _ => n - (intOf i).toNat)
 case atStart =>
  obtain ⟨k0, hk0⟩ := Q.refl (w.alloc (.cells (cellsU (List.replicate (n + 1) 0)) 240))
  exact ⟨0, 0, List.replicate (n + 1) 0, k0, rfl, rfl, Nat.zero_le _, Lib.hid (AddInv.start l r), Lib.hid (by simp), Lib.hid (fun d hd => by have := List.eq_of_mem_replicate hd; omega), hk0⟩
 case round =>
  obtain ⟨q, i, o, kx, rfl, rfl, hi, HI, HO, DR, rfl⟩ := hrel
  have hq0 := HI.out.c0
  have hq1 := HI.out.c1
  obtain ⟨x, ex⟩ : ∃ x, l.getD i 0 = x := ⟨_, rfl⟩
  obtain ⟨y, ey⟩ : ∃ y, r.getD i 0 = y := ⟨_, rfl⟩
  have hx : 0 ≤ x ∧ x < 4294967296 := ex ▸ dl.getD i
  have hy : 0 ≤ y ∧ y < 4294967296 := ey ▸ dr.getD i
  obtain ⟨hx0, hx1⟩ := hx
  obtain ⟨hy0, hy1⟩ := hy
  have EX := Lib.hid ex
  have EY := Lib.hid ey
  clear ex ey
  by_cases hin : i < n
  ·by_cases him : i < m
   ·obtain ⟨ST, t0, t1⟩ := HI.out.step (t := x + q + y) dl dr (by rw [EX.out, EY.out]; omega)
    rw [← take_set_succ o i _ (by rw [HO.out]; omega)] at ST
    have HS := Lib.hid ST
    clear ST
    obtain ⟨g, rfl, hOld, hc⟩ := H1.out.at_ (by omega)
    have hcx := hc.out i hin
    rw [EX.out] at hcx
    clear hc
    obtain ⟨g', rfl, hOld', hc'⟩ := H2.out.at_ (by omega)
    have hcy := hc'.out i him
    rw [EY.out] at hcy
    clear hc'
    have hcz := cellsU_at (o := o) (j := i) (by rw [HO.out]; omega)
    obtain ⟨z, ez⟩ : ∃ z, o.getD i 0 = z := ⟨_, rfl⟩
    rw [ez] at hcz
    clear ez
    have HC := Lib.hid (cellsU_set o i ((x + q + y) % 4294967296))
    have hi1 : i < n + 1 := by omega
    go_wp2
    go_roundw
    case rel => exact ⟨_, i + 1, _, kx, rfl, by go_num, by omega, HS, Lib.hid (by rw [List.length_set]; exact HO.out), Lib.hid (DR.out.set i (by omega) (by omega)), by rw [HC.out]⟩
    case measure => simp [intOf]; omega
   ·have hy' : y = 0 := by rw [← EY.out]; exact getD_ge (by rw [L2.out]; omega)
    obtain ⟨ST, t0, t1⟩ := HI.out.step (t := x + q) dl dr (by rw [EX.out, EY.out]; omega)
    rw [← take_set_succ o i _ (by rw [HO.out]; omega)] at ST
    have HS := Lib.hid ST
    clear ST
    clear hy'
    obtain ⟨g, rfl, hOld, hc⟩ := H1.out.at_ (by omega)
    have hcx := hc.out i hin
    rw [EX.out] at hcx
    clear hc
    have hcz := cellsU_at (o := o) (j := i) (by rw [HO.out]; omega)
    obtain ⟨z, ez⟩ : ∃ z, o.getD i 0 = z := ⟨_, rfl⟩
    rw [ez] at hcz
    clear ez
    have HC := Lib.hid (cellsU_set o i ((x + q) % 4294967296))
    have hi1 : i < n + 1 := by omega
    go_wp2
    go_roundw
    case rel => exact ⟨_, i + 1, _, kx, rfl, by go_num, by omega, HS, Lib.hid (by rw [List.length_set]; exact HO.out), Lib.hid (DR.out.set i (by omega) (by omega)), by rw [HC.out]⟩
    case measure => simp [intOf]; omega
  ·obtain rfl : i = n := by omega
   have hcz := cellsU_at (o := o) (j := i) (by rw [HO.out]; omega)
   obtain ⟨z, ez⟩ : ∃ z, o.getD i 0 = z := ⟨_, rfl⟩
   rw [ez] at hcz
   clear ez
   have HC := Lib.hid (cellsU_set o i q)
   have HD : Hid (Dg (o.set i q)) := Lib.hid (DR.out.set i (by omega) (by omega))
   have HV : Hid (dval (o.set i q) = dval l + dval r) := Lib.hid (by
    have hv := HI.out.val
    rw [List.take_of_length_le (l := l) (by rw [L1.out]; exact Nat.le_refl _), List.take_of_length_le (l := r) (by rw [L2.out]; omega)] at hv
    have e1 : (o.set i q).take (i + 1) = o.set i q := List.take_of_length_le (by rw [List.length_set, HO.out]; exact Nat.le_refl _)
    rw [← e1, take_set_succ o i q (by rw [HO.out]; omega), dval_snoc, List.length_take, HO.out, Nat.min_eq_left (by omega)]
    omega)
   have hrd : ∀ k, Rd ((w.alloc (.cells (cellsU (o.set i q)) 240)).jk k) (some ⟨w.heap.size, 0, none⟩) (i + 1) (i + 1) (o.set i q) := fun k => by
    have hol : (o.set i q).length = i + 1 := by rw [List.length_set, HO.out]
    refine ⟨hol, Nat.le_refl _, fun _ => ⟨_, rfl, by simp [World.size_jk]; omega, fun j hj => ?_⟩, fun h => by cases h⟩
    rw [World.cell?_jk, cell_of_row _ _ _ (cellsU (o.set i q)) _ (0, 0) (heap_alloc_new w _)]
    exact cellsU_at (by omega)
   have HRD := Lib.hid hrd
   clear hrd
   have hi1 : i < i + 1 := by omega
   go_wp2_with (go_at_call 174; rw [HC.out]; refine (itrim_any _ _ _ (o.set i q) _ (HRD.out _) HD.out (by omega)).mono ?_; rintro e w' ⟨A', n', rfl, rfl, hr0, hf'⟩; have hr' := hr0 _ (HRD.out kx); clear hr0)
   go_ret
   refine RetS.of (A := A') (n := n') (c := n') rfl (((Q.refl _).alloc _).jk _) ?_ (hf' w (fun ad e => by cases e; exact Nat.le_refl _))
   rw [← HV.out]
   exact hr'
set_option maxRecDepth 100000 in
set_option maxHeartbeats 2000000 in
theorem iaddMag_lt (A : Option Addr) (n c : Nat) (l : List Int) (B : Option Addr) (m d : Nat) (r : List Int) (w : World) (h1 : Rd w A n c l) (h2 : Rd w B m d r) (dl : Dg l) (dr : Dg r) (hn : n < 10000) (hmn : m < n) :
  Calls Tryz.prog 183 #[.slice B m d, .slice A n c] w (RetS (dig (dval l + dval r).toNat) w) := by
 have L1 := Lib.hid h1.1
 have L2 := Lib.hid h2.1
 have H1 := Lib.hid h1
 have H2 := Lib.hid h2
 clear h1 h2
 have hmk := make_u32 w (n + 1) (n + 1) (by omega) (by omega)
 go_enter Tryz.func183, Tryz.ntmps183
 go_wp2
 clear hmk
 go_loopw [6, 22] (fun s6 i wr => ∃ (q : Int) (i' : Nat) (o : List Int) (kx : Jk), s6 = .int .u64 q ∧ i = .int .i64 i' ∧ i' ≤ n ∧ Hid (AddInv l r (o.take i') i' q) ∧ Hid (o.length = n + 1) ∧ Hid (Dg o) ∧ wr = (w.alloc (.cells (cellsU o) 240)).jk kx) (fun _ i _ => n - (intOf i).toNat)
 case atStart =>
  obtain ⟨k0, hk0⟩ := Q.refl (w.alloc (.cells (cellsU (List.replicate (n + 1) 0)) 240))
  exact ⟨0, 0, List.replicate (n + 1) 0, k0, rfl, rfl, Nat.zero_le _, Lib.hid (AddInv.start l r), Lib.hid (by simp), Lib.hid (fun d hd => by have := List.eq_of_mem_replicate hd; omega), hk0⟩
 case round =>
  obtain ⟨q, i, o, kx, rfl, rfl, hi, HI, HO, DR, rfl⟩ := hrel
  have hq0 := HI.out.c0
  have hq1 := HI.out.c1
  obtain ⟨x, ex⟩ : ∃ x, l.getD i 0 = x := ⟨_, rfl⟩
  obtain ⟨y, ey⟩ : ∃ y, r.getD i 0 = y := ⟨_, rfl⟩
  have hx : 0 ≤ x ∧ x < 4294967296 := ex ▸ dl.getD i
  have hy : 0 ≤ y ∧ y < 4294967296 := ey ▸ dr.getD i
  obtain ⟨hx0, hx1⟩ := hx
  obtain ⟨hy0, hy1⟩ := hy
  have EX := Lib.hid ex
  have EY := Lib.hid ey
  clear ex ey
  by_cases hin : i < n
  ·by_cases him : i < m
   ·obtain ⟨ST, t0, t1⟩ := HI.out.step (t := x + q + y) dl dr (by rw [EX.out, EY.out]; omega)
    rw [← take_set_succ o i _ (by rw [HO.out]; omega)] at ST
    have HS := Lib.hid ST
    clear ST
    obtain ⟨g, rfl, hOld, hc⟩ := H1.out.at_ (by omega)
    have hcx := hc.out i hin
    rw [EX.out] at hcx
    clear hc
    obtain ⟨g', rfl, hOld', hc'⟩ := H2.out.at_ (by omega)
    have hcy := hc'.out i him
    rw [EY.out] at hcy
    clear hc'
    have hcz := cellsU_at (o := o) (j := i) (by rw [HO.out]; omega)
    obtain ⟨z, ez⟩ : ∃ z, o.getD i 0 = z := ⟨_, rfl⟩
    rw [ez] at hcz
    clear ez
    have HC := Lib.hid (cellsU_set o i ((x + q + y) % 4294967296))
    have hi1 : i < n + 1 := by omega
    go_wp2
    go_roundw
    case rel => exact ⟨_, i + 1, _, kx, rfl, by go_num, by omega, HS, Lib.hid (by rw [List.length_set]; exact HO.out), Lib.hid (DR.out.set i (by omega) (by omega)), by rw [HC.out]⟩
    case measure => simp [intOf]; omega
   ·have hy' : y = 0 := by rw [← EY.out]; exact getD_ge (by rw [L2.out]; omega)
    obtain ⟨ST, t0, t1⟩ := HI.out.step (t := x + q) dl dr (by rw [EX.out, EY.out]; omega)
    rw [← take_set_succ o i _ (by rw [HO.out]; omega)] at ST
    have HS := Lib.hid ST
    clear ST
    clear hy'
    obtain ⟨g, rfl, hOld, hc⟩ := H1.out.at_ (by omega)
    have hcx := hc.out i hin
    rw [EX.out] at hcx
    clear hc
    have hcz := cellsU_at (o := o) (j := i) (by rw [HO.out]; omega)
    obtain ⟨z, ez⟩ : ∃ z, o.getD i 0 = z := ⟨_, rfl⟩
    rw [ez] at hcz
    clear ez
    have HC := Lib.hid (cellsU_set o i ((x + q) % 4294967296))
    have hi1 : i < n + 1 := by omega
    go_wp2
    go_roundw
    case rel => exact ⟨_, i + 1, _, kx, rfl, by go_num, by omega, HS, Lib.hid (by rw [List.length_set]; exact HO.out), Lib.hid (DR.out.set i (by omega) (by omega)), by rw [HC.out]⟩
    case measure => simp [intOf]; omega
  ·obtain rfl : i = n := by omega
   have hcz := cellsU_at (o := o) (j := i) (by rw [HO.out]; omega)
   obtain ⟨z, ez⟩ : ∃ z, o.getD i 0 = z := ⟨_, rfl⟩
   rw [ez] at hcz
   clear ez
   have HC := Lib.hid (cellsU_set o i q)
   have HD : Hid (Dg (o.set i q)) := Lib.hid (DR.out.set i (by omega) (by omega))
   have HV : Hid (dval (o.set i q) = dval l + dval r) := Lib.hid (by
    have hv := HI.out.val
    rw [List.take_of_length_le (l := l) (by rw [L1.out]; exact Nat.le_refl _), List.take_of_length_le (l := r) (by rw [L2.out]; omega)] at hv
    have e1 : (o.set i q).take (i + 1) = o.set i q := List.take_of_length_le (by rw [List.length_set, HO.out]; exact Nat.le_refl _)
    rw [← e1, take_set_succ o i q (by rw [HO.out]; omega), dval_snoc, List.length_take, HO.out, Nat.min_eq_left (by omega)]
    omega)
   have hrd : ∀ k, Rd ((w.alloc (.cells (cellsU (o.set i q)) 240)).jk k) (some ⟨w.heap.size, 0, none⟩) (i + 1) (i + 1) (o.set i q) := fun k => by
    have hol : (o.set i q).length = i + 1 := by rw [List.length_set, HO.out]
    refine ⟨hol, Nat.le_refl _, fun _ => ⟨_, rfl, by simp [World.size_jk]; omega, fun j hj => ?_⟩, fun h => by cases h⟩
    rw [World.cell?_jk, cell_of_row _ _ _ (cellsU (o.set i q)) _ (0, 0) (heap_alloc_new w _)]
    exact cellsU_at (by omega)
   have HRD := Lib.hid hrd
   clear hrd
   have hi1 : i < i + 1 := by omega
   go_wp2_with (go_at_call 174; rw [HC.out]; refine (itrim_any _ _ _ (o.set i q) _ (HRD.out _) HD.out (by omega)).mono ?_; rintro e w' ⟨A', n', rfl, rfl, hr0, hf'⟩; have hr' := hr0 _ (HRD.out kx); clear hr0)
   go_ret
   refine RetS.of (A := A') (n := n') (c := n') rfl (((Q.refl _).alloc _).jk _) ?_ (hf' w (fun ad e => by cases e; exact Nat.le_refl _))
   rw [← HV.out]
   exact hr'
theorem iaddMag_any (A : Option Addr) (n c : Nat) (l : List Int) (B : Option Addr) (m d : Nat) (r : List Int) (w : World) (h1 : Rd w A n c l) (h2 : Rd w B m d r) (dl : Dg l) (dr : Dg r) (hn : n < 10000) (hm : m < 10000) :
  Calls Tryz.prog 183 #[.slice A n c, .slice B m d] w (RetS (dig (dval l + dval r).toNat) w) := by
 rcases Nat.lt_or_ge n m with h | h
 ·rw [Int.add_comm]
  exact iaddMag_lt B m d r A n c l w h2 h1 dr dl hm h
 ·exact iaddMag_ge A n c l B m d r w h1 h2 dl dr hn h
set_option maxRecDepth 100000 in
set_option maxHeartbeats 2000000 in
theorem isubMag_any (A : Option Addr) (n c : Nat) (l : List Int) (B : Option Addr) (m d : Nat) (r : List Int) (w : World) (h1 : Rd w A n c l) (h2 : Rd w B m d r) (dl : Dg l) (dr : Dg r) (tr : Tr r) (hle : dval r ≤ dval l) (hn : n < 10000) :
  Calls Tryz.prog 184 #[.slice A n c, .slice B m d] w (RetS (dig (dval l - dval r).toNat) w) := by
 have hml : m ≤ n := by rw [← h1.1, ← h2.1]; exact len_le_of_dval dl dr tr hle
 have L1 := Lib.hid h1.1
 have L2 := Lib.hid h2.1
 have H1 := Lib.hid h1
 have H2 := Lib.hid h2
 have HLE := Lib.hid hle
 clear h1 h2 hle
 have hmk := make_u32 w n n (by omega) (by omega)
 go_enter Tryz.func184, Tryz.ntmps184
 go_wp2
 clear hmk
 go_loopw [6, 14] (fun s6 i wr => ∃ (q : Int) (i' : Nat) (o : List Int) (kx : Jk), s6 = .int .u64 q ∧ i = .int .i64 i' ∧ i' ≤ n ∧ Hid (SubInv l r (o.take i') i' q) ∧ Hid (o.length = n) ∧ Hid (Dg o) ∧ wr = (w.alloc (.cells (cellsU o) 240)).jk kx) (fun _ i _ => n - (intOf i).toNat)
 case atStart =>
  obtain ⟨k0, hk0⟩ := Q.refl (w.alloc (.cells (cellsU (List.replicate n 0)) 240))
  exact ⟨0, 0, List.replicate n 0, k0, rfl, rfl, Nat.zero_le _, Lib.hid (SubInv.start l r), Lib.hid (by simp), Lib.hid (fun d hd => by have := List.eq_of_mem_replicate hd; omega), hk0⟩
 case round =>
  obtain ⟨q, i, o, kx, rfl, rfl, hi, HI, HO, DR, rfl⟩ := hrel
  have hq0 := HI.out.c0
  have hq1 := HI.out.c1
  obtain ⟨x, ex⟩ : ∃ x, l.getD i 0 = x := ⟨_, rfl⟩
  obtain ⟨y, ey⟩ : ∃ y, r.getD i 0 = y := ⟨_, rfl⟩
  have hx : 0 ≤ x ∧ x < 4294967296 := ex ▸ dl.getD i
  have hy : 0 ≤ y ∧ y < 4294967296 := ey ▸ dr.getD i
  obtain ⟨hx0, hx1⟩ := hx
  obtain ⟨hy0, hy1⟩ := hy
  have EX := Lib.hid ex
  have EY := Lib.hid ey
  clear ex ey
  by_cases hin : i < n
  ·by_cases him : i < m
   ·obtain ⟨ST, t0, t1⟩ := HI.out.step (t := (x - q - y) % 18446744073709551616) dl dr (by rw [EX.out, EY.out])
    rw [← take_set_succ o i _ (by rw [HO.out]; omega)] at ST
    have HS := Lib.hid ST
    clear ST
    obtain ⟨g, rfl, hOld, hc⟩ := H1.out.at_ (by omega)
    have hcx := hc.out i hin
    rw [EX.out] at hcx
    clear hc
    obtain ⟨g', rfl, hOld', hc'⟩ := H2.out.at_ (by omega)
    have hcy := hc'.out i him
    rw [EY.out] at hcy
    clear hc'
    obtain ⟨tt, htt⟩ : ∃ tt, tt = (x - q - y) % 18446744073709551616 := ⟨_, rfl⟩
    have E1 : Hid (IntKind.u64.wrap (IntKind.u64.wrap (x - q) - y) = tt) := Lib.hid (by rw [htt, IntKind.wrap_u64, IntKind.wrap_u64]; omega)
    rw [← htt] at HS t0 t1
    clear htt
    have hcz := cellsU_at (o := o) (j := i) (by rw [HO.out]; omega)
    obtain ⟨z, ez⟩ : ∃ z, o.getD i 0 = z := ⟨_, rfl⟩
    rw [ez] at hcz
    clear ez
    have HC := Lib.hid (cellsU_set o i (tt % 4294967296))
    go_upto_region 9 with (fail)
    rw [E1.out]
    go_wp2
    go_roundw
    case rel => exact ⟨_, i + 1, _, kx, rfl, by go_num, by omega, HS, Lib.hid (by rw [List.length_set]; exact HO.out), Lib.hid (DR.out.set i (by omega) (by omega)), by rw [HC.out]⟩
    case measure => simp [intOf]; omega
   ·have hy' : y = 0 := by rw [← EY.out]; exact getD_ge (by rw [L2.out]; omega)
    obtain ⟨ST, t0, t1⟩ := HI.out.step (t := (x - q) % 18446744073709551616) dl dr (by rw [EX.out, EY.out]; rw [hy', Int.sub_zero])
    rw [← take_set_succ o i _ (by rw [HO.out]; omega)] at ST
    have HS := Lib.hid ST
    clear ST
    clear hy'
    obtain ⟨g, rfl, hOld, hc⟩ := H1.out.at_ (by omega)
    have hcx := hc.out i hin
    rw [EX.out] at hcx
    clear hc
    obtain ⟨tt, htt⟩ : ∃ tt, tt = (x - q) % 18446744073709551616 := ⟨_, rfl⟩
    have E1 : Hid (IntKind.u64.wrap (x - q) = tt) := Lib.hid (by rw [htt, IntKind.wrap_u64])
    rw [← htt] at HS t0 t1
    clear htt
    have hcz := cellsU_at (o := o) (j := i) (by rw [HO.out]; omega)
    obtain ⟨z, ez⟩ : ∃ z, o.getD i 0 = z := ⟨_, rfl⟩
    rw [ez] at hcz
    clear ez
    have HC := Lib.hid (cellsU_set o i (tt % 4294967296))
    go_upto_region 9 with (fail)
    rw [E1.out]
    go_wp2
    go_roundw
    case rel => exact ⟨_, i + 1, _, kx, rfl, by go_num, by omega, HS, Lib.hid (by rw [List.length_set]; exact HO.out), Lib.hid (DR.out.set i (by omega) (by omega)), by rw [HC.out]⟩
    case measure => simp [intOf]; omega
  ·obtain rfl : i = n := by omega
   have HV : Hid (dval o = dval l - dval r) := Lib.hid (by
    have hI := HI.out
    rw [List.take_of_length_le (by rw [HO.out]; exact Nat.le_refl _), ← L1.out] at hI
    exact hI.done (by rw [L1.out, L2.out]; exact hml) HLE.out)
   have hrd : Rd ((w.alloc (.cells (cellsU o) 240)).jk kx) (some ⟨w.heap.size, 0, none⟩) i i o := by
    refine ⟨HO.out, Nat.le_refl _, fun _ => ⟨_, rfl, by simp [World.size_jk]; omega, fun j hj => ?_⟩, fun h => by cases h⟩
    rw [World.cell?_jk, cell_of_row _ _ _ (cellsU o) _ (0, 0) (heap_alloc_new w _)]
    exact cellsU_at (by rw [HO.out]; exact hj)
   have HRD := Lib.hid hrd
   clear hrd
   go_wp2_with (go_at_call 174; refine (itrim_any _ _ _ o _ HRD.out DR.out (by omega)).mono ?_; rintro e w' ⟨A', n', rfl, rfl, hr0, hf'⟩; have hr' := hr0 _ HRD.out; clear hr0)
   go_ret
   refine RetS.of (A := A') (n := n') (c := n') rfl (((Q.refl _).alloc _).jk _) ?_ (hf' w (fun ad e => by cases e; exact Nat.le_refl _))
   rw [← HV.out]
   exact hr'
end Go.Proofs.YtcjflafjmdfanaaGreatDoor
