
/- What addMag and subMag of package integer return. -/
import Derived.Test.YtcjflafjmdfanaaGreatDoorBv05
set_option maxHeartbeats 64000000
set_option maxRecDepth 100000
set_option linter.unusedSimpArgs false
set_option linter.unusedVariables false
/- What Of, result, Compare, Sign and Mul of package integer return. -/
namespace Go
open Go.Sub
def IRes (b : Bool) (A : Option Addr) (l : List Int) (w : World) (e : Ending) (w' : World) : Prop := ∃ A' n' k, e = .returned (.tuple #[.agg #[.bool b, .slice A' n' n'], .int .i64 0]) ∧ w' = w.jk k ∧ Rd (w.jk k) A' n' n' (trL l) ∧ ∀ W, Fr W A → Fr W A'
theorem Rd.two' (w : World) (a b : Int) (t : TypeId) (g : Nat) (hg : g = w.heap.size) : Rd (w.alloc (.cells #[.int .u32 a, .int .u32 b] t)) (some ⟨g, 0, .none⟩) 2 2 [a, b] := hg ▸ Rd.two w a b t
theorem Rd.swapA {W W' : World} {o : Obj} {A : Option Addr} {n c : Nat} {l : List Int} (hs : W.heap.size = W'.heap.size) (h : Rd (W.alloc o) A n c l) (hf : Fr W A) : Rd (W'.alloc o) A n c l := by
 refine ⟨h.1, h.2.1, fun hn => ?_, h.2.2.2⟩
 obtain ⟨g, rfl, hg, hc⟩ := h.2.2.1 hn
 have hge : W.heap.size ≤ g := hf ⟨g, 0, .none⟩ rfl
 refine ⟨g, rfl, by simp at *; omega, fun i hi => ?_⟩
 rw [← hc i hi]
 refine World.cell?_of_block (w := W.alloc o) (a := ⟨g, i, .none⟩) ?_
 simp only [World.alloc, Array.getElem?_push]
 rw [hs] at hge ⊢
 split
 ·rfl
 rw [Array.getElem?_eq_none (by omega), Array.getElem?_eq_none (by omega)]
end Go
namespace Go.Proofs.YtcjflafjmdfanaaGreatDoor
open Go.RowKit Go.Sub
theorem iof_any (z : Int) (w : World) (h0 : -9223372036854775808 ≤ z) (h1 : z ≤ 9223372036854775807) :
  Calls Tryz.prog 157 #[.int .i64 z] w (RetZ z w) := by
 by_cases hz : z < 0
 rotate_left
 ·have HT : Hid (trL [z % 4294967296, z / 4294967296] = dig z.natAbs) := hh (by rw [trL_two z (by omega) (by omega)]; congr 1; omega)
  have HD : Hid (Dg [z % 4294967296, z / 4294967296]) := hh (Dg.cons (by omega) (by omega) (Dg.cons (by omega) (by omega) Dg.nil))
  go_enter Tryz.func157, Tryz.ntmps157
  go_wp2_with (go_at_call 174; refine (itrim_any _ _ _ [z % 4294967296, z / 4294967296] _ (Rd.two' _ _ _ _ _ (by simp)) HD.o (by decide)).mono ?_; rintro e w' ⟨A', n', rfl, rfl, hr0, hf'⟩; have HR := hh (hr0 _ (Rd.two' (w.alloc (.cells #[.bool false, .slice none 0 0] 196)) _ _ 240 _ (by simp))); have HF := hh (hf' (w.alloc (.cells #[.bool false, .slice none 0 0] 196)) (fun ad e => by cases e; simp)); clear hr0 hf')
  refine bodyPost_ret (v := .agg #[.bool (decide (z < 0)), .slice A' n' n']) (by simp [results, Tryz.results157, go_sem, hz]) rfl (RetI.of (A := A') (n := n') (c := n') rfl ?_ ?_ (HF.o.q Q.i))
  ·exact Q.i
  have := HR.o
  rw [HT.o] at this
  exact this.swapA (by simp) HF.o
 have HT : Hid (trL [-z % 4294967296, -z / 4294967296] = dig z.natAbs) := hh (by rw [trL_two (-z) (by omega) (by omega)]; congr 1; omega)
 have HD : Hid (Dg [-z % 4294967296, -z / 4294967296]) := hh (Dg.cons (by omega) (by omega) (Dg.cons (by omega) (by omega) Dg.nil))
 have HN : Hid (IntKind.u64.wrap (-(IntKind.u64.wrap z)) = -z) := hh (by rw [IntKind.wrap_u64, IntKind.wrap_u64]; omega)
 go_enter Tryz.func157, Tryz.ntmps157
 go_upto_region 4 with (fail)
 rw [HN.o]
 go_wp2_with (go_at_call 174; refine (itrim_any _ _ _ [-z % 4294967296, -z / 4294967296] _ (Rd.two' _ _ _ _ _ (by simp)) HD.o (by decide)).mono ?_; rintro e w' ⟨A', n', rfl, rfl, hr0, hf'⟩; have HR := hh (hr0 _ (Rd.two' (w.alloc (.cells #[.bool false, .slice none 0 0] 196)) _ _ 240 _ (by simp))); have HF := hh (hf' (w.alloc (.cells #[.bool false, .slice none 0 0] 196)) (fun ad e => by cases e; simp)); clear hr0 hf')
 refine bodyPost_ret (v := .agg #[.bool (decide (z < 0)), .slice A' n' n']) (by simp [results, Tryz.results157, go_sem, hz]) rfl (RetI.of (A := A') (n := n') (c := n') rfl ?_ ?_ (HF.o.q Q.i))
 ·exact Q.i
 have := HR.o
 rw [HT.o] at this
 exact this.swapA (by simp) HF.o
theorem iresult_any (b : Bool) (A : Option Addr) (n c : Nat) (l : List Int) (w : World) (h : Rd w A n c l) (hd : Dg l) (hn : n < 100000) (hl : (trL l).length ≤ 12) :
  Calls Tryz.prog 172 #[.bool b, .slice A n c] w (IRes (b && decide (trL l ≠ [])) A l w) := by
 have HX := hh h
 have HL : Hid ((trL l).length ≤ 400) := hh (by omega)
 clear h hl
 cases b
 ·rw [Bool.false_and]
  go_enter Tryz.func172, Tryz.ntmps172
  go_wp2_with (go_at_call 174; refine (itrim_any _ _ _ l _ (HX.o.q Q.i) hd (by omega)).mono ?_; rintro e w' ⟨A', n', rfl, rfl, hr0, hf'⟩; have HR := hh (hr0 w HX.o); have HF := hh hf'; clear hr0 hf'; have hn' : n' ≤ 400 := (by rw [← HR.o.1]; exact HL.o))
  refine bodyPost_ret (v := .tuple #[.agg #[.bool false, .slice A' n' n'], .int .i64 0]) (by simp [results, Tryz.results172, go_sem]) rfl ?_
  obtain ⟨kz, hkz⟩ := (show Q w (w.alloc (.cells #[.bool false, .slice A' n' n'] 196)) from (Q.refl _).alloc _)
  exact ⟨A', n', kz, rfl, hkz, HR.o.q ⟨kz, rfl⟩, HF.o⟩
 rw [Bool.true_and]
 by_cases ht : trL l = []
 ·have HT := hh ht
  rw [show decide (trL l ≠ []) = false by simp [ht]]
  clear ht
  go_enter Tryz.func172, Tryz.ntmps172
  go_wp2_with (go_at_call 174; refine (itrim_any _ _ _ l _ (HX.o.q Q.i) hd (by omega)).mono ?_; rintro e w' ⟨A', n', rfl, rfl, hr0, hf'⟩; have HR := hh (hr0 w HX.o); have HF := hh hf'; clear hr0 hf'; have hn' : n' ≤ 400 := (by rw [← HR.o.1]; exact HL.o); obtain rfl : n' = 0 := by (have h1 := HR.o.1; rw [HT.o] at h1; exact h1.symm))
  refine bodyPost_ret (v := .tuple #[.agg #[.bool false, .slice A' 0 0], .int .i64 0]) (by simp [results, Tryz.results172, go_sem]) rfl ?_
  obtain ⟨kz, hkz⟩ := (show Q w (w.alloc (.cells #[.bool false, .slice A' 0 0] 196)) from (Q.refl _).alloc _)
  exact ⟨A', 0, kz, rfl, hkz, HR.o.q ⟨kz, rfl⟩, HF.o⟩
 have HT := hh ht
 rw [show decide (trL l ≠ []) = true by simp [ht]]
 clear ht
 go_enter Tryz.func172, Tryz.ntmps172
 go_wp2_with (go_at_call 174; refine (itrim_any _ _ _ l _ (HX.o.q Q.i) hd (by omega)).mono ?_; rintro e w' ⟨A', n', rfl, rfl, hr0, hf'⟩; have HR := hh (hr0 w HX.o); have HF := hh hf'; clear hr0 hf'; have hn' : n' ≤ 400 := (by rw [← HR.o.1]; exact HL.o); have hn0 : 0 < n' := by (rcases Nat.eq_zero_or_pos n' with h0 | h0; exact absurd (List.eq_nil_of_length_eq_zero (HR.o.1.trans h0)) HT.o; exact h0))
 refine bodyPost_ret (v := .tuple #[.agg #[.bool true, .slice A' n' n'], .int .i64 0]) (by simp [results, Tryz.results172, go_sem]) rfl ?_
 obtain ⟨kz, hkz⟩ := (show Q w (w.alloc (.cells #[.bool true, .slice A' n' n'] 196)) from (Q.refl _).alloc _)
 exact ⟨A', n', kz, rfl, hkz, HR.o.q ⟨kz, rfl⟩, HF.o⟩
theorem icmp_z (b : Bool) (A : Option Addr) (n c : Nat) (x : Int) (b' : Bool) (B : Option Addr) (m d : Nat) (y : Int) (w : World) (bx : b = decide (x < 0)) (rx : Rd w A n c (dig x.natAbs)) (hx : Sm x) (by' : b' = decide (y < 0)) (ry : Rd w B m d (dig y.natAbs)) (hy : Sm y) :
  Calls Tryz.prog 158 #[.agg #[.bool b, .slice A n c], .agg #[.bool b', .slice B m d]] w fun e w' => e = .returned (.int .i64 (cmpI x y)) ∧ Q w w' := by
 have ln : n ≤ 12 := by rw [← rx.1]; exact hx.len
 have lm : m ≤ 12 := by rw [← ry.1]; exact hy.len
 have HX := hh rx
 have HY := hh ry
 have BX := hh bx
 have BY := hh by'
 clear rx ry
 cases b <;> cases b'
 ·have hx0 : 0 ≤ x := by simpa using bx
  have hy0 : 0 ≤ y := by simpa using by'
  have E := hh (cmp_abs hx0 hy0)
  clear bx by' hx0 hy0
  go_enter Tryz.func158, Tryz.ntmps158
  go_wp2_with (first | (go_at_call 171; first | ((with_reducible refine (ivalid_z _ _ _ _ x _ BX.o (HX.o.q Q.i) hx).q ?_); intro kj) | ((with_reducible refine (ivalid_z _ _ _ _ y _ BY.o (HY.o.q Q.i) hy).q ?_); intro kj)) | (go_at_call 175; refine (icmpMag_any _ _ _ (dig x.natAbs) _ _ _ (dig y.natAbs) _ (HX.o.q Q.i) (HY.o.q Q.i) (dig_Dg _) (dig_Dg _) (dig_Tr _) (dig_Tr _) (by omega) (by omega)).q ?_; intro kj))
  go_ret
  refine ⟨by rw [← E.o, ← dval_dg, ← dval_dg]; rfl, ?_⟩
  exact Q.i
 ·have hx0 : 0 ≤ x := by simpa using bx
  have hy0 : y < 0 := by simpa using by'
  have E := hh (cmp_signs' hx0 hy0)
  clear bx by' hx0 hy0
  go_enter Tryz.func158, Tryz.ntmps158
  go_wp2_with (go_at_call 171; first | ((with_reducible refine (ivalid_z _ _ _ _ x _ BX.o (HX.o.q Q.i) hx).q ?_); intro kj) | ((with_reducible refine (ivalid_z _ _ _ _ y _ BY.o (HY.o.q Q.i) hy).q ?_); intro kj))
  go_ret
  refine ⟨by rw [E.o]; rfl, ?_⟩
  exact Q.i
 ·have hx0 : x < 0 := by simpa using bx
  have hy0 : 0 ≤ y := by simpa using by'
  have E := hh (cmp_signs hx0 hy0)
  clear bx by' hx0 hy0
  go_enter Tryz.func158, Tryz.ntmps158
  go_wp2_with (go_at_call 171; first | ((with_reducible refine (ivalid_z _ _ _ _ x _ BX.o (HX.o.q Q.i) hx).q ?_); intro kj) | ((with_reducible refine (ivalid_z _ _ _ _ y _ BY.o (HY.o.q Q.i) hy).q ?_); intro kj))
  go_ret
  refine ⟨by rw [E.o]; rfl, ?_⟩
  exact Q.i
 have hx0 : x < 0 := by simpa using bx
 have hy0 : y < 0 := by simpa using by'
 have E := hh (cmp_abs' hx0 hy0)
 clear bx by' hx0 hy0
 go_enter Tryz.func158, Tryz.ntmps158
 go_wp2_with (first | (go_at_call 171; first | ((with_reducible refine (ivalid_z _ _ _ _ x _ BX.o (HX.o.q Q.i) hx).q ?_); intro kj) | ((with_reducible refine (ivalid_z _ _ _ _ y _ BY.o (HY.o.q Q.i) hy).q ?_); intro kj)) | (go_at_call 175; refine (icmpMag_any _ _ _ (dig y.natAbs) _ _ _ (dig x.natAbs) _ (HY.o.q Q.i) (HX.o.q Q.i) (dig_Dg _) (dig_Dg _) (dig_Tr _) (dig_Tr _) (by omega) (by omega)).q ?_; intro kj))
 go_ret
 refine ⟨by rw [← E.o, ← dval_dg, ← dval_dg]; rfl, ?_⟩
 exact Q.i
theorem isign_z (b : Bool) (A : Option Addr) (n c : Nat) (x : Int) (w : World) (bx : b = decide (x < 0)) (rx : Rd w A n c (dig x.natAbs)) (hx : Sm x) :
  Calls Tryz.prog 155 #[.agg #[.bool b, .slice A n c]] w fun e w' => e = .returned (.int .i64 (sgn x)) ∧ Q w w' := by
 have HX := hh rx
 have BX := hh bx
 have HZ : ∀ w, Rd w none 0 0 (dig (0 : Int).natAbs) := fun w => by rw [show (0 : Int).natAbs = 0 from rfl, dig_zero]; exact Rd.nil w
 have HZ' := hh HZ
 clear rx bx HZ
 rw [← cmp_zero]
 go_enter Tryz.func155, Tryz.ntmps155
 go_wp2_with (go_at_call 158; refine (icmp_z _ _ _ _ x _ _ _ _ 0 _ BX.o (HX.o.q Q.i) hx (by decide) (HZ'.o _) (Sm.of (by decide) (by decide))).q ?_; intro kj)
 go_ret
 refine ⟨rfl, ?_⟩
 exact Q.i
theorem imul_z (b : Bool) (A : Option Addr) (n c : Nat) (x : Int) (b' : Bool) (B : Option Addr) (m d : Nat) (y : Int) (w : World) (bx : b = decide (x < 0)) (rx : Rd w A n c (dig x.natAbs)) (hx : Sm x) (by' : b' = decide (y < 0)) (ry : Rd w B m d (dig y.natAbs)) (hy : Sm y) (hxy : Sm (x * y)) :
  Calls Tryz.prog 156 #[.agg #[.bool b, .slice A n c], .agg #[.bool b', .slice B m d]] w (RetZ2 (x * y) w) := by
 have ln : n ≤ 12 := by rw [← rx.1]; exact hx.len
 have lm : m ≤ 12 := by rw [← ry.1]; exact hy.len
 have HX := hh rx
 have HY := hh ry
 have BX := hh bx
 have BY := hh by'
 have HL := hh hxy.len
 have HD := hh (mul_dig x y)
 have HT : Hid (trL (dig (dval (dig x.natAbs) * dval (dig y.natAbs)).toNat) = dig (x * y).natAbs) := hh (by rw [trL_dig, HD.o])
 have HS : Hid (((b != b') && decide (trL (dig (dval (dig x.natAbs) * dval (dig y.natAbs)).toNat) ≠ [])) = decide (x * y < 0)) := hh (by rw [bx, by']; exact mul_sgn _ HT.o)
 clear rx ry bx by'
 cases b <;> cases b'
 ·have HS' : Hid ((false && decide (trL (dig (dval (dig x.natAbs) * dval (dig y.natAbs)).toNat) ≠ [])) = decide (x * y < 0)) := hh HS.o
  clear HS
  go_enter Tryz.func156, Tryz.ntmps156
  go_wp2_with (go_at_call 171; first | ((with_reducible refine (ivalid_z _ _ _ _ x _ BX.o (HX.o.q Q.i) hx).q ?_); intro kj) | ((with_reducible refine (ivalid_z _ _ _ _ y _ BY.o (HY.o.q Q.i) hy).q ?_); intro kj))
  go_region_held3 (fun w' => w'.cell? ⟨w.heap.size, 0, none⟩ = some (.bool false) ∧ w'.cell? ⟨w.heap.size, 1, none⟩ = some (.slice A n c) ∧ w'.cell? ⟨w.heap.size + 1, 0, none⟩ = some (.bool false) ∧ w'.cell? ⟨w.heap.size + 1, 1, none⟩ = some (.slice B m d)) (simp [go_sem])
   (first | (go_at_call 173; refine (imulMag_any _ _ _ (dig x.natAbs) _ _ _ (dig y.natAbs) _ (HX.o.q Q.i) (HY.o.q Q.i) (dig_Dg _) (dig_Dg _) (by omega) (by omega)).mono ?_; rintro e w' ⟨A1, n1, c1, k1, rfl, rfl, hr1, hf1⟩; have HR1 := hh hr1; have HF1 := hh hf1; have HL1 : n1 ≤ 12 := (by rw [← hr1.1, HD.o]; exact HL.o); clear hr1 hf1) | (go_at_call 172; refine (iresult_any _ _ _ _ _ _ HR1.o (dig_Dg _) (by omega) (by rw [HT.o]; exact HL.o)).mono ?_; rintro e w' ⟨A2, n2, k2, rfl, rfl, hr2, hf2⟩; have HR2 := hh hr2; have HF2 := hh (hf2 _ HF1.o); clear hr2 hf2; rw [HS'.o]))
  rename_i hHeld
  clear hHeld
  go_wp2
  refine bodyPost_ret (v := .tuple #[.agg #[.bool (decide (x * y < 0)), .slice A2 n2 n2], .int .i64 0]) (by simp [results, Tryz.results156, go_sem]) rfl (RetI2.of (A := A2) (n := n2) (c := n2) rfl ?_ ?_ (HF2.o.q Q.i))
  ·exact Q.i
  have := HR2.o
  rw [HT.o] at this
  exact this.swap4 (by simp) (HF2.o.q Q.i)
 ·have HS' : Hid ((true && decide (trL (dig (dval (dig x.natAbs) * dval (dig y.natAbs)).toNat) ≠ [])) = decide (x * y < 0)) := hh HS.o
  clear HS
  go_enter Tryz.func156, Tryz.ntmps156
  go_wp2_with (go_at_call 171; first | ((with_reducible refine (ivalid_z _ _ _ _ x _ BX.o (HX.o.q Q.i) hx).q ?_); intro kj) | ((with_reducible refine (ivalid_z _ _ _ _ y _ BY.o (HY.o.q Q.i) hy).q ?_); intro kj))
  go_region_held3 (fun w' => w'.cell? ⟨w.heap.size, 0, none⟩ = some (.bool false) ∧ w'.cell? ⟨w.heap.size, 1, none⟩ = some (.slice A n c) ∧ w'.cell? ⟨w.heap.size + 1, 0, none⟩ = some (.bool true) ∧ w'.cell? ⟨w.heap.size + 1, 1, none⟩ = some (.slice B m d)) (simp [go_sem])
   (first | (go_at_call 173; refine (imulMag_any _ _ _ (dig x.natAbs) _ _ _ (dig y.natAbs) _ (HX.o.q Q.i) (HY.o.q Q.i) (dig_Dg _) (dig_Dg _) (by omega) (by omega)).mono ?_; rintro e w' ⟨A1, n1, c1, k1, rfl, rfl, hr1, hf1⟩; have HR1 := hh hr1; have HF1 := hh hf1; have HL1 : n1 ≤ 12 := (by rw [← hr1.1, HD.o]; exact HL.o); clear hr1 hf1) | (go_at_call 172; refine (iresult_any _ _ _ _ _ _ HR1.o (dig_Dg _) (by omega) (by rw [HT.o]; exact HL.o)).mono ?_; rintro e w' ⟨A2, n2, k2, rfl, rfl, hr2, hf2⟩; have HR2 := hh hr2; have HF2 := hh (hf2 _ HF1.o); clear hr2 hf2; rw [HS'.o]))
  rename_i hHeld
  clear hHeld
  go_wp2
  refine bodyPost_ret (v := .tuple #[.agg #[.bool (decide (x * y < 0)), .slice A2 n2 n2], .int .i64 0]) (by simp [results, Tryz.results156, go_sem]) rfl (RetI2.of (A := A2) (n := n2) (c := n2) rfl ?_ ?_ (HF2.o.q Q.i))
  ·exact Q.i
  have := HR2.o
  rw [HT.o] at this
  exact this.swap4 (by simp) (HF2.o.q Q.i)
 ·have HS' : Hid ((true && decide (trL (dig (dval (dig x.natAbs) * dval (dig y.natAbs)).toNat) ≠ [])) = decide (x * y < 0)) := hh HS.o
  clear HS
  go_enter Tryz.func156, Tryz.ntmps156
  go_wp2_with (go_at_call 171; first | ((with_reducible refine (ivalid_z _ _ _ _ x _ BX.o (HX.o.q Q.i) hx).q ?_); intro kj) | ((with_reducible refine (ivalid_z _ _ _ _ y _ BY.o (HY.o.q Q.i) hy).q ?_); intro kj))
  go_region_held3 (fun w' => w'.cell? ⟨w.heap.size, 0, none⟩ = some (.bool true) ∧ w'.cell? ⟨w.heap.size, 1, none⟩ = some (.slice A n c) ∧ w'.cell? ⟨w.heap.size + 1, 0, none⟩ = some (.bool false) ∧ w'.cell? ⟨w.heap.size + 1, 1, none⟩ = some (.slice B m d)) (simp [go_sem])
   (first | (go_at_call 173; refine (imulMag_any _ _ _ (dig x.natAbs) _ _ _ (dig y.natAbs) _ (HX.o.q Q.i) (HY.o.q Q.i) (dig_Dg _) (dig_Dg _) (by omega) (by omega)).mono ?_; rintro e w' ⟨A1, n1, c1, k1, rfl, rfl, hr1, hf1⟩; have HR1 := hh hr1; have HF1 := hh hf1; have HL1 : n1 ≤ 12 := (by rw [← hr1.1, HD.o]; exact HL.o); clear hr1 hf1) | (go_at_call 172; refine (iresult_any _ _ _ _ _ _ HR1.o (dig_Dg _) (by omega) (by rw [HT.o]; exact HL.o)).mono ?_; rintro e w' ⟨A2, n2, k2, rfl, rfl, hr2, hf2⟩; have HR2 := hh hr2; have HF2 := hh (hf2 _ HF1.o); clear hr2 hf2; rw [HS'.o]))
  rename_i hHeld
  clear hHeld
  go_wp2
  refine bodyPost_ret (v := .tuple #[.agg #[.bool (decide (x * y < 0)), .slice A2 n2 n2], .int .i64 0]) (by simp [results, Tryz.results156, go_sem]) rfl (RetI2.of (A := A2) (n := n2) (c := n2) rfl ?_ ?_ (HF2.o.q Q.i))
  ·exact Q.i
  have := HR2.o
  rw [HT.o] at this
  exact this.swap4 (by simp) (HF2.o.q Q.i)
 have HS' : Hid ((false && decide (trL (dig (dval (dig x.natAbs) * dval (dig y.natAbs)).toNat) ≠ [])) = decide (x * y < 0)) := hh HS.o
 clear HS
 go_enter Tryz.func156, Tryz.ntmps156
 go_wp2_with (go_at_call 171; first | ((with_reducible refine (ivalid_z _ _ _ _ x _ BX.o (HX.o.q Q.i) hx).q ?_); intro kj) | ((with_reducible refine (ivalid_z _ _ _ _ y _ BY.o (HY.o.q Q.i) hy).q ?_); intro kj))
 go_region_held3 (fun w' => w'.cell? ⟨w.heap.size, 0, none⟩ = some (.bool true) ∧ w'.cell? ⟨w.heap.size, 1, none⟩ = some (.slice A n c) ∧ w'.cell? ⟨w.heap.size + 1, 0, none⟩ = some (.bool true) ∧ w'.cell? ⟨w.heap.size + 1, 1, none⟩ = some (.slice B m d)) (simp [go_sem])
  (first | (go_at_call 173; refine (imulMag_any _ _ _ (dig x.natAbs) _ _ _ (dig y.natAbs) _ (HX.o.q Q.i) (HY.o.q Q.i) (dig_Dg _) (dig_Dg _) (by omega) (by omega)).mono ?_; rintro e w' ⟨A1, n1, c1, k1, rfl, rfl, hr1, hf1⟩; have HR1 := hh hr1; have HF1 := hh hf1; have HL1 : n1 ≤ 12 := (by rw [← hr1.1, HD.o]; exact HL.o); clear hr1 hf1) | (go_at_call 172; refine (iresult_any _ _ _ _ _ _ HR1.o (dig_Dg _) (by omega) (by rw [HT.o]; exact HL.o)).mono ?_; rintro e w' ⟨A2, n2, k2, rfl, rfl, hr2, hf2⟩; have HR2 := hh hr2; have HF2 := hh (hf2 _ HF1.o); clear hr2 hf2; rw [HS'.o]))
 rename_i hHeld
 clear hHeld
 go_wp2
 refine bodyPost_ret (v := .tuple #[.agg #[.bool (decide (x * y < 0)), .slice A2 n2 n2], .int .i64 0]) (by simp [results, Tryz.results156, go_sem]) rfl (RetI2.of (A := A2) (n := n2) (c := n2) rfl ?_ ?_ (HF2.o.q Q.i))
 ·exact Q.i
 have := HR2.o
 rw [HT.o] at this
 exact this.swap4 (by simp) (HF2.o.q Q.i)
end Go.Proofs.YtcjflafjmdfanaaGreatDoor
/- What plus and minus of package substationref01 return. -/
namespace Go.Proofs.YtcjflafjmdfanaaGreatDoor
open Go.RowKit Go.Sub
theorem r1plus_any (A : Option Addr) (n c : Nat) (l : List Int) (B : Option Addr) (m d : Nat) (r : List Int) (w : World) (h1 : Rd w A n c l) (h2 : Rd w B m d r) (dl : Dg l) (dr : Dg r) (hn : n < 10000) (hm : m < 10000) :
  Calls Tryz.prog 181 #[.slice A n c, .slice B m d] w (RetV (dval l + dval r) (n + m + 1) w) := by
 have L1 := hh h1.1
 have L2 := hh h2.1
 have H1 := hh h1
 have H2 := hh h2
 clear h1 h2
 go_enter Tryz.func181, Tryz.ntmps181
 go_wp2
 go_loopw [5, 6, 7] (fun v s6 s7 wr => ∃ (o : List Int) (i : Nat) (q : Int) (Ao : Option Addr) (co : Nat), v = .slice Ao i co ∧ s6 = .int .u64 q ∧ s7 = .int .i64 i ∧ Hid (AddInv l r o i q) ∧ Hid (RowU w wr (.slice Ao i co) o) ∧ Q w wr ∧ Hid (i ≤ max n m + 1 ∧ (max n m < i → q = 0))) (fun _ _ s7 _ => max n m + 2 - (intOf s7).toNat)
 case atStart => exact ⟨[], 0, 0, none, 0, rfl, rfl, rfl, hh (AddInv.start l r), hh (RowU.nil w w), Q.refl _, hh ⟨by omega, fun h => rfl⟩⟩
 case round =>
  obtain ⟨o, i, q, Ao, co, rfl, rfl, rfl, HI, HROW, ⟨kw, rfl⟩, HM⟩ := hrel
  have hq0 := HI.o.c0
  have hq1 := HI.o.c1
  have HLO : Hid (o.length = i) := hh HI.o.len
  have hi : i ≤ 30000 := by have := HM.o.1; omega
  obtain ⟨x, ex⟩ : ∃ x, l.getD i 0 = x := ⟨_, rfl⟩
  obtain ⟨y, ey⟩ : ∃ y, r.getD i 0 = y := ⟨_, rfl⟩
  have hx : 0 ≤ x ∧ x < 4294967296 := ex ▸ dl.getD i
  have hy : 0 ≤ y ∧ y < 4294967296 := ey ▸ dr.getD i
  obtain ⟨hx0, hx1⟩ := hx
  obtain ⟨hy0, hy1⟩ := hy
  have EX := hh ex
  have EY := hh ey
  clear ex ey
  have hm1 : max n m < i → q = 0 := HM.o.2
  have HM1 := hh hm1
  clear hm1
  by_cases hin : i < n
  ·have HMX : Hid (i < max n m) := hh (by omega)
   by_cases him : i < m
   rotate_left
   ·have hy' : y = 0 := by rw [← EY.o]; exact getD_ge (by rw [L2.o]; omega)
    obtain ⟨ST, t0, t1⟩ := HI.o.step (t := q + x) dl dr (by rw [EX.o, EY.o]; try omega)
    have HS := hh ST
    clear ST
    clear hy'
    obtain ⟨g, rfl, hOld, hc⟩ := H1.o.at_ (by omega)
    have hcx := hc.o i hin
    rw [EX.o] at hcx
    clear hc
    go_wp2_with (at_builtin; refine wpList_app_u32 rfl _ _ rfl w _ o [(q + x) % 4294967296] i 1 (some ⟨w.heap.size + kw.os.size, 0, none⟩) 1 (by rfl) (by rfl) (HROW.o.q Q.i) HLO.o (Rd.one' _ _ _ _ (by simp [World.size_jk])) (by omega) Q.i ?_; intro A' c' kk hrow)
    go_roundw
    case rel => exact ⟨_, i + 1, _, A', c', rfl, rfl, by go_num, HS, hh hrow, ⟨kk, rfl⟩, hh ⟨by have := HMX.o; omega, fun h => by have := HMX.o; first | omega | (have := HQ.o; omega)⟩⟩
    case measure => have := HMX.o; simp [intOf]; omega
   obtain ⟨ST, t0, t1⟩ := HI.o.step (t := q + x + y) dl dr (by rw [EX.o, EY.o]; try omega)
   have HS := hh ST
   clear ST
   obtain ⟨g, rfl, hOld, hc⟩ := H1.o.at_ (by omega)
   have hcx := hc.o i hin
   rw [EX.o] at hcx
   clear hc
   obtain ⟨g', rfl, hOld', hc'⟩ := H2.o.at_ (by omega)
   have hcy := hc'.o i him
   rw [EY.o] at hcy
   clear hc'
   go_wp2_with (at_builtin; refine wpList_app_u32 rfl _ _ rfl w _ o [(q + x + y) % 4294967296] i 1 (some ⟨w.heap.size + kw.os.size, 0, none⟩) 1 (by rfl) (by rfl) (HROW.o.q Q.i) HLO.o (Rd.one' _ _ _ _ (by simp [World.size_jk])) (by omega) Q.i ?_; intro A' c' kk hrow)
   go_roundw
   case rel => exact ⟨_, i + 1, _, A', c', rfl, rfl, by go_num, HS, hh hrow, ⟨kk, rfl⟩, hh ⟨by have := HMX.o; omega, fun h => by have := HMX.o; first | omega | (have := HQ.o; omega)⟩⟩
   case measure => have := HMX.o; simp [intOf]; omega
  by_cases him : i < m
  ·have HMX : Hid (i < max n m) := hh (by omega)
   have hx' : x = 0 := by rw [← EX.o]; exact getD_ge (by rw [L1.o]; omega)
   obtain ⟨ST, t0, t1⟩ := HI.o.step (t := q + y) dl dr (by rw [EX.o, EY.o]; try omega)
   have HS := hh ST
   clear ST
   clear hx'
   obtain ⟨g', rfl, hOld', hc'⟩ := H2.o.at_ (by omega)
   have hcy := hc'.o i him
   rw [EY.o] at hcy
   clear hc'
   go_wp2_with (at_builtin; refine wpList_app_u32 rfl _ _ rfl w _ o [(q + y) % 4294967296] i 1 (some ⟨w.heap.size + kw.os.size, 0, none⟩) 1 (by rfl) (by rfl) (HROW.o.q Q.i) HLO.o (Rd.one' _ _ _ _ (by simp [World.size_jk])) (by omega) Q.i ?_; intro A' c' kk hrow)
   go_roundw
   case rel => exact ⟨_, i + 1, _, A', c', rfl, rfl, by go_num, HS, hh hrow, ⟨kk, rfl⟩, hh ⟨by have := HMX.o; omega, fun h => by have := HMX.o; first | omega | (have := HQ.o; omega)⟩⟩
   case measure => have := HMX.o; simp [intOf]; omega
  by_cases hz : q = 0
  ·subst hz
   have HV := hh (HI.o.done (by rw [L1.o]; omega) (by rw [L2.o]; omega))
   have HN : Hid (i ≤ n + m + 1) := hh (by have := HM.o.1; omega)
   go_wp2
   go_ret
   exact RetV.of (l := o) (A := Ao) (n := i) (c := co) rfl ((Q.refl _).jk _) HROW.o.rd' HROW.o.fr HI.o.dg HV.o HN.o
  have hq : 0 < q := by omega
  have HMX : Hid (i ≤ max n m) := hh (by
   rcases Nat.lt_or_ge (max n m) i with h | h
   ·exact absurd (HM1.o h) hz
   ·exact h)
  have HQ : Hid (q / 4294967296 = 0) := hh (by omega)
  clear hz
  have hx' : x = 0 := by rw [← EX.o]; exact getD_ge (by rw [L1.o]; omega)
  have hy' : y = 0 := by rw [← EY.o]; exact getD_ge (by rw [L2.o]; omega)
  obtain ⟨ST, t0, t1⟩ := HI.o.step (t := q) dl dr (by rw [EX.o, EY.o]; try omega)
  rw [show q % 4294967296 = q by omega] at ST
  have HS := hh ST
  clear ST
  clear hx'
  clear hy'
  go_wp2_with (at_builtin; refine wpList_app_u32 rfl _ _ rfl w _ o [q] i 1 (some ⟨w.heap.size + kw.os.size, 0, none⟩) 1 (by rfl) (by rfl) (HROW.o.q Q.i) HLO.o (Rd.one' _ _ _ _ (by simp [World.size_jk])) (by omega) Q.i ?_; intro A' c' kk hrow)
  go_roundw
  case rel => exact ⟨_, i + 1, _, A', c', rfl, rfl, by go_num, HS, hh hrow, ⟨kk, rfl⟩, hh ⟨by have := HMX.o; omega, fun h => by have := HMX.o; first | omega | (have := HQ.o; omega)⟩⟩
  case measure => have := HMX.o; simp [intOf]; omega
theorem r1minus_any (A : Option Addr) (n c : Nat) (l : List Int) (B : Option Addr) (m d : Nat) (r : List Int) (w : World) (h1 : Rd w A n c l) (h2 : Rd w B m d r) (dl : Dg l) (dr : Dg r) (tr : Tr r) (hle : dval r ≤ dval l) (hn : n < 10000) :
  Calls Tryz.prog 182 #[.slice A n c, .slice B m d] w (RetS (dig (dval l - dval r).toNat) w) := by
 have hml : m ≤ n := by rw [← h1.1, ← h2.1]; exact len_le_of_dval dl dr tr hle
 have L1 := hh h1.1
 have L2 := hh h2.1
 have H1 := hh h1
 have H2 := hh h2
 have HLE := hh hle
 clear h1 h2 hle
 go_enter Tryz.func182, Tryz.ntmps182
 go_wp2
 go_loopw [5, 6, 7] (fun v s6 s7 wr => ∃ (o : List Int) (i : Nat) (q : Int) (Ao : Option Addr) (co : Nat), v = .slice Ao i co ∧ s6 = .int .u64 q ∧ s7 = .int .i64 i ∧ Hid (SubInv l r o i q) ∧ Hid (RowU w wr (.slice Ao i co) o) ∧ Q w wr ∧ i ≤ n) (fun _ _ s7 _ => n - (intOf s7).toNat)
 case atStart => exact ⟨[], 0, 0, none, 0, rfl, rfl, rfl, hh (SubInv.start l r), hh (RowU.nil w w), Q.refl _, by omega⟩
 case round =>
  obtain ⟨o, i, q, Ao, co, rfl, rfl, rfl, HI, HROW, ⟨kw, rfl⟩, hi⟩ := hrel
  have hq0 := HI.o.c0
  have hq1 := HI.o.c1
  have HLO : Hid (o.length = i) := hh HI.o.len
  obtain ⟨x, ex⟩ : ∃ x, l.getD i 0 = x := ⟨_, rfl⟩
  obtain ⟨y, ey⟩ : ∃ y, r.getD i 0 = y := ⟨_, rfl⟩
  have hx : 0 ≤ x ∧ x < 4294967296 := ex ▸ dl.getD i
  have hy : 0 ≤ y ∧ y < 4294967296 := ey ▸ dr.getD i
  obtain ⟨hx0, hx1⟩ := hx
  obtain ⟨hy0, hy1⟩ := hy
  have EX := hh ex
  have EY := hh ey
  clear ex ey
  by_cases hin : i < n
  rotate_left
  ·obtain rfl : i = n := by omega
   have HV : Hid (dval o = dval l - dval r) := hh (by
    have := HI.o
    rw [← L1.o] at this
    exact this.done (by rw [L1.o, L2.o]; exact hml) HLE.o)
   go_wp2_with (go_at_call 180; refine (r1trim_any _ _ _ o _ (HROW.o.rd') HI.o.dg (by omega)).mono ?_; rintro e w' ⟨A2, n2, c2, k2, rfl, rfl, hr2, hf2⟩)
   go_ret
   refine RetS.of (A := A2) (n := n2) (c := c2) rfl (((Q.refl _).jk _).jk _) ?_ (hf2.q ((Q.refl _).jk _))
   rw [← HV.o]
   exact hr2
  by_cases him : i < m
  rotate_left
  ·have hy' : y = 0 := by rw [← EY.o]; exact getD_ge (by rw [L2.o]; omega)
   obtain ⟨ST, t0, t1⟩ := HI.o.step (t := (x - q) % 18446744073709551616) dl dr (by rw [EX.o, EY.o]; rw [hy', Int.sub_zero])
   have HS := hh ST
   clear ST
   clear hy'
   obtain ⟨g, rfl, hOld, hc⟩ := H1.o.at_ (by omega)
   have hcx := hc.o i hin
   rw [EX.o] at hcx
   clear hc
   obtain ⟨tt, htt⟩ : ∃ tt, tt = (x - q) % 18446744073709551616 := ⟨_, rfl⟩
   have E1 : Hid (IntKind.u64.wrap (x - q) = tt) := hh (by rw [htt, IntKind.wrap_u64])
   rw [← htt] at HS t0 t1
   clear htt
   go_upto_region 9 with (fail)
   rw [E1.o]
   go_wp2_with (at_builtin; refine wpList_app_u32 rfl _ _ rfl w _ o [tt % 4294967296] i 1 (some ⟨w.heap.size + kw.os.size, 0, none⟩) 1 (by rfl) (by rfl) (HROW.o.q Q.i) HLO.o (Rd.one' _ _ _ _ (by simp [World.size_jk])) (by omega) Q.i ?_; intro A' c' kk hrow)
   go_roundw
   case rel => exact ⟨_, i + 1, _, A', c', rfl, rfl, by go_num, HS, hh hrow, ⟨kk, rfl⟩, by omega⟩
   case measure => simp [intOf]; omega
  obtain ⟨ST, t0, t1⟩ := HI.o.step (t := (x - q - y) % 18446744073709551616) dl dr (by rw [EX.o, EY.o])
  have HS := hh ST
  clear ST
  obtain ⟨g, rfl, hOld, hc⟩ := H1.o.at_ (by omega)
  have hcx := hc.o i hin
  rw [EX.o] at hcx
  clear hc
  obtain ⟨g', rfl, hOld', hc'⟩ := H2.o.at_ (by omega)
  have hcy := hc'.o i him
  rw [EY.o] at hcy
  clear hc'
  obtain ⟨tt, htt⟩ : ∃ tt, tt = (x - q - y) % 18446744073709551616 := ⟨_, rfl⟩
  have E1 : Hid (IntKind.u64.wrap (IntKind.u64.wrap (x - q) - y) = tt) := hh (by rw [htt, IntKind.wrap_u64, IntKind.wrap_u64]; omega)
  rw [← htt] at HS t0 t1
  clear htt
  go_upto_region 9 with (fail)
  rw [E1.o]
  go_wp2_with (at_builtin; refine wpList_app_u32 rfl _ _ rfl w _ o [tt % 4294967296] i 1 (some ⟨w.heap.size + kw.os.size, 0, none⟩) 1 (by rfl) (by rfl) (HROW.o.q Q.i) HLO.o (Rd.one' _ _ _ _ (by simp [World.size_jk])) (by omega) Q.i ?_; intro A' c' kk hrow)
  go_roundw
  case rel => exact ⟨_, i + 1, _, A', c', rfl, rfl, by go_num, HS, hh hrow, ⟨kk, rfl⟩, by omega⟩
  case measure => simp [intOf]; omega
end Go.Proofs.YtcjflafjmdfanaaGreatDoor
namespace Go.Sub
theorem take_set_succ (o : List Int) (i : Nat) (d : Int) (h : i < o.length) : (o.set i d).take (i + 1) = o.take i ++ [d] := by
 rw [List.take_succ_eq_append_getElem (by simpa using h), List.getElem_set_self, List.take_set_of_le (Nat.le_refl _)]
end Go.Sub
namespace Go.Proofs.YtcjflafjmdfanaaGreatDoor
open Go.RowKit Go.Sub
theorem iaddMag_ge (A : Option Addr) (n c : Nat) (l : List Int) (B : Option Addr) (m d : Nat) (r : List Int) (w : World) (h1 : Rd w A n c l) (h2 : Rd w B m d r) (dl : Dg l) (dr : Dg r) (hn : n < 10000) (hmn : m ≤ n) :
  Calls Tryz.prog 183 #[.slice A n c, .slice B m d] w (RetS (dig (dval l + dval r).toNat) w) := by
 have L1 := hh h1.1
 have L2 := hh h2.1
 have H1 := hh h1
 have H2 := hh h2
 clear h1 h2
 have hmk := make_u32 w (n + 1) (n + 1) (by omega) (by omega)
 go_enter Tryz.func183, Tryz.ntmps183
 go_wp2
 clear hmk
 go_loopw [6, 22] (fun s6 i wr => ∃ (q : Int) (i' : Nat) (o : List Int) (kx : Jk), s6 = .int .u64 q ∧ i = .int .i64 i' ∧ i' ≤ n ∧ Hid (AddInv l r (o.take i') i' q) ∧ Hid (o.length = n + 1) ∧ Hid (Dg o) ∧ wr = (w.alloc (.cells (cellsU o) 240)).jk kx) (fun _ i _ => n - (intOf i).toNat)
 case atStart =>
  obtain ⟨k0, hk0⟩ := Q.refl (w.alloc (.cells (cellsU (List.replicate (n + 1) 0)) 240))
  exact ⟨0, 0, List.replicate (n + 1) 0, k0, rfl, rfl, Nat.zero_le _, hh (AddInv.start l r), hh (by simp), hh (fun d hd => by have := List.eq_of_mem_replicate hd; omega), hk0⟩
 case round =>
  obtain ⟨q, i, o, kx, rfl, rfl, hi, HI, HO, DR, rfl⟩ := hrel
  have hq0 := HI.o.c0
  have hq1 := HI.o.c1
  obtain ⟨x, ex⟩ : ∃ x, l.getD i 0 = x := ⟨_, rfl⟩
  obtain ⟨y, ey⟩ : ∃ y, r.getD i 0 = y := ⟨_, rfl⟩
  have hx : 0 ≤ x ∧ x < 4294967296 := ex ▸ dl.getD i
  have hy : 0 ≤ y ∧ y < 4294967296 := ey ▸ dr.getD i
  obtain ⟨hx0, hx1⟩ := hx
  obtain ⟨hy0, hy1⟩ := hy
  have EX := hh ex
  have EY := hh ey
  clear ex ey
  by_cases hin : i < n
  rotate_left
  ·obtain rfl : i = n := by omega
   have hcz := cellsU_at (o := o) (j := i) (by rw [HO.o]; omega)
   obtain ⟨z, ez⟩ : ∃ z, o.getD i 0 = z := ⟨_, rfl⟩
   rw [ez] at hcz
   clear ez
   have HC := hh (cellsU_set o i q)
   have HD : Hid (Dg (o.set i q)) := hh (DR.o.set i (by omega) (by omega))
   have HV : Hid (dval (o.set i q) = dval l + dval r) := hh (by
    have hv := HI.o.val
    rw [List.take_of_length_le (l := l) (by rw [L1.o]; exact Nat.le_refl _), List.take_of_length_le (l := r) (by rw [L2.o]; omega)] at hv
    have e1 : (o.set i q).take (i + 1) = o.set i q := List.take_of_length_le (by rw [List.length_set, HO.o]; exact Nat.le_refl _)
    rw [← e1, take_set_succ o i q (by rw [HO.o]; omega), dval_snoc, List.length_take, HO.o, Nat.min_eq_left (by omega)]
    omega)
   have hrd : ∀ k, Rd ((w.alloc (.cells (cellsU (o.set i q)) 240)).jk k) (some ⟨w.heap.size, 0, none⟩) (i + 1) (i + 1) (o.set i q) := fun k => by
    have hol : (o.set i q).length = i + 1 := by rw [List.length_set, HO.o]
    refine ⟨hol, Nat.le_refl _, fun _ => ⟨_, rfl, by simp [World.size_jk]; omega, fun j hj => ?_⟩, fun h => by cases h⟩
    rw [World.cell?_jk, cell_of_row _ _ _ (cellsU (o.set i q)) _ (0, 0) (heap_alloc_new w _)]
    exact cellsU_at (by omega)
   have HRD := hh hrd
   clear hrd
   have hi1 : i < i + 1 := by omega
   go_wp2_with (go_at_call 174; rw [HC.o]; refine (itrim_any _ _ _ (o.set i q) _ (HRD.o _) HD.o (by omega)).mono ?_; rintro e w' ⟨A', n', rfl, rfl, hr0, hf'⟩; have hr' := hr0 _ (HRD.o kx); clear hr0)
   go_ret
   refine RetS.of (A := A') (n := n') (c := n') rfl (((Q.refl _).alloc _).jk _) ?_ (hf' w (fun ad e => by cases e; exact Nat.le_refl _))
   rw [← HV.o]
   exact hr'
  by_cases him : i < m
  rotate_left
  ·have hy' : y = 0 := by rw [← EY.o]; exact getD_ge (by rw [L2.o]; omega)
   obtain ⟨ST, t0, t1⟩ := HI.o.step (t := x + q) dl dr (by rw [EX.o, EY.o]; omega)
   rw [← take_set_succ o i _ (by rw [HO.o]; omega)] at ST
   have HS := hh ST
   clear ST
   clear hy'
   obtain ⟨g, rfl, hOld, hc⟩ := H1.o.at_ (by omega)
   have hcx := hc.o i hin
   rw [EX.o] at hcx
   clear hc
   have hcz := cellsU_at (o := o) (j := i) (by rw [HO.o]; omega)
   obtain ⟨z, ez⟩ : ∃ z, o.getD i 0 = z := ⟨_, rfl⟩
   rw [ez] at hcz
   clear ez
   have HC := hh (cellsU_set o i ((x + q) % 4294967296))
   have hi1 : i < n + 1 := by omega
   go_wp2
   go_roundw
   case rel => exact ⟨_, i + 1, _, kx, rfl, by go_num, by omega, HS, hh (by rw [List.length_set]; exact HO.o), hh (DR.o.set i (by omega) (by omega)), by rw [HC.o]⟩
   case measure => simp [intOf]; omega
  obtain ⟨ST, t0, t1⟩ := HI.o.step (t := x + q + y) dl dr (by rw [EX.o, EY.o]; omega)
  rw [← take_set_succ o i _ (by rw [HO.o]; omega)] at ST
  have HS := hh ST
  clear ST
  obtain ⟨g, rfl, hOld, hc⟩ := H1.o.at_ (by omega)
  have hcx := hc.o i hin
  rw [EX.o] at hcx
  clear hc
  obtain ⟨g', rfl, hOld', hc'⟩ := H2.o.at_ (by omega)
  have hcy := hc'.o i him
  rw [EY.o] at hcy
  clear hc'
  have hcz := cellsU_at (o := o) (j := i) (by rw [HO.o]; omega)
  obtain ⟨z, ez⟩ : ∃ z, o.getD i 0 = z := ⟨_, rfl⟩
  rw [ez] at hcz
  clear ez
  have HC := hh (cellsU_set o i ((x + q + y) % 4294967296))
  have hi1 : i < n + 1 := by omega
  go_wp2
  go_roundw
  case rel => exact ⟨_, i + 1, _, kx, rfl, by go_num, by omega, HS, hh (by rw [List.length_set]; exact HO.o), hh (DR.o.set i (by omega) (by omega)), by rw [HC.o]⟩
  case measure => simp [intOf]; omega
theorem iaddMag_lt (A : Option Addr) (n c : Nat) (l : List Int) (B : Option Addr) (m d : Nat) (r : List Int) (w : World) (h1 : Rd w A n c l) (h2 : Rd w B m d r) (dl : Dg l) (dr : Dg r) (hn : n < 10000) (hmn : m < n) :
  Calls Tryz.prog 183 #[.slice B m d, .slice A n c] w (RetS (dig (dval l + dval r).toNat) w) := by
 have L1 := hh h1.1
 have L2 := hh h2.1
 have H1 := hh h1
 have H2 := hh h2
 clear h1 h2
 have hmk := make_u32 w (n + 1) (n + 1) (by omega) (by omega)
 go_enter Tryz.func183, Tryz.ntmps183
 go_wp2
 clear hmk
 go_loopw [6, 22] (fun s6 i wr => ∃ (q : Int) (i' : Nat) (o : List Int) (kx : Jk), s6 = .int .u64 q ∧ i = .int .i64 i' ∧ i' ≤ n ∧ Hid (AddInv l r (o.take i') i' q) ∧ Hid (o.length = n + 1) ∧ Hid (Dg o) ∧ wr = (w.alloc (.cells (cellsU o) 240)).jk kx) (fun _ i _ => n - (intOf i).toNat)
 case atStart =>
  obtain ⟨k0, hk0⟩ := Q.refl (w.alloc (.cells (cellsU (List.replicate (n + 1) 0)) 240))
  exact ⟨0, 0, List.replicate (n + 1) 0, k0, rfl, rfl, Nat.zero_le _, hh (AddInv.start l r), hh (by simp), hh (fun d hd => by have := List.eq_of_mem_replicate hd; omega), hk0⟩
 case round =>
  obtain ⟨q, i, o, kx, rfl, rfl, hi, HI, HO, DR, rfl⟩ := hrel
  have hq0 := HI.o.c0
  have hq1 := HI.o.c1
  obtain ⟨x, ex⟩ : ∃ x, l.getD i 0 = x := ⟨_, rfl⟩
  obtain ⟨y, ey⟩ : ∃ y, r.getD i 0 = y := ⟨_, rfl⟩
  have hx : 0 ≤ x ∧ x < 4294967296 := ex ▸ dl.getD i
  have hy : 0 ≤ y ∧ y < 4294967296 := ey ▸ dr.getD i
  obtain ⟨hx0, hx1⟩ := hx
  obtain ⟨hy0, hy1⟩ := hy
  have EX := hh ex
  have EY := hh ey
  clear ex ey
  by_cases hin : i < n
  rotate_left
  ·obtain rfl : i = n := by omega
   have hcz := cellsU_at (o := o) (j := i) (by rw [HO.o]; omega)
   obtain ⟨z, ez⟩ : ∃ z, o.getD i 0 = z := ⟨_, rfl⟩
   rw [ez] at hcz
   clear ez
   have HC := hh (cellsU_set o i q)
   have HD : Hid (Dg (o.set i q)) := hh (DR.o.set i (by omega) (by omega))
   have HV : Hid (dval (o.set i q) = dval l + dval r) := hh (by
    have hv := HI.o.val
    rw [List.take_of_length_le (l := l) (by rw [L1.o]; exact Nat.le_refl _), List.take_of_length_le (l := r) (by rw [L2.o]; omega)] at hv
    have e1 : (o.set i q).take (i + 1) = o.set i q := List.take_of_length_le (by rw [List.length_set, HO.o]; exact Nat.le_refl _)
    rw [← e1, take_set_succ o i q (by rw [HO.o]; omega), dval_snoc, List.length_take, HO.o, Nat.min_eq_left (by omega)]
    omega)
   have hrd : ∀ k, Rd ((w.alloc (.cells (cellsU (o.set i q)) 240)).jk k) (some ⟨w.heap.size, 0, none⟩) (i + 1) (i + 1) (o.set i q) := fun k => by
    have hol : (o.set i q).length = i + 1 := by rw [List.length_set, HO.o]
    refine ⟨hol, Nat.le_refl _, fun _ => ⟨_, rfl, by simp [World.size_jk]; omega, fun j hj => ?_⟩, fun h => by cases h⟩
    rw [World.cell?_jk, cell_of_row _ _ _ (cellsU (o.set i q)) _ (0, 0) (heap_alloc_new w _)]
    exact cellsU_at (by omega)
   have HRD := hh hrd
   clear hrd
   have hi1 : i < i + 1 := by omega
   go_wp2_with (go_at_call 174; rw [HC.o]; refine (itrim_any _ _ _ (o.set i q) _ (HRD.o _) HD.o (by omega)).mono ?_; rintro e w' ⟨A', n', rfl, rfl, hr0, hf'⟩; have hr' := hr0 _ (HRD.o kx); clear hr0)
   go_ret
   refine RetS.of (A := A') (n := n') (c := n') rfl (((Q.refl _).alloc _).jk _) ?_ (hf' w (fun ad e => by cases e; exact Nat.le_refl _))
   rw [← HV.o]
   exact hr'
  by_cases him : i < m
  rotate_left
  ·have hy' : y = 0 := by rw [← EY.o]; exact getD_ge (by rw [L2.o]; omega)
   obtain ⟨ST, t0, t1⟩ := HI.o.step (t := x + q) dl dr (by rw [EX.o, EY.o]; omega)
   rw [← take_set_succ o i _ (by rw [HO.o]; omega)] at ST
   have HS := hh ST
   clear ST
   clear hy'
   obtain ⟨g, rfl, hOld, hc⟩ := H1.o.at_ (by omega)
   have hcx := hc.o i hin
   rw [EX.o] at hcx
   clear hc
   have hcz := cellsU_at (o := o) (j := i) (by rw [HO.o]; omega)
   obtain ⟨z, ez⟩ : ∃ z, o.getD i 0 = z := ⟨_, rfl⟩
   rw [ez] at hcz
   clear ez
   have HC := hh (cellsU_set o i ((x + q) % 4294967296))
   have hi1 : i < n + 1 := by omega
   go_wp2
   go_roundw
   case rel => exact ⟨_, i + 1, _, kx, rfl, by go_num, by omega, HS, hh (by rw [List.length_set]; exact HO.o), hh (DR.o.set i (by omega) (by omega)), by rw [HC.o]⟩
   case measure => simp [intOf]; omega
  obtain ⟨ST, t0, t1⟩ := HI.o.step (t := x + q + y) dl dr (by rw [EX.o, EY.o]; omega)
  rw [← take_set_succ o i _ (by rw [HO.o]; omega)] at ST
  have HS := hh ST
  clear ST
  obtain ⟨g, rfl, hOld, hc⟩ := H1.o.at_ (by omega)
  have hcx := hc.o i hin
  rw [EX.o] at hcx
  clear hc
  obtain ⟨g', rfl, hOld', hc'⟩ := H2.o.at_ (by omega)
  have hcy := hc'.o i him
  rw [EY.o] at hcy
  clear hc'
  have hcz := cellsU_at (o := o) (j := i) (by rw [HO.o]; omega)
  obtain ⟨z, ez⟩ : ∃ z, o.getD i 0 = z := ⟨_, rfl⟩
  rw [ez] at hcz
  clear ez
  have HC := hh (cellsU_set o i ((x + q + y) % 4294967296))
  have hi1 : i < n + 1 := by omega
  go_wp2
  go_roundw
  case rel => exact ⟨_, i + 1, _, kx, rfl, by go_num, by omega, HS, hh (by rw [List.length_set]; exact HO.o), hh (DR.o.set i (by omega) (by omega)), by rw [HC.o]⟩
  case measure => simp [intOf]; omega
theorem iaddMag_any (A : Option Addr) (n c : Nat) (l : List Int) (B : Option Addr) (m d : Nat) (r : List Int) (w : World) (h1 : Rd w A n c l) (h2 : Rd w B m d r) (dl : Dg l) (dr : Dg r) (hn : n < 10000) (hm : m < 10000) :
  Calls Tryz.prog 183 #[.slice A n c, .slice B m d] w (RetS (dig (dval l + dval r).toNat) w) := by
 rcases Nat.lt_or_ge n m with h | h
 ·rw [Int.add_comm]
  exact iaddMag_lt B m d r A n c l w h2 h1 dr dl hm h
 exact iaddMag_ge A n c l B m d r w h1 h2 dl dr hn h
theorem isubMag_any (A : Option Addr) (n c : Nat) (l : List Int) (B : Option Addr) (m d : Nat) (r : List Int) (w : World) (h1 : Rd w A n c l) (h2 : Rd w B m d r) (dl : Dg l) (dr : Dg r) (tr : Tr r) (hle : dval r ≤ dval l) (hn : n < 10000) :
  Calls Tryz.prog 184 #[.slice A n c, .slice B m d] w (RetS (dig (dval l - dval r).toNat) w) := by
 have hml : m ≤ n := by rw [← h1.1, ← h2.1]; exact len_le_of_dval dl dr tr hle
 have L1 := hh h1.1
 have L2 := hh h2.1
 have H1 := hh h1
 have H2 := hh h2
 have HLE := hh hle
 clear h1 h2 hle
 have hmk := make_u32 w n n (by omega) (by omega)
 go_enter Tryz.func184, Tryz.ntmps184
 go_wp2
 clear hmk
 go_loopw [6, 14] (fun s6 i wr => ∃ (q : Int) (i' : Nat) (o : List Int) (kx : Jk), s6 = .int .u64 q ∧ i = .int .i64 i' ∧ i' ≤ n ∧ Hid (SubInv l r (o.take i') i' q) ∧ Hid (o.length = n) ∧ Hid (Dg o) ∧ wr = (w.alloc (.cells (cellsU o) 240)).jk kx) (fun _ i _ => n - (intOf i).toNat)
 case atStart =>
  obtain ⟨k0, hk0⟩ := Q.refl (w.alloc (.cells (cellsU (List.replicate n 0)) 240))
  exact ⟨0, 0, List.replicate n 0, k0, rfl, rfl, Nat.zero_le _, hh (SubInv.start l r), hh (by simp), hh (fun d hd => by have := List.eq_of_mem_replicate hd; omega), hk0⟩
 case round =>
  obtain ⟨q, i, o, kx, rfl, rfl, hi, HI, HO, DR, rfl⟩ := hrel
  have hq0 := HI.o.c0
  have hq1 := HI.o.c1
  obtain ⟨x, ex⟩ : ∃ x, l.getD i 0 = x := ⟨_, rfl⟩
  obtain ⟨y, ey⟩ : ∃ y, r.getD i 0 = y := ⟨_, rfl⟩
  have hx : 0 ≤ x ∧ x < 4294967296 := ex ▸ dl.getD i
  have hy : 0 ≤ y ∧ y < 4294967296 := ey ▸ dr.getD i
  obtain ⟨hx0, hx1⟩ := hx
  obtain ⟨hy0, hy1⟩ := hy
  have EX := hh ex
  have EY := hh ey
  clear ex ey
  by_cases hin : i < n
  rotate_left
  ·obtain rfl : i = n := by omega
   have HV : Hid (dval o = dval l - dval r) := hh (by
    have hI := HI.o
    rw [List.take_of_length_le (by rw [HO.o]; exact Nat.le_refl _), ← L1.o] at hI
    exact hI.done (by rw [L1.o, L2.o]; exact hml) HLE.o)
   have hrd : Rd ((w.alloc (.cells (cellsU o) 240)).jk kx) (some ⟨w.heap.size, 0, none⟩) i i o := by
    refine ⟨HO.o, Nat.le_refl _, fun _ => ⟨_, rfl, by simp [World.size_jk]; omega, fun j hj => ?_⟩, fun h => by cases h⟩
    rw [World.cell?_jk, cell_of_row _ _ _ (cellsU o) _ (0, 0) (heap_alloc_new w _)]
    exact cellsU_at (by rw [HO.o]; exact hj)
   have HRD := hh hrd
   clear hrd
   go_wp2_with (go_at_call 174; refine (itrim_any _ _ _ o _ HRD.o DR.o (by omega)).mono ?_; rintro e w' ⟨A', n', rfl, rfl, hr0, hf'⟩; have hr' := hr0 _ HRD.o; clear hr0)
   go_ret
   refine RetS.of (A := A') (n := n') (c := n') rfl (((Q.refl _).alloc _).jk _) ?_ (hf' w (fun ad e => by cases e; exact Nat.le_refl _))
   rw [← HV.o]
   exact hr'
  by_cases him : i < m
  rotate_left
  ·have hy' : y = 0 := by rw [← EY.o]; exact getD_ge (by rw [L2.o]; omega)
   obtain ⟨ST, t0, t1⟩ := HI.o.step (t := (x - q) % 18446744073709551616) dl dr (by rw [EX.o, EY.o]; rw [hy', Int.sub_zero])
   rw [← take_set_succ o i _ (by rw [HO.o]; omega)] at ST
   have HS := hh ST
   clear ST
   clear hy'
   obtain ⟨g, rfl, hOld, hc⟩ := H1.o.at_ (by omega)
   have hcx := hc.o i hin
   rw [EX.o] at hcx
   clear hc
   obtain ⟨tt, htt⟩ : ∃ tt, tt = (x - q) % 18446744073709551616 := ⟨_, rfl⟩
   have E1 : Hid (IntKind.u64.wrap (x - q) = tt) := hh (by rw [htt, IntKind.wrap_u64])
   rw [← htt] at HS t0 t1
   clear htt
   have hcz := cellsU_at (o := o) (j := i) (by rw [HO.o]; omega)
   obtain ⟨z, ez⟩ : ∃ z, o.getD i 0 = z := ⟨_, rfl⟩
   rw [ez] at hcz
   clear ez
   have HC := hh (cellsU_set o i (tt % 4294967296))
   go_upto_region 9 with (fail)
   rw [E1.o]
   go_wp2
   go_roundw
   case rel => exact ⟨_, i + 1, _, kx, rfl, by go_num, by omega, HS, hh (by rw [List.length_set]; exact HO.o), hh (DR.o.set i (by omega) (by omega)), by rw [HC.o]⟩
   case measure => simp [intOf]; omega
  obtain ⟨ST, t0, t1⟩ := HI.o.step (t := (x - q - y) % 18446744073709551616) dl dr (by rw [EX.o, EY.o])
  rw [← take_set_succ o i _ (by rw [HO.o]; omega)] at ST
  have HS := hh ST
  clear ST
  obtain ⟨g, rfl, hOld, hc⟩ := H1.o.at_ (by omega)
  have hcx := hc.o i hin
  rw [EX.o] at hcx
  clear hc
  obtain ⟨g', rfl, hOld', hc'⟩ := H2.o.at_ (by omega)
  have hcy := hc'.o i him
  rw [EY.o] at hcy
  clear hc'
  obtain ⟨tt, htt⟩ : ∃ tt, tt = (x - q - y) % 18446744073709551616 := ⟨_, rfl⟩
  have E1 : Hid (IntKind.u64.wrap (IntKind.u64.wrap (x - q) - y) = tt) := hh (by rw [htt, IntKind.wrap_u64, IntKind.wrap_u64]; omega)
  rw [← htt] at HS t0 t1
  clear htt
  have hcz := cellsU_at (o := o) (j := i) (by rw [HO.o]; omega)
  obtain ⟨z, ez⟩ : ∃ z, o.getD i 0 = z := ⟨_, rfl⟩
  rw [ez] at hcz
  clear ez
  have HC := hh (cellsU_set o i (tt % 4294967296))
  go_upto_region 9 with (fail)
  rw [E1.o]
  go_wp2
  go_roundw
  case rel => exact ⟨_, i + 1, _, kx, rfl, by go_num, by omega, HS, hh (by rw [List.length_set]; exact HO.o), hh (DR.o.set i (by omega) (by omega)), by rw [HC.o]⟩
  case measure => simp [intOf]; omega
end Go.Proofs.YtcjflafjmdfanaaGreatDoor
