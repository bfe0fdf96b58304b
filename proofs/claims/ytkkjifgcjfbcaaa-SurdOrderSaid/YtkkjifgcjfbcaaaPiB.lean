
/- What Of, result, Compare, Sign and Mul of package integer return. -/
import Derived.Test.YtkkjifgcjfbcaaaPiA
namespace Go
open Go.Sub
/-- result made an integer of the sign b and of digits that lie in the slice A. -/
def IRes (b : Bool) (A : Option Addr) (l : List Int) (w : World) (e : Ending) (w' : World) : Prop := ∃ A' n' k, e = .returned (.tuple #[.agg #[.bool b, .slice A' n' n'], .int .i64 0]) ∧ w' = w.jk k ∧ Rd (w.jk k) A' n' n' (trL l) ∧ ∀ W, Fr W A → Fr W A'
theorem Rd.two' (w : World) (a b : Int) (t : TypeId) (g : Nat) (hg : g = w.heap.size) : Rd (w.alloc (.cells #[.int .u32 a, .int .u32 b] t)) (some ⟨g, 0, .none⟩) 2 2 [a, b] := hg ▸ Rd.two w a b t
theorem Rd.swapA {W W' : World} {o : Obj} {A : Option Addr} {n c : Nat} {l : List Int} (hs : W.heap.size = W'.heap.size) (h : Rd (W.alloc o) A n c l) (hf : Fr W A) : Rd (W'.alloc o) A n c l := by
  refine ⟨h.1, h.2.1, fun hn => ?_, h.2.2.2⟩
  obtain ⟨g, rfl, hg, hc⟩ := h.2.2.1 hn
  have hge : W.heap.size ≤ g := hf ⟨g, 0, .none⟩ rfl
  refine ⟨g, rfl, by simp at *; omega, fun i hi => ?_⟩
  rw [← hc i hi]
  refine World.cell?_of_block (w := W.alloc o) (a := ⟨g, i, .none⟩) ?_
  simp only [World.alloc, Array.getElem?_push]
  rw [hs] at hge ⊢
  split
  · rfl
  · rw [Array.getElem?_eq_none (by omega), Array.getElem?_eq_none (by omega)]
end Go
namespace Go.Proofs.Ytkkjifgcjfbcaaa
open Go.RowKit Go.Sub
set_option maxHeartbeats 1000000 in
theorem iof_any (z : Int) (w : World) (h0 : -9223372036854775808 ≤ z) (h1 : z ≤ 9223372036854775807) :
    Calls Try.prog 101 #[.int .i64 z] w (RetZ z w) := by
  by_cases hz : z < 0
  · have HT : Hid (trL [-z % 4294967296, -z / 4294967296] = dig z.natAbs) := Lib.hid (by rw [trL_two (-z) (by omega) (by omega)]; congr 1; omega)
    have HD : Hid (Dg [-z % 4294967296, -z / 4294967296]) := Lib.hid (Dg.cons (by omega) (by omega) (Dg.cons (by omega) (by omega) Dg.nil))
    have HN : Hid (IntKind.u64.wrap (-(IntKind.u64.wrap z)) = -z) := Lib.hid (by rw [IntKind.wrap_u64, IntKind.wrap_u64]; omega)
    go_enter Try.func101, Try.ntmps101
    go_upto_region 4 with (fail)
    rw [HN.out]
    go_wp2_with (go_at_call 115; refine (itrim_any _ _ _ [-z % 4294967296, -z / 4294967296] _ (Rd.two' _ _ _ _ _ (by simp)) HD.out (by decide)).mono ?_; rintro e w' ⟨A', n', rfl, rfl, hr0, hf'⟩; have HR := Lib.hid (hr0 _ (Rd.two' (w.alloc (.cells #[.bool false, .slice none 0 0] 71)) _ _ 105 _ (by simp))); have HF := Lib.hid (hf' (w.alloc (.cells #[.bool false, .slice none 0 0] 71)) (fun ad e => by cases e; simp)); clear hr0 hf')
    refine bodyPost_ret (v := .agg #[.bool (decide (z < 0)), .slice A' n' n']) (by simp [results, Try.results101, go_sem, hz]) rfl (RetI.of (A := A') (n := n') (c := n') rfl ?_ ?_ (HF.out.q (by repeat' (first | exact Q.refl _ | refine Q.alloc ?_ _ | refine Q.jk ?_ _ | refine Q.drew ?_))))
    · repeat' (first | exact Q.refl _ | refine Q.alloc ?_ _ | refine Q.jk ?_ _ | refine Q.drew ?_)
    · have := HR.out
      rw [HT.out] at this
      exact this.swapA (by simp) HF.out
  · have HT : Hid (trL [z % 4294967296, z / 4294967296] = dig z.natAbs) := Lib.hid (by rw [trL_two z (by omega) (by omega)]; congr 1; omega)
    have HD : Hid (Dg [z % 4294967296, z / 4294967296]) := Lib.hid (Dg.cons (by omega) (by omega) (Dg.cons (by omega) (by omega) Dg.nil))
    go_enter Try.func101, Try.ntmps101
    go_wp2_with (go_at_call 115; refine (itrim_any _ _ _ [z % 4294967296, z / 4294967296] _ (Rd.two' _ _ _ _ _ (by simp)) HD.out (by decide)).mono ?_; rintro e w' ⟨A', n', rfl, rfl, hr0, hf'⟩; have HR := Lib.hid (hr0 _ (Rd.two' (w.alloc (.cells #[.bool false, .slice none 0 0] 71)) _ _ 105 _ (by simp))); have HF := Lib.hid (hf' (w.alloc (.cells #[.bool false, .slice none 0 0] 71)) (fun ad e => by cases e; simp)); clear hr0 hf')
    refine bodyPost_ret (v := .agg #[.bool (decide (z < 0)), .slice A' n' n']) (by simp [results, Try.results101, go_sem, hz]) rfl (RetI.of (A := A') (n := n') (c := n') rfl ?_ ?_ (HF.out.q (by repeat' (first | exact Q.refl _ | refine Q.alloc ?_ _ | refine Q.jk ?_ _ | refine Q.drew ?_))))
    · repeat' (first | exact Q.refl _ | refine Q.alloc ?_ _ | refine Q.jk ?_ _ | refine Q.drew ?_)
    · have := HR.out
      rw [HT.out] at this
      exact this.swapA (by simp) HF.out
set_option maxHeartbeats 1000000 in
theorem iresult_any (b : Bool) (A : Option Addr) (n c : Nat) (l : List Int) (w : World) (h : Rd w A n c l) (hd : Dg l) (hn : n < 100000) (hl : (trL l).length ≤ 12) :
    Calls Try.prog 113 #[.bool b, .slice A n c] w (IRes (b && decide (trL l ≠ [])) A l w) := by
  have HX := Lib.hid h
  have HL : Hid ((trL l).length ≤ 400) := Lib.hid (by omega)
  clear h hl
  cases b
  · rw [Bool.false_and]
    go_enter Try.func113, Try.ntmps113
    go_wp2_with (go_at_call 115; refine (itrim_any _ _ _ l _ (HX.out.q (by repeat' (first | exact Q.refl _ | refine Q.alloc ?_ _ | refine Q.jk ?_ _ | refine Q.drew ?_))) hd (by omega)).mono ?_; rintro e w' ⟨A', n', rfl, rfl, hr0, hf'⟩; have HR := Lib.hid (hr0 w HX.out); have HF := Lib.hid hf'; clear hr0 hf'; have hn' : n' ≤ 400 := (by rw [← HR.out.1]; exact HL.out))
    refine bodyPost_ret (v := .tuple #[.agg #[.bool false, .slice A' n' n'], .int .i64 0]) (by simp [results, Try.results113, go_sem]) rfl ?_
    obtain ⟨kz, hkz⟩ := (show Q w (w.alloc (.cells #[.bool false, .slice A' n' n'] 71)) from (Q.refl _).alloc _)
    exact ⟨A', n', kz, rfl, hkz, HR.out.q ⟨kz, rfl⟩, HF.out⟩
  · rw [Bool.true_and]
    by_cases ht : trL l = []
    · have HT := Lib.hid ht
      rw [show decide (trL l ≠ []) = false by simp [ht]]
      clear ht
      go_enter Try.func113, Try.ntmps113
      go_wp2_with (go_at_call 115; refine (itrim_any _ _ _ l _ (HX.out.q (by repeat' (first | exact Q.refl _ | refine Q.alloc ?_ _ | refine Q.jk ?_ _ | refine Q.drew ?_))) hd (by omega)).mono ?_; rintro e w' ⟨A', n', rfl, rfl, hr0, hf'⟩; have HR := Lib.hid (hr0 w HX.out); have HF := Lib.hid hf'; clear hr0 hf'; have hn' : n' ≤ 400 := (by rw [← HR.out.1]; exact HL.out); obtain rfl : n' = 0 := by (have h1 := HR.out.1; rw [HT.out] at h1; exact h1.symm))
      refine bodyPost_ret (v := .tuple #[.agg #[.bool false, .slice A' 0 0], .int .i64 0]) (by simp [results, Try.results113, go_sem]) rfl ?_
      obtain ⟨kz, hkz⟩ := (show Q w (w.alloc (.cells #[.bool false, .slice A' 0 0] 71)) from (Q.refl _).alloc _)
      exact ⟨A', 0, kz, rfl, hkz, HR.out.q ⟨kz, rfl⟩, HF.out⟩
    · have HT := Lib.hid ht
      rw [show decide (trL l ≠ []) = true by simp [ht]]
      clear ht
      go_enter Try.func113, Try.ntmps113
      go_wp2_with (go_at_call 115; refine (itrim_any _ _ _ l _ (HX.out.q (by repeat' (first | exact Q.refl _ | refine Q.alloc ?_ _ | refine Q.jk ?_ _ | refine Q.drew ?_))) hd (by omega)).mono ?_; rintro e w' ⟨A', n', rfl, rfl, hr0, hf'⟩; have HR := Lib.hid (hr0 w HX.out); have HF := Lib.hid hf'; clear hr0 hf'; have hn' : n' ≤ 400 := (by rw [← HR.out.1]; exact HL.out); have hn0 : 0 < n' := by (rcases Nat.eq_zero_or_pos n' with h0 | h0; exact absurd (List.eq_nil_of_length_eq_zero (HR.out.1.trans h0)) HT.out; exact h0))
      refine bodyPost_ret (v := .tuple #[.agg #[.bool true, .slice A' n' n'], .int .i64 0]) (by simp [results, Try.results113, go_sem]) rfl ?_
      obtain ⟨kz, hkz⟩ := (show Q w (w.alloc (.cells #[.bool true, .slice A' n' n'] 71)) from (Q.refl _).alloc _)
      exact ⟨A', n', kz, rfl, hkz, HR.out.q ⟨kz, rfl⟩, HF.out⟩
set_option maxHeartbeats 1000000 in
theorem icmp_z (b : Bool) (A : Option Addr) (n c : Nat) (x : Int) (b' : Bool) (B : Option Addr) (m d : Nat) (y : Int) (w : World) (bx : b = decide (x < 0)) (rx : Rd w A n c (dig x.natAbs)) (hx : Sm x) (by' : b' = decide (y < 0)) (ry : Rd w B m d (dig y.natAbs)) (hy : Sm y) :
    Calls Try.prog 102 #[.agg #[.bool b, .slice A n c], .agg #[.bool b', .slice B m d]] w fun e w' => e = .returned (.int .i64 (cmpI x y)) ∧ Q w w' := by
  have ln : n ≤ 12 := by rw [← rx.1]; exact hx.len
  have lm : m ≤ 12 := by rw [← ry.1]; exact hy.len
  have HX := Lib.hid rx
  have HY := Lib.hid ry
  have BX := Lib.hid bx
  have BY := Lib.hid by'
  clear rx ry
  cases b <;> cases b'
  · have hx0 : 0 ≤ x := by simpa using bx
    have hy0 : 0 ≤ y := by simpa using by'
    have E := Lib.hid (cmp_abs hx0 hy0)
    clear bx by' hx0 hy0
    go_enter Try.func102, Try.ntmps102
    go_wp2_with (first | (go_at_call 112; first | ((with_reducible refine (ivalid_z _ _ _ _ x _ BX.out (HX.out.q (by repeat' (first | exact Q.refl _ | refine Q.alloc ?_ _ | refine Q.jk ?_ _ | refine Q.drew ?_))) hx).mono ?_); rintro e w' ⟨rfl, kj, rfl⟩) | ((with_reducible refine (ivalid_z _ _ _ _ y _ BY.out (HY.out.q (by repeat' (first | exact Q.refl _ | refine Q.alloc ?_ _ | refine Q.jk ?_ _ | refine Q.drew ?_))) hy).mono ?_); rintro e w' ⟨rfl, kj, rfl⟩)) | (go_at_call 116; refine (icmpMag_any _ _ _ (dig x.natAbs) _ _ _ (dig y.natAbs) _ (HX.out.q (by repeat' (first | exact Q.refl _ | refine Q.alloc ?_ _ | refine Q.jk ?_ _ | refine Q.drew ?_))) (HY.out.q (by repeat' (first | exact Q.refl _ | refine Q.alloc ?_ _ | refine Q.jk ?_ _ | refine Q.drew ?_))) (dig_Dg _) (dig_Dg _) (dig_Tr _) (dig_Tr _) (by omega) (by omega)).mono ?_; rintro e w' ⟨rfl, kj, rfl⟩))
    go_ret
    refine ⟨by rw [← E.out, ← dval_dg, ← dval_dg]; rfl, ?_⟩
    repeat' (first | exact Q.refl _ | refine Q.alloc ?_ _ | refine Q.jk ?_ _ | refine Q.drew ?_)
  · have hx0 : 0 ≤ x := by simpa using bx
    have hy0 : y < 0 := by simpa using by'
    have E := Lib.hid (cmp_signs' hx0 hy0)
    clear bx by' hx0 hy0
    go_enter Try.func102, Try.ntmps102
    go_wp2_with (go_at_call 112; first | ((with_reducible refine (ivalid_z _ _ _ _ x _ BX.out (HX.out.q (by repeat' (first | exact Q.refl _ | refine Q.alloc ?_ _ | refine Q.jk ?_ _ | refine Q.drew ?_))) hx).mono ?_); rintro e w' ⟨rfl, kj, rfl⟩) | ((with_reducible refine (ivalid_z _ _ _ _ y _ BY.out (HY.out.q (by repeat' (first | exact Q.refl _ | refine Q.alloc ?_ _ | refine Q.jk ?_ _ | refine Q.drew ?_))) hy).mono ?_); rintro e w' ⟨rfl, kj, rfl⟩))
    go_ret
    refine ⟨by rw [E.out]; rfl, ?_⟩
    repeat' (first | exact Q.refl _ | refine Q.alloc ?_ _ | refine Q.jk ?_ _ | refine Q.drew ?_)
  · have hx0 : x < 0 := by simpa using bx
    have hy0 : 0 ≤ y := by simpa using by'
    have E := Lib.hid (cmp_signs hx0 hy0)
    clear bx by' hx0 hy0
    go_enter Try.func102, Try.ntmps102
    go_wp2_with (go_at_call 112; first | ((with_reducible refine (ivalid_z _ _ _ _ x _ BX.out (HX.out.q (by repeat' (first | exact Q.refl _ | refine Q.alloc ?_ _ | refine Q.jk ?_ _ | refine Q.drew ?_))) hx).mono ?_); rintro e w' ⟨rfl, kj, rfl⟩) | ((with_reducible refine (ivalid_z _ _ _ _ y _ BY.out (HY.out.q (by repeat' (first | exact Q.refl _ | refine Q.alloc ?_ _ | refine Q.jk ?_ _ | refine Q.drew ?_))) hy).mono ?_); rintro e w' ⟨rfl, kj, rfl⟩))
    go_ret
    refine ⟨by rw [E.out]; rfl, ?_⟩
    repeat' (first | exact Q.refl _ | refine Q.alloc ?_ _ | refine Q.jk ?_ _ | refine Q.drew ?_)
  · have hx0 : x < 0 := by simpa using bx
    have hy0 : y < 0 := by simpa using by'
    have E := Lib.hid (cmp_abs' hx0 hy0)
    clear bx by' hx0 hy0
    go_enter Try.func102, Try.ntmps102
    go_wp2_with (first | (go_at_call 112; first | ((with_reducible refine (ivalid_z _ _ _ _ x _ BX.out (HX.out.q (by repeat' (first | exact Q.refl _ | refine Q.alloc ?_ _ | refine Q.jk ?_ _ | refine Q.drew ?_))) hx).mono ?_); rintro e w' ⟨rfl, kj, rfl⟩) | ((with_reducible refine (ivalid_z _ _ _ _ y _ BY.out (HY.out.q (by repeat' (first | exact Q.refl _ | refine Q.alloc ?_ _ | refine Q.jk ?_ _ | refine Q.drew ?_))) hy).mono ?_); rintro e w' ⟨rfl, kj, rfl⟩)) | (go_at_call 116; refine (icmpMag_any _ _ _ (dig y.natAbs) _ _ _ (dig x.natAbs) _ (HY.out.q (by repeat' (first | exact Q.refl _ | refine Q.alloc ?_ _ | refine Q.jk ?_ _ | refine Q.drew ?_))) (HX.out.q (by repeat' (first | exact Q.refl _ | refine Q.alloc ?_ _ | refine Q.jk ?_ _ | refine Q.drew ?_))) (dig_Dg _) (dig_Dg _) (dig_Tr _) (dig_Tr _) (by omega) (by omega)).mono ?_; rintro e w' ⟨rfl, kj, rfl⟩))
    go_ret
    refine ⟨by rw [← E.out, ← dval_dg, ← dval_dg]; rfl, ?_⟩
    repeat' (first | exact Q.refl _ | refine Q.alloc ?_ _ | refine Q.jk ?_ _ | refine Q.drew ?_)
set_option maxHeartbeats 1000000 in
theorem isign_z (b : Bool) (A : Option Addr) (n c : Nat) (x : Int) (w : World) (bx : b = decide (x < 0)) (rx : Rd w A n c (dig x.natAbs)) (hx : Sm x) :
    Calls Try.prog 99 #[.agg #[.bool b, .slice A n c]] w fun e w' => e = .returned (.int .i64 (sgn x)) ∧ Q w w' := by
  have HX := Lib.hid rx
  have BX := Lib.hid bx
  have HZ : ∀ w, Rd w none 0 0 (dig (0 : Int).natAbs) := fun w => by rw [show (0 : Int).natAbs = 0 from rfl, dig_zero]; exact Rd.nil w
  have HZ' := Lib.hid HZ
  clear rx bx HZ
  rw [← cmp_zero]
  go_enter Try.func99, Try.ntmps99
  go_wp2_with (go_at_call 102; refine (icmp_z _ _ _ _ x _ _ _ _ 0 _ BX.out (HX.out.q (by repeat' (first | exact Q.refl _ | refine Q.alloc ?_ _ | refine Q.jk ?_ _ | refine Q.drew ?_))) hx (by decide) (HZ'.out _) (Sm.of (by decide) (by decide))).mono ?_; rintro e w' ⟨rfl, kj, rfl⟩)
  go_ret
  refine ⟨rfl, ?_⟩
  repeat' (first | exact Q.refl _ | refine Q.alloc ?_ _ | refine Q.jk ?_ _ | refine Q.drew ?_)
set_option maxHeartbeats 2000000 in
theorem imul_z (b : Bool) (A : Option Addr) (n c : Nat) (x : Int) (b' : Bool) (B : Option Addr) (m d : Nat) (y : Int) (w : World) (bx : b = decide (x < 0)) (rx : Rd w A n c (dig x.natAbs)) (hx : Sm x) (by' : b' = decide (y < 0)) (ry : Rd w B m d (dig y.natAbs)) (hy : Sm y) (hxy : Sm (x * y)) :
    Calls Try.prog 100 #[.agg #[.bool b, .slice A n c], .agg #[.bool b', .slice B m d]] w (RetZ2 (x * y) w) := by
  have ln : n ≤ 12 := by rw [← rx.1]; exact hx.len
  have lm : m ≤ 12 := by rw [← ry.1]; exact hy.len
  have HX := Lib.hid rx
  have HY := Lib.hid ry
  have BX := Lib.hid bx
  have BY := Lib.hid by'
  have HL := Lib.hid hxy.len
  have HD := Lib.hid (mul_dig x y)
  have HT : Hid (trL (dig (dval (dig x.natAbs) * dval (dig y.natAbs)).toNat) = dig (x * y).natAbs) := Lib.hid (by rw [trL_dig, HD.out])
  have HS : Hid (((b != b') && decide (trL (dig (dval (dig x.natAbs) * dval (dig y.natAbs)).toNat) ≠ [])) = decide (x * y < 0)) := Lib.hid (by rw [bx, by']; exact mul_sgn _ HT.out)
  clear rx ry bx by'
  cases b <;> cases b'
  · have HS' : Hid ((false && decide (trL (dig (dval (dig x.natAbs) * dval (dig y.natAbs)).toNat) ≠ [])) = decide (x * y < 0)) := Lib.hid HS.out
    clear HS
    go_enter Try.func100, Try.ntmps100
    go_wp2_with (go_at_call 112; first | ((with_reducible refine (ivalid_z _ _ _ _ x _ BX.out (HX.out.q (by repeat' (first | exact Q.refl _ | refine Q.alloc ?_ _ | refine Q.jk ?_ _ | refine Q.drew ?_))) hx).mono ?_); rintro e w' ⟨rfl, kj, rfl⟩) | ((with_reducible refine (ivalid_z _ _ _ _ y _ BY.out (HY.out.q (by repeat' (first | exact Q.refl _ | refine Q.alloc ?_ _ | refine Q.jk ?_ _ | refine Q.drew ?_))) hy).mono ?_); rintro e w' ⟨rfl, kj, rfl⟩))
    go_region_held3 (fun w' => w'.cell? ⟨w.heap.size, 0, none⟩ = some (.bool false) ∧ w'.cell? ⟨w.heap.size, 1, none⟩ = some (.slice A n c) ∧ w'.cell? ⟨w.heap.size + 1, 0, none⟩ = some (.bool false) ∧ w'.cell? ⟨w.heap.size + 1, 1, none⟩ = some (.slice B m d)) (simp [go_sem])
      (first
       | (go_at_call 114; refine (imulMag_any _ _ _ (dig x.natAbs) _ _ _ (dig y.natAbs) _ (HX.out.q (by repeat' (first | exact Q.refl _ | refine Q.alloc ?_ _ | refine Q.jk ?_ _ | refine Q.drew ?_))) (HY.out.q (by repeat' (first | exact Q.refl _ | refine Q.alloc ?_ _ | refine Q.jk ?_ _ | refine Q.drew ?_))) (dig_Dg _) (dig_Dg _) (by omega) (by omega)).mono ?_; rintro e w' ⟨A1, n1, c1, k1, rfl, rfl, hr1, hf1⟩; have HR1 := Lib.hid hr1; have HF1 := Lib.hid hf1; have HL1 : n1 ≤ 12 := (by rw [← hr1.1, HD.out]; exact HL.out); clear hr1 hf1)
       | (go_at_call 113; refine (iresult_any _ _ _ _ _ _ HR1.out (dig_Dg _) (by omega) (by rw [HT.out]; exact HL.out)).mono ?_; rintro e w' ⟨A2, n2, k2, rfl, rfl, hr2, hf2⟩; have HR2 := Lib.hid hr2; have HF2 := Lib.hid (hf2 _ HF1.out); clear hr2 hf2; rw [HS'.out]))
    rename_i hHeld
    clear hHeld
    go_wp2
    refine bodyPost_ret (v := .tuple #[.agg #[.bool (decide (x * y < 0)), .slice A2 n2 n2], .int .i64 0]) (by simp [results, Try.results100, go_sem]) rfl (RetI2.of (A := A2) (n := n2) (c := n2) rfl ?_ ?_ (HF2.out.q (by repeat' (first | exact Q.refl _ | refine Q.alloc ?_ _ | refine Q.jk ?_ _ | refine Q.drew ?_))))
    · repeat' (first | exact Q.refl _ | refine Q.alloc ?_ _ | refine Q.jk ?_ _ | refine Q.drew ?_)
    · have := HR2.out
      rw [HT.out] at this
      exact this.swap4 (by simp) (HF2.out.q (by repeat' (first | exact Q.refl _ | refine Q.alloc ?_ _ | refine Q.jk ?_ _ | refine Q.drew ?_)))
  · have HS' : Hid ((true && decide (trL (dig (dval (dig x.natAbs) * dval (dig y.natAbs)).toNat) ≠ [])) = decide (x * y < 0)) := Lib.hid HS.out
    clear HS
    go_enter Try.func100, Try.ntmps100
    go_wp2_with (go_at_call 112; first | ((with_reducible refine (ivalid_z _ _ _ _ x _ BX.out (HX.out.q (by repeat' (first | exact Q.refl _ | refine Q.alloc ?_ _ | refine Q.jk ?_ _ | refine Q.drew ?_))) hx).mono ?_); rintro e w' ⟨rfl, kj, rfl⟩) | ((with_reducible refine (ivalid_z _ _ _ _ y _ BY.out (HY.out.q (by repeat' (first | exact Q.refl _ | refine Q.alloc ?_ _ | refine Q.jk ?_ _ | refine Q.drew ?_))) hy).mono ?_); rintro e w' ⟨rfl, kj, rfl⟩))
    go_region_held3 (fun w' => w'.cell? ⟨w.heap.size, 0, none⟩ = some (.bool false) ∧ w'.cell? ⟨w.heap.size, 1, none⟩ = some (.slice A n c) ∧ w'.cell? ⟨w.heap.size + 1, 0, none⟩ = some (.bool true) ∧ w'.cell? ⟨w.heap.size + 1, 1, none⟩ = some (.slice B m d)) (simp [go_sem])
      (first
       | (go_at_call 114; refine (imulMag_any _ _ _ (dig x.natAbs) _ _ _ (dig y.natAbs) _ (HX.out.q (by repeat' (first | exact Q.refl _ | refine Q.alloc ?_ _ | refine Q.jk ?_ _ | refine Q.drew ?_))) (HY.out.q (by repeat' (first | exact Q.refl _ | refine Q.alloc ?_ _ | refine Q.jk ?_ _ | refine Q.drew ?_))) (dig_Dg _) (dig_Dg _) (by omega) (by omega)).mono ?_; rintro e w' ⟨A1, n1, c1, k1, rfl, rfl, hr1, hf1⟩; have HR1 := Lib.hid hr1; have HF1 := Lib.hid hf1; have HL1 : n1 ≤ 12 := (by rw [← hr1.1, HD.out]; exact HL.out); clear hr1 hf1)
       | (go_at_call 113; refine (iresult_any _ _ _ _ _ _ HR1.out (dig_Dg _) (by omega) (by rw [HT.out]; exact HL.out)).mono ?_; rintro e w' ⟨A2, n2, k2, rfl, rfl, hr2, hf2⟩; have HR2 := Lib.hid hr2; have HF2 := Lib.hid (hf2 _ HF1.out); clear hr2 hf2; rw [HS'.out]))
    rename_i hHeld
    clear hHeld
    go_wp2
    refine bodyPost_ret (v := .tuple #[.agg #[.bool (decide (x * y < 0)), .slice A2 n2 n2], .int .i64 0]) (by simp [results, Try.results100, go_sem]) rfl (RetI2.of (A := A2) (n := n2) (c := n2) rfl ?_ ?_ (HF2.out.q (by repeat' (first | exact Q.refl _ | refine Q.alloc ?_ _ | refine Q.jk ?_ _ | refine Q.drew ?_))))
    · repeat' (first | exact Q.refl _ | refine Q.alloc ?_ _ | refine Q.jk ?_ _ | refine Q.drew ?_)
    · have := HR2.out
      rw [HT.out] at this
      exact this.swap4 (by simp) (HF2.out.q (by repeat' (first | exact Q.refl _ | refine Q.alloc ?_ _ | refine Q.jk ?_ _ | refine Q.drew ?_)))
  · have HS' : Hid ((true && decide (trL (dig (dval (dig x.natAbs) * dval (dig y.natAbs)).toNat) ≠ [])) = decide (x * y < 0)) := Lib.hid HS.out
    clear HS
    go_enter Try.func100, Try.ntmps100
    go_wp2_with (go_at_call 112; first | ((with_reducible refine (ivalid_z _ _ _ _ x _ BX.out (HX.out.q (by repeat' (first | exact Q.refl _ | refine Q.alloc ?_ _ | refine Q.jk ?_ _ | refine Q.drew ?_))) hx).mono ?_); rintro e w' ⟨rfl, kj, rfl⟩) | ((with_reducible refine (ivalid_z _ _ _ _ y _ BY.out (HY.out.q (by repeat' (first | exact Q.refl _ | refine Q.alloc ?_ _ | refine Q.jk ?_ _ | refine Q.drew ?_))) hy).mono ?_); rintro e w' ⟨rfl, kj, rfl⟩))
    go_region_held3 (fun w' => w'.cell? ⟨w.heap.size, 0, none⟩ = some (.bool true) ∧ w'.cell? ⟨w.heap.size, 1, none⟩ = some (.slice A n c) ∧ w'.cell? ⟨w.heap.size + 1, 0, none⟩ = some (.bool false) ∧ w'.cell? ⟨w.heap.size + 1, 1, none⟩ = some (.slice B m d)) (simp [go_sem])
      (first
       | (go_at_call 114; refine (imulMag_any _ _ _ (dig x.natAbs) _ _ _ (dig y.natAbs) _ (HX.out.q (by repeat' (first | exact Q.refl _ | refine Q.alloc ?_ _ | refine Q.jk ?_ _ | refine Q.drew ?_))) (HY.out.q (by repeat' (first | exact Q.refl _ | refine Q.alloc ?_ _ | refine Q.jk ?_ _ | refine Q.drew ?_))) (dig_Dg _) (dig_Dg _) (by omega) (by omega)).mono ?_; rintro e w' ⟨A1, n1, c1, k1, rfl, rfl, hr1, hf1⟩; have HR1 := Lib.hid hr1; have HF1 := Lib.hid hf1; have HL1 : n1 ≤ 12 := (by rw [← hr1.1, HD.out]; exact HL.out); clear hr1 hf1)
       | (go_at_call 113; refine (iresult_any _ _ _ _ _ _ HR1.out (dig_Dg _) (by omega) (by rw [HT.out]; exact HL.out)).mono ?_; rintro e w' ⟨A2, n2, k2, rfl, rfl, hr2, hf2⟩; have HR2 := Lib.hid hr2; have HF2 := Lib.hid (hf2 _ HF1.out); clear hr2 hf2; rw [HS'.out]))
    rename_i hHeld
    clear hHeld
    go_wp2
    refine bodyPost_ret (v := .tuple #[.agg #[.bool (decide (x * y < 0)), .slice A2 n2 n2], .int .i64 0]) (by simp [results, Try.results100, go_sem]) rfl (RetI2.of (A := A2) (n := n2) (c := n2) rfl ?_ ?_ (HF2.out.q (by repeat' (first | exact Q.refl _ | refine Q.alloc ?_ _ | refine Q.jk ?_ _ | refine Q.drew ?_))))
    · repeat' (first | exact Q.refl _ | refine Q.alloc ?_ _ | refine Q.jk ?_ _ | refine Q.drew ?_)
    · have := HR2.out
      rw [HT.out] at this
      exact this.swap4 (by simp) (HF2.out.q (by repeat' (first | exact Q.refl _ | refine Q.alloc ?_ _ | refine Q.jk ?_ _ | refine Q.drew ?_)))
  · have HS' : Hid ((false && decide (trL (dig (dval (dig x.natAbs) * dval (dig y.natAbs)).toNat) ≠ [])) = decide (x * y < 0)) := Lib.hid HS.out
    clear HS
    go_enter Try.func100, Try.ntmps100
    go_wp2_with (go_at_call 112; first | ((with_reducible refine (ivalid_z _ _ _ _ x _ BX.out (HX.out.q (by repeat' (first | exact Q.refl _ | refine Q.alloc ?_ _ | refine Q.jk ?_ _ | refine Q.drew ?_))) hx).mono ?_); rintro e w' ⟨rfl, kj, rfl⟩) | ((with_reducible refine (ivalid_z _ _ _ _ y _ BY.out (HY.out.q (by repeat' (first | exact Q.refl _ | refine Q.alloc ?_ _ | refine Q.jk ?_ _ | refine Q.drew ?_))) hy).mono ?_); rintro e w' ⟨rfl, kj, rfl⟩))
    go_region_held3 (fun w' => w'.cell? ⟨w.heap.size, 0, none⟩ = some (.bool true) ∧ w'.cell? ⟨w.heap.size, 1, none⟩ = some (.slice A n c) ∧ w'.cell? ⟨w.heap.size + 1, 0, none⟩ = some (.bool true) ∧ w'.cell? ⟨w.heap.size + 1, 1, none⟩ = some (.slice B m d)) (simp [go_sem])
      (first
       | (go_at_call 114; refine (imulMag_any _ _ _ (dig x.natAbs) _ _ _ (dig y.natAbs) _ (HX.out.q (by repeat' (first | exact Q.refl _ | refine Q.alloc ?_ _ | refine Q.jk ?_ _ | refine Q.drew ?_))) (HY.out.q (by repeat' (first | exact Q.refl _ | refine Q.alloc ?_ _ | refine Q.jk ?_ _ | refine Q.drew ?_))) (dig_Dg _) (dig_Dg _) (by omega) (by omega)).mono ?_; rintro e w' ⟨A1, n1, c1, k1, rfl, rfl, hr1, hf1⟩; have HR1 := Lib.hid hr1; have HF1 := Lib.hid hf1; have HL1 : n1 ≤ 12 := (by rw [← hr1.1, HD.out]; exact HL.out); clear hr1 hf1)
       | (go_at_call 113; refine (iresult_any _ _ _ _ _ _ HR1.out (dig_Dg _) (by omega) (by rw [HT.out]; exact HL.out)).mono ?_; rintro e w' ⟨A2, n2, k2, rfl, rfl, hr2, hf2⟩; have HR2 := Lib.hid hr2; have HF2 := Lib.hid (hf2 _ HF1.out); clear hr2 hf2; rw [HS'.out]))
    rename_i hHeld
    clear hHeld
    go_wp2
    refine bodyPost_ret (v := .tuple #[.agg #[.bool (decide (x * y < 0)), .slice A2 n2 n2], .int .i64 0]) (by simp [results, Try.results100, go_sem]) rfl (RetI2.of (A := A2) (n := n2) (c := n2) rfl ?_ ?_ (HF2.out.q (by repeat' (first | exact Q.refl _ | refine Q.alloc ?_ _ | refine Q.jk ?_ _ | refine Q.drew ?_))))
    · repeat' (first | exact Q.refl _ | refine Q.alloc ?_ _ | refine Q.jk ?_ _ | refine Q.drew ?_)
    · have := HR2.out
      rw [HT.out] at this
      exact this.swap4 (by simp) (HF2.out.q (by repeat' (first | exact Q.refl _ | refine Q.alloc ?_ _ | refine Q.jk ?_ _ | refine Q.drew ?_)))
end Go.Proofs.Ytkkjifgcjfbcaaa
