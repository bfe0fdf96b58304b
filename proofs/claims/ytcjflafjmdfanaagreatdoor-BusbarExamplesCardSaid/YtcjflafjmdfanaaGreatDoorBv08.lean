
/- What sum and Sub of package integer, and far and wideSign of package surd return. -/
import Derived.Test.YtcjflafjmdfanaaGreatDoorBv06
import Derived.Test.YtcjflafjmdfanaaGreatDoorBv07
import Derived.Test.YtcjflafjmdfanaaGreatDoorBv03
set_option maxHeartbeats 64000000
set_option maxRecDepth 100000
set_option linter.unusedSimpArgs false
set_option linter.unusedVariables false
/- What Neg, Add and Sub of package substationref01, and combined and Versus of substationref02 return. -/
namespace Go
theorem World.alloc_jk (W : World) (k : Jk) (o : Obj) : (W.jk k).alloc o = W.jk ⟨k.os.push o, k.n⟩ := by
 unfold World.jk World.alloc
 congr 1
 simp
theorem Rd.swap5 {W W' : World} {k k2 k3 k4 k5 : Jk} {A : Option Addr} {n c : Nat} {l : List Int} (hs : W.heap.size = W'.heap.size) (h : Rd (((((W.jk k).jk k2).jk k3).jk k4).jk k5) A n c l) (hf : Fr W A) : Rd (((((W'.jk k).jk k2).jk k3).jk k4).jk k5) A n c l := by
 rw [World.jk_jk] at *
 exact h.swap4 hs hf
end Go
namespace Go.Sub
theorem neg_sgn {y : Int} (l : List Int) (hl : l = dig y.natAbs) : ((!(decide (y < 0))) && decide (l ≠ [])) = decide (-y < 0) := by
 have e : (l ≠ []) ↔ y ≠ 0 := by rw [hl, Ne, dig_nil]; omega
 rw [Bool.eq_iff_iff]
 simp only [Bool.and_eq_true, Bool.not_eq_true', decide_eq_false_iff_not, decide_eq_true_eq, e]
 omega
theorem ne_nil_iff {n : Nat} : dig n ≠ [] ↔ n ≠ 0 := by rw [Ne, dig_nil]
def versR (x : Su) (j : Int) (y : Su) (k : Int) : Int × Int := if wi4 1152921504606846976 x.a x.b y.a y.b && wi2 1073741824 j k then (versS x j y k, 0) else (0, 1)
end Go.Sub
namespace Go.Proofs.YtcjflafjmdfanaaGreatDoor
open Go.RowKit Go.Sub
theorem r1neg_z (b : Bool) (A : Option Addr) (n c : Nat) (y : Int) (w : World) (bx : b = decide (y < 0)) (rx : Rd w A n c (dig y.natAbs)) (hy : Sm y) :
  Calls Tryz.prog 168 #[.agg #[.bool b, .slice A n c]] w (RetZ2 (-y) w) := by
 have ln : n ≤ 12 := by rw [← rx.1]; exact hy.len
 have HV := hh (fun w' (hq : Q w w') => r1valid_z b A n c y w' bx (rx.q hq) hy)
 have HX := hh rx
 have HT : Hid (trL (dig y.natAbs) = dig (-y).natAbs) := hh (by rw [trL_dig, Int.natAbs_neg])
 have HS : Hid (((!b) && decide (trL (dig y.natAbs) ≠ [])) = decide (-y < 0)) := hh (by rw [bx]; exact neg_sgn _ (trL_dig _))
 clear rx bx hy
 go_enter Tryz.func168, Tryz.ntmps168
 go_wp2_with (first | (go_at_call 163; (with_reducible refine (HV.o _ Q.i).q ?_); intro kj) | (go_at_call 166; refine (r1made_any _ _ _ _ _ _ (HX.o.q Q.i) (dig_Dg _) (by omega)).mono ?_; rintro e w' ⟨A2, n2, c2, k2, rfl, rfl, hr2, hf2⟩; have HR2 := hh hr2; have HF2 := hh hf2; clear hr2 hf2; rw [HS.o]))
 refine bodyPost_ret (v := .tuple #[.agg #[.bool (decide (-y < 0)), .slice A2 n2 c2], .int .i64 0]) (by simp [results, Tryz.results168, go_sem]) rfl (RetI2.of (A := A2) (n := n2) (c := c2) rfl ?_ ?_ (HF2.o.q Q.i))
 ·exact Q.i
 have := HR2.o
 rw [HT.o] at this
 exact this.swap2 (by simp) (HF2.o.q Q.i)
theorem r1add_z (b : Bool) (A : Option Addr) (n c : Nat) (x : Int) (b' : Bool) (B : Option Addr) (m d : Nat) (y : Int) (w : World) (bx : b = decide (x < 0)) (rx : Rd w A n c (dig x.natAbs)) (hx : Sm x) (by' : b' = decide (y < 0)) (ry : Rd w B m d (dig y.natAbs)) (hy : Sm y) (hxy : Sm (x + y)) :
  Calls Tryz.prog 169 #[.agg #[.bool b, .slice A n c], .agg #[.bool b', .slice B m d]] w (RetZ2 (x + y) w) := by
 have ln : n ≤ 12 := by rw [← rx.1]; exact hx.len
 have lm : m ≤ 12 := by rw [← ry.1]; exact hy.len
 have HX := hh rx
 have HY := hh ry
 have HVX := hh (fun w' (hq : Q w w') => r1valid_z b A n c x w' bx (rx.q hq) hx)
 have HVY := hh (fun w' (hq : Q w w') => r1valid_z b' B m d y w' by' (ry.q hq) hy)
 have HL := hh hxy.len
 clear rx ry hx hy hxy
 cases b <;> cases b'
 ·have hx0 : 0 ≤ x := by simpa using bx
  have hy0 : 0 ≤ y := by simpa using by'
  clear bx by'
  go_enter Tryz.func169, Tryz.ntmps169
  go_wp2_with (go_at_call 163; first | ((with_reducible refine (HVX.o _ Q.i).q ?_); intro kj) | ((with_reducible refine (HVY.o _ Q.i).q ?_); intro kj))
  go_region_held3 (fun w' => w'.cell? ⟨w.heap.size, 0, none⟩ = some (.bool false) ∧ w'.cell? ⟨w.heap.size, 1, none⟩ = some (.slice A n c) ∧ w'.cell? ⟨w.heap.size + 1, 0, none⟩ = some (.bool false) ∧ w'.cell? ⟨w.heap.size + 1, 1, none⟩ = some (.slice B m d)) (simp [go_sem])
   (first | (go_at_call 181; refine (r1plus_any _ _ _ (dig x.natAbs) _ _ _ (dig y.natAbs) _ (HX.o.q Q.i) (HY.o.q Q.i) (dig_Dg _) (dig_Dg _) (by omega) (by omega)).mono ?_; rintro e w' ⟨l1, A1, n1, c1, k1, rfl, rfl, hr1, hf1, hd1, hv1, hn1⟩; have HR1 := hh hr1; have HF1 := hh hf1; have HD1 := hh hd1; have HT : Hid (trL l1 = dig (x + y).natAbs) := hh (by unfold trL; rw [hv1, dval_dg, dval_dg]; congr 1; omega); have HS : Hid ((false && decide (trL l1 ≠ [])) = decide (x + y < 0)) := hh (by rw [HT.o, Bool.eq_iff_iff]; simp only [Bool.false_and, Bool.false_eq_true, false_iff, decide_eq_true_eq]; omega); clear hr1 hf1 hd1 hv1) | (go_at_call 166; refine (r1made_any _ _ _ _ _ _ HR1.o HD1.o (by omega)).mono ?_; rintro e w' ⟨A2, n2, c2, k2, rfl, rfl, hr2, hf2⟩; have HR2 := hh hr2; have HF2 := hh hf2; have HL2 : n2 ≤ 12 := (by rw [← hr2.1, HT.o]; exact HL.o); clear hr2 hf2; rw [HS.o]) | (go_at_call 178; refine (r1result_any _ _ _ _ _ (by omega)).q ?_; intro kj))
  rename_i hHeld
  clear hHeld
  go_wp2
  refine bodyPost_ret (v := .tuple #[.agg #[.bool (decide (x + y < 0)), .slice A2 n2 c2], .int .i64 0]) (by simp [results, Tryz.results169, go_sem]) rfl (RetI2.of (A := A2) (n := n2) (c := c2) rfl ?_ ?_ (HF2.o.q Q.i))
  ·exact Q.i
  have := HR2.o
  rw [HT.o] at this
  exact (this.swap4 (by simp) (HF2.o.q Q.i)).q ((Q.refl _).jk _)
 ·have hx0 : 0 ≤ x := by simpa using bx
  have hy0 : y < 0 := by simpa using by'
  clear bx by'
  by_cases hcmp : y.natAbs ≤ x.natAbs
  ·obtain ⟨cv, ecv, hcv⟩ : ∃ cv, cmpI (dval (dig x.natAbs)) (dval (dig y.natAbs)) = cv ∧ 0 ≤ cv := ⟨_, rfl, by rw [dval_dg, dval_dg]; unfold cmpI; repeat' split <;> omega⟩
   have EC := hh ecv
   have ED : Hid (dval (dig y.natAbs) ≤ dval (dig x.natAbs)) := hh (by rw [dval_dg, dval_dg]; omega)
   have HE : Hid (dig (dval (dig x.natAbs) - dval (dig y.natAbs)).toNat = dig (x + y).natAbs) := hh (by rw [dval_dg, dval_dg]; congr 1; omega)
   have HL1' : Hid ((dig (dval (dig x.natAbs) - dval (dig y.natAbs)).toNat).length ≤ 12) := hh (by rw [HE.o]; exact HL.o)
   have HT : Hid (trL (dig (dval (dig x.natAbs) - dval (dig y.natAbs)).toNat) = dig (x + y).natAbs) := hh (by rw [trL_dig, HE.o])
   have HS : Hid ((false && decide (trL (dig (dval (dig x.natAbs) - dval (dig y.natAbs)).toNat) ≠ [])) = decide (x + y < 0)) := hh (by rw [HT.o, Bool.eq_iff_iff]; simp only [Bool.false_and, Bool.false_eq_true, false_iff, decide_eq_true_eq]; omega)
   clear ecv hcmp hx0 hy0
   go_enter Tryz.func169, Tryz.ntmps169
   go_wp2_with (first | (go_at_call 163; first | ((with_reducible refine (HVX.o _ Q.i).q ?_); intro kj) | ((with_reducible refine (HVY.o _ Q.i).q ?_); intro kj)) | (go_at_call 164; refine (r1compare_any _ _ _ (dig x.natAbs) _ _ _ (dig y.natAbs) _ (HX.o.q Q.i) (HY.o.q Q.i) (dig_Dg _) (dig_Dg _) (dig_Tr _) (dig_Tr _) (by omega) (by omega)).q ?_; intro kj; rw [EC.o]))
   go_region_held3 (fun w' => w'.cell? ⟨w.heap.size, 0, none⟩ = some (.bool false) ∧ w'.cell? ⟨w.heap.size, 1, none⟩ = some (.slice A n c) ∧ w'.cell? ⟨w.heap.size + 1, 0, none⟩ = some (.bool true) ∧ w'.cell? ⟨w.heap.size + 1, 1, none⟩ = some (.slice B m d)) (simp [go_sem])
    (first | (go_at_call 182; refine (r1minus_any _ _ _ (dig x.natAbs) _ _ _ (dig y.natAbs) _ (HX.o.q Q.i) (HY.o.q Q.i) (dig_Dg _) (dig_Dg _) (dig_Tr _) ED.o (by omega)).mono ?_; rintro e w' ⟨A1, n1, c1, k1, rfl, rfl, hr1, hf1⟩; have HR1 := hh hr1; have HF1 := hh hf1; have HL1 : n1 ≤ 12 := (by rw [← hr1.1]; exact HL1'.o); clear hr1 hf1) | (go_at_call 166; refine (r1made_any _ _ _ _ _ _ HR1.o (dig_Dg _) (by omega)).mono ?_; rintro e w' ⟨A2, n2, c2, k2, rfl, rfl, hr2, hf2⟩; have HR2 := hh hr2; have HF2 := hh hf2; have HL2 : n2 ≤ 12 := (by rw [← hr2.1, HT.o]; exact HL.o); clear hr2 hf2; rw [HS.o]) | (go_at_call 178; refine (r1result_any _ _ _ _ _ (by omega)).q ?_; intro kj))
   rename_i hHeld
   clear hHeld
   go_wp2
   refine bodyPost_ret (v := .tuple #[.agg #[.bool (decide (x + y < 0)), .slice A2 n2 c2], .int .i64 0]) (by simp [results, Tryz.results169, go_sem]) rfl (RetI2.of (A := A2) (n := n2) (c := c2) rfl ?_ ?_ (HF2.o.q Q.i))
   ·exact Q.i
   have := HR2.o
   rw [HT.o] at this
   exact (this.swap5 (by simp) (HF2.o.q Q.i)).q ((Q.refl _).jk _)
  obtain ⟨cv, ecv, hcv⟩ : ∃ cv, cmpI (dval (dig x.natAbs)) (dval (dig y.natAbs)) = cv ∧ cv < 0 := ⟨_, rfl, by rw [dval_dg, dval_dg]; unfold cmpI; repeat' split <;> omega⟩
  have EC := hh ecv
  have ED : Hid (dval (dig x.natAbs) ≤ dval (dig y.natAbs)) := hh (by rw [dval_dg, dval_dg]; omega)
  have HE : Hid (dig (dval (dig y.natAbs) - dval (dig x.natAbs)).toNat = dig (x + y).natAbs) := hh (by rw [dval_dg, dval_dg]; congr 1; omega)
  have HL1' : Hid ((dig (dval (dig y.natAbs) - dval (dig x.natAbs)).toNat).length ≤ 12) := hh (by rw [HE.o]; exact HL.o)
  have HT : Hid (trL (dig (dval (dig y.natAbs) - dval (dig x.natAbs)).toNat) = dig (x + y).natAbs) := hh (by rw [trL_dig, HE.o])
  have HS : Hid ((true && decide (trL (dig (dval (dig y.natAbs) - dval (dig x.natAbs)).toNat) ≠ [])) = decide (x + y < 0)) := hh (by rw [HT.o, Bool.eq_iff_iff]; simp only [Bool.true_and, decide_eq_true_eq, ne_nil_iff]; omega)
  clear ecv hcmp hx0 hy0
  go_enter Tryz.func169, Tryz.ntmps169
  go_wp2_with (first | (go_at_call 163; first | ((with_reducible refine (HVX.o _ Q.i).q ?_); intro kj) | ((with_reducible refine (HVY.o _ Q.i).q ?_); intro kj)) | (go_at_call 164; refine (r1compare_any _ _ _ (dig x.natAbs) _ _ _ (dig y.natAbs) _ (HX.o.q Q.i) (HY.o.q Q.i) (dig_Dg _) (dig_Dg _) (dig_Tr _) (dig_Tr _) (by omega) (by omega)).q ?_; intro kj; rw [EC.o]))
  go_region_held3 (fun w' => w'.cell? ⟨w.heap.size, 0, none⟩ = some (.bool false) ∧ w'.cell? ⟨w.heap.size, 1, none⟩ = some (.slice A n c) ∧ w'.cell? ⟨w.heap.size + 1, 0, none⟩ = some (.bool true) ∧ w'.cell? ⟨w.heap.size + 1, 1, none⟩ = some (.slice B m d)) (simp [go_sem])
   (first | (go_at_call 182; refine (r1minus_any _ _ _ (dig y.natAbs) _ _ _ (dig x.natAbs) _ (HY.o.q Q.i) (HX.o.q Q.i) (dig_Dg _) (dig_Dg _) (dig_Tr _) ED.o (by omega)).mono ?_; rintro e w' ⟨A1, n1, c1, k1, rfl, rfl, hr1, hf1⟩; have HR1 := hh hr1; have HF1 := hh hf1; have HL1 : n1 ≤ 12 := (by rw [← hr1.1]; exact HL1'.o); clear hr1 hf1) | (go_at_call 166; refine (r1made_any _ _ _ _ _ _ HR1.o (dig_Dg _) (by omega)).mono ?_; rintro e w' ⟨A2, n2, c2, k2, rfl, rfl, hr2, hf2⟩; have HR2 := hh hr2; have HF2 := hh hf2; have HL2 : n2 ≤ 12 := (by rw [← hr2.1, HT.o]; exact HL.o); clear hr2 hf2; rw [HS.o]) | (go_at_call 178; refine (r1result_any _ _ _ _ _ (by omega)).q ?_; intro kj))
  rename_i hHeld
  clear hHeld
  go_wp2
  refine bodyPost_ret (v := .tuple #[.agg #[.bool (decide (x + y < 0)), .slice A2 n2 c2], .int .i64 0]) (by simp [results, Tryz.results169, go_sem]) rfl (RetI2.of (A := A2) (n := n2) (c := c2) rfl ?_ ?_ (HF2.o.q Q.i))
  ·exact Q.i
  have := HR2.o
  rw [HT.o] at this
  exact (this.swap5 (by simp) (HF2.o.q Q.i)).q ((Q.refl _).jk _)
 ·have hx0 : x < 0 := by simpa using bx
  have hy0 : 0 ≤ y := by simpa using by'
  clear bx by'
  by_cases hcmp : y.natAbs ≤ x.natAbs
  ·obtain ⟨cv, ecv, hcv⟩ : ∃ cv, cmpI (dval (dig x.natAbs)) (dval (dig y.natAbs)) = cv ∧ 0 ≤ cv := ⟨_, rfl, by rw [dval_dg, dval_dg]; unfold cmpI; repeat' split <;> omega⟩
   have EC := hh ecv
   have ED : Hid (dval (dig y.natAbs) ≤ dval (dig x.natAbs)) := hh (by rw [dval_dg, dval_dg]; omega)
   have HE : Hid (dig (dval (dig x.natAbs) - dval (dig y.natAbs)).toNat = dig (x + y).natAbs) := hh (by rw [dval_dg, dval_dg]; congr 1; omega)
   have HL1' : Hid ((dig (dval (dig x.natAbs) - dval (dig y.natAbs)).toNat).length ≤ 12) := hh (by rw [HE.o]; exact HL.o)
   have HT : Hid (trL (dig (dval (dig x.natAbs) - dval (dig y.natAbs)).toNat) = dig (x + y).natAbs) := hh (by rw [trL_dig, HE.o])
   have HS : Hid ((true && decide (trL (dig (dval (dig x.natAbs) - dval (dig y.natAbs)).toNat) ≠ [])) = decide (x + y < 0)) := hh (by rw [HT.o, Bool.eq_iff_iff]; simp only [Bool.true_and, decide_eq_true_eq, ne_nil_iff]; omega)
   clear ecv hcmp hx0 hy0
   go_enter Tryz.func169, Tryz.ntmps169
   go_wp2_with (first | (go_at_call 163; first | ((with_reducible refine (HVX.o _ Q.i).q ?_); intro kj) | ((with_reducible refine (HVY.o _ Q.i).q ?_); intro kj)) | (go_at_call 164; refine (r1compare_any _ _ _ (dig x.natAbs) _ _ _ (dig y.natAbs) _ (HX.o.q Q.i) (HY.o.q Q.i) (dig_Dg _) (dig_Dg _) (dig_Tr _) (dig_Tr _) (by omega) (by omega)).q ?_; intro kj; rw [EC.o]))
   go_region_held3 (fun w' => w'.cell? ⟨w.heap.size, 0, none⟩ = some (.bool true) ∧ w'.cell? ⟨w.heap.size, 1, none⟩ = some (.slice A n c) ∧ w'.cell? ⟨w.heap.size + 1, 0, none⟩ = some (.bool false) ∧ w'.cell? ⟨w.heap.size + 1, 1, none⟩ = some (.slice B m d)) (simp [go_sem])
    (first | (go_at_call 182; refine (r1minus_any _ _ _ (dig x.natAbs) _ _ _ (dig y.natAbs) _ (HX.o.q Q.i) (HY.o.q Q.i) (dig_Dg _) (dig_Dg _) (dig_Tr _) ED.o (by omega)).mono ?_; rintro e w' ⟨A1, n1, c1, k1, rfl, rfl, hr1, hf1⟩; have HR1 := hh hr1; have HF1 := hh hf1; have HL1 : n1 ≤ 12 := (by rw [← hr1.1]; exact HL1'.o); clear hr1 hf1) | (go_at_call 166; refine (r1made_any _ _ _ _ _ _ HR1.o (dig_Dg _) (by omega)).mono ?_; rintro e w' ⟨A2, n2, c2, k2, rfl, rfl, hr2, hf2⟩; have HR2 := hh hr2; have HF2 := hh hf2; have HL2 : n2 ≤ 12 := (by rw [← hr2.1, HT.o]; exact HL.o); clear hr2 hf2; rw [HS.o]) | (go_at_call 178; refine (r1result_any _ _ _ _ _ (by omega)).q ?_; intro kj))
   rename_i hHeld
   clear hHeld
   go_wp2
   refine bodyPost_ret (v := .tuple #[.agg #[.bool (decide (x + y < 0)), .slice A2 n2 c2], .int .i64 0]) (by simp [results, Tryz.results169, go_sem]) rfl (RetI2.of (A := A2) (n := n2) (c := c2) rfl ?_ ?_ (HF2.o.q Q.i))
   ·exact Q.i
   have := HR2.o
   rw [HT.o] at this
   exact (this.swap5 (by simp) (HF2.o.q Q.i)).q ((Q.refl _).jk _)
  obtain ⟨cv, ecv, hcv⟩ : ∃ cv, cmpI (dval (dig x.natAbs)) (dval (dig y.natAbs)) = cv ∧ cv < 0 := ⟨_, rfl, by rw [dval_dg, dval_dg]; unfold cmpI; repeat' split <;> omega⟩
  have EC := hh ecv
  have ED : Hid (dval (dig x.natAbs) ≤ dval (dig y.natAbs)) := hh (by rw [dval_dg, dval_dg]; omega)
  have HE : Hid (dig (dval (dig y.natAbs) - dval (dig x.natAbs)).toNat = dig (x + y).natAbs) := hh (by rw [dval_dg, dval_dg]; congr 1; omega)
  have HL1' : Hid ((dig (dval (dig y.natAbs) - dval (dig x.natAbs)).toNat).length ≤ 12) := hh (by rw [HE.o]; exact HL.o)
  have HT : Hid (trL (dig (dval (dig y.natAbs) - dval (dig x.natAbs)).toNat) = dig (x + y).natAbs) := hh (by rw [trL_dig, HE.o])
  have HS : Hid ((false && decide (trL (dig (dval (dig y.natAbs) - dval (dig x.natAbs)).toNat) ≠ [])) = decide (x + y < 0)) := hh (by rw [HT.o, Bool.eq_iff_iff]; simp only [Bool.false_and, Bool.false_eq_true, false_iff, decide_eq_true_eq]; omega)
  clear ecv hcmp hx0 hy0
  go_enter Tryz.func169, Tryz.ntmps169
  go_wp2_with (first | (go_at_call 163; first | ((with_reducible refine (HVX.o _ Q.i).q ?_); intro kj) | ((with_reducible refine (HVY.o _ Q.i).q ?_); intro kj)) | (go_at_call 164; refine (r1compare_any _ _ _ (dig x.natAbs) _ _ _ (dig y.natAbs) _ (HX.o.q Q.i) (HY.o.q Q.i) (dig_Dg _) (dig_Dg _) (dig_Tr _) (dig_Tr _) (by omega) (by omega)).q ?_; intro kj; rw [EC.o]))
  go_region_held3 (fun w' => w'.cell? ⟨w.heap.size, 0, none⟩ = some (.bool true) ∧ w'.cell? ⟨w.heap.size, 1, none⟩ = some (.slice A n c) ∧ w'.cell? ⟨w.heap.size + 1, 0, none⟩ = some (.bool false) ∧ w'.cell? ⟨w.heap.size + 1, 1, none⟩ = some (.slice B m d)) (simp [go_sem])
   (first | (go_at_call 182; refine (r1minus_any _ _ _ (dig y.natAbs) _ _ _ (dig x.natAbs) _ (HY.o.q Q.i) (HX.o.q Q.i) (dig_Dg _) (dig_Dg _) (dig_Tr _) ED.o (by omega)).mono ?_; rintro e w' ⟨A1, n1, c1, k1, rfl, rfl, hr1, hf1⟩; have HR1 := hh hr1; have HF1 := hh hf1; have HL1 : n1 ≤ 12 := (by rw [← hr1.1]; exact HL1'.o); clear hr1 hf1) | (go_at_call 166; refine (r1made_any _ _ _ _ _ _ HR1.o (dig_Dg _) (by omega)).mono ?_; rintro e w' ⟨A2, n2, c2, k2, rfl, rfl, hr2, hf2⟩; have HR2 := hh hr2; have HF2 := hh hf2; have HL2 : n2 ≤ 12 := (by rw [← hr2.1, HT.o]; exact HL.o); clear hr2 hf2; rw [HS.o]) | (go_at_call 178; refine (r1result_any _ _ _ _ _ (by omega)).q ?_; intro kj))
  rename_i hHeld
  clear hHeld
  go_wp2
  refine bodyPost_ret (v := .tuple #[.agg #[.bool (decide (x + y < 0)), .slice A2 n2 c2], .int .i64 0]) (by simp [results, Tryz.results169, go_sem]) rfl (RetI2.of (A := A2) (n := n2) (c := c2) rfl ?_ ?_ (HF2.o.q Q.i))
  ·exact Q.i
  have := HR2.o
  rw [HT.o] at this
  exact (this.swap5 (by simp) (HF2.o.q Q.i)).q ((Q.refl _).jk _)
 have hx0 : x < 0 := by simpa using bx
 have hy0 : y < 0 := by simpa using by'
 clear bx by'
 go_enter Tryz.func169, Tryz.ntmps169
 go_wp2_with (go_at_call 163; first | ((with_reducible refine (HVX.o _ Q.i).q ?_); intro kj) | ((with_reducible refine (HVY.o _ Q.i).q ?_); intro kj))
 go_region_held3 (fun w' => w'.cell? ⟨w.heap.size, 0, none⟩ = some (.bool true) ∧ w'.cell? ⟨w.heap.size, 1, none⟩ = some (.slice A n c) ∧ w'.cell? ⟨w.heap.size + 1, 0, none⟩ = some (.bool true) ∧ w'.cell? ⟨w.heap.size + 1, 1, none⟩ = some (.slice B m d)) (simp [go_sem])
  (first | (go_at_call 181; refine (r1plus_any _ _ _ (dig x.natAbs) _ _ _ (dig y.natAbs) _ (HX.o.q Q.i) (HY.o.q Q.i) (dig_Dg _) (dig_Dg _) (by omega) (by omega)).mono ?_; rintro e w' ⟨l1, A1, n1, c1, k1, rfl, rfl, hr1, hf1, hd1, hv1, hn1⟩; have HR1 := hh hr1; have HF1 := hh hf1; have HD1 := hh hd1; have HT : Hid (trL l1 = dig (x + y).natAbs) := hh (by unfold trL; rw [hv1, dval_dg, dval_dg]; congr 1; omega); have HS : Hid ((true && decide (trL l1 ≠ [])) = decide (x + y < 0)) := hh (by rw [HT.o, Bool.eq_iff_iff]; simp only [Bool.true_and, decide_eq_true_eq, ne_nil_iff]; omega); clear hr1 hf1 hd1 hv1) | (go_at_call 166; refine (r1made_any _ _ _ _ _ _ HR1.o HD1.o (by omega)).mono ?_; rintro e w' ⟨A2, n2, c2, k2, rfl, rfl, hr2, hf2⟩; have HR2 := hh hr2; have HF2 := hh hf2; have HL2 : n2 ≤ 12 := (by rw [← hr2.1, HT.o]; exact HL.o); clear hr2 hf2; rw [HS.o]) | (go_at_call 178; refine (r1result_any _ _ _ _ _ (by omega)).q ?_; intro kj))
 rename_i hHeld
 clear hHeld
 go_wp2
 refine bodyPost_ret (v := .tuple #[.agg #[.bool (decide (x + y < 0)), .slice A2 n2 c2], .int .i64 0]) (by simp [results, Tryz.results169, go_sem]) rfl (RetI2.of (A := A2) (n := n2) (c := c2) rfl ?_ ?_ (HF2.o.q Q.i))
 ·exact Q.i
 have := HR2.o
 rw [HT.o] at this
 exact (this.swap4 (by simp) (HF2.o.q Q.i)).q ((Q.refl _).jk _)
theorem r1sub_z (b : Bool) (A : Option Addr) (n c : Nat) (x : Int) (b' : Bool) (B : Option Addr) (m d : Nat) (y : Int) (w : World) (bx : b = decide (x < 0)) (rx : Rd w A n c (dig x.natAbs)) (hx : Sm x) (by' : b' = decide (y < 0)) (ry : Rd w B m d (dig y.natAbs)) (hy : Sm y) (hxy : Sm (x - y)) :
  Calls Tryz.prog 146 #[.agg #[.bool b, .slice A n c], .agg #[.bool b', .slice B m d]] w (RetZ2 (x - y) w) := by
 have HX := hh rx
 have BX := hh bx
 have HVX := hh (fun w' (hq : Q w w') => r1valid_z b A n c x w' bx (rx.q hq) hx)
 have HNY := hh (fun w' (hq : Q w w') => r1neg_z b' B m d y w' by' (ry.q hq) hy)
 have SX := hh hx
 have SY : Hid (Sm (-y)) := hh (by unfold Sm at *; rw [Int.natAbs_neg]; exact hy)
 have SXY : Hid (Sm (x + -y)) := hh (by rw [← Int.sub_eq_add_neg]; exact hxy)
 rw [show RetZ2 (x - y) w = RetZ2 (x + -y) w by rw [Int.sub_eq_add_neg]]
 clear rx ry hx hy hxy bx by'
 go_enter Tryz.func146, Tryz.ntmps146
 go_wp2_with (first | (go_at_call 163; ((with_reducible refine (HVX.o _ Q.i).q ?_); intro kj)) | (go_at_call 168; (with_reducible refine (HNY.o _ Q.i).mono ?_); rintro e w' ⟨A1, n1, c1, k1, rfl, rfl, hr1, hf1⟩; have HR1 := hh hr1; clear hr1 hf1; obtain ⟨nb1, hnb1⟩ : ∃ nb, decide (-y < 0) = nb := ⟨_, rfl⟩; rw [hnb1]; have HB1 := hh hnb1; clear hnb1) | (go_at_call 169; refine (r1add_z _ _ _ _ x _ _ _ _ (-y) _ BX.o (HX.o.q Q.i) SX.o HB1.o.symm (HR1.o.q Q.i) SY.o SXY.o).mono ?_; rintro e w' ⟨A2, n2, c2, k2, rfl, rfl, hr2, hf2⟩; have HR2 := hh hr2; have HF2 := hh hf2; clear hr2 hf2; obtain ⟨nb2, hnb2⟩ : ∃ nb, decide (x + -y < 0) = nb := ⟨_, rfl⟩; rw [hnb2]; have HB2 := hh hnb2; clear hnb2))
 refine bodyPost_ret (v := .tuple #[.agg #[.bool nb2, .slice A2 n2 c2], .int .i64 0]) (by simp [results, Tryz.results146, go_sem]) rfl (RetI2.of (A := A2) (n := n2) (c := c2) (by rw [HB2.o]) ?_ ?_ (HF2.o.q Q.i))
 ·exact Q.i
 have := HR2.o
 simp only [World.alloc_jk, World.jk_jk] at this ⊢
 exact this.swap (by simp) (HF2.o.q Q.i)
theorem r2comb_z (x j y k : Int) (w : World) (hx0 : -1152921504606846976 ≤ x) (hx1 : x ≤ 1152921504606846976) (hj0 : -1152921504606846976 ≤ j) (hj1 : j ≤ 1152921504606846976) (hy0 : -1152921504606846976 ≤ y) (hy1 : y ≤ 1152921504606846976) (hk0 : -1152921504606846976 ≤ k) (hk1 : k ≤ 1152921504606846976) :
  Calls Tryz.prog 119 #[.int .i64 x, .int .i64 j, .int .i64 y, .int .i64 k] w (RetZ (x * j - y * k) w) := by
 have b1 := bd_mul hx0 hx1 hj0 hj1
 have b2 := bd_mul hy0 hy1 hk0 hk1
 have ox := hh (fun w => r1of_any x w (by omega) (by omega))
 have oj := hh (fun w => r1of_any j w (by omega) (by omega))
 have oy := hh (fun w => r1of_any y w (by omega) (by omega))
 have ok := hh (fun w => r1of_any k w (by omega) (by omega))
 have sx := hh (Sm.b100 (x := x) (by omega) (by omega))
 have sj := hh (Sm.b100 (x := j) (by omega) (by omega))
 have sy := hh (Sm.b100 (x := y) (by omega) (by omega))
 have sk := hh (Sm.b100 (x := k) (by omega) (by omega))
 have sxj := hh (Sm.sq (x := x) (y := j) (by omega) (by omega) (by omega) (by omega))
 have syk := hh (Sm.sq (x := y) (y := k) (by omega) (by omega) (by omega) (by omega))
 have sd : Hid (Sm (x * j - y * k)) := hh (Sm.of (by omega) (by omega))
 clear b1 b2 hx0 hx1 hj0 hj1 hy0 hy1 hk0 hk1
 go_enter Tryz.func119, Tryz.ntmps119
 go_wp2_with (first | (go_at_call 145; first | ((with_reducible refine (ox.o _).mono ?_); rintro e w' ⟨A1, n1, c1, k1, rfl, rfl, hr1, hf1⟩; have HR1 := hh hr1; clear hr1 hf1; obtain ⟨nb1, hnb1⟩ : ∃ nb, decide (x < 0) = nb := ⟨_, rfl⟩; rw [hnb1]; have HB1 := hh hnb1; clear hnb1) | ((with_reducible refine (oj.o _).mono ?_); rintro e w' ⟨A2, n2, c2, k2, rfl, rfl, hr2, hf2⟩; have HR2 := hh hr2; clear hr2 hf2; obtain ⟨nb2, hnb2⟩ : ∃ nb, decide (j < 0) = nb := ⟨_, rfl⟩; rw [hnb2]; have HB2 := hh hnb2; clear hnb2) | ((with_reducible refine (oy.o _).mono ?_); rintro e w' ⟨A4, n4, c4, k4, rfl, rfl, hr4, hf4⟩; have HR4 := hh hr4; clear hr4 hf4; obtain ⟨nb4, hnb4⟩ : ∃ nb, decide (y < 0) = nb := ⟨_, rfl⟩; rw [hnb4]; have HB4 := hh hnb4; clear hnb4) | ((with_reducible refine (ok.o _).mono ?_); rintro e w' ⟨A5, n5, c5, k5, rfl, rfl, hr5, hf5⟩; have HR5 := hh hr5; clear hr5 hf5; obtain ⟨nb5, hnb5⟩ : ∃ nb, decide (k < 0) = nb := ⟨_, rfl⟩; rw [hnb5]; have HB5 := hh hnb5; clear hnb5)) | (go_at_call 144; first | ((with_reducible refine (r2prod_z _ _ _ _ x _ _ _ _ j _ HB1.o.symm (HR1.o.q Q.i) sx.o HB2.o.symm (HR2.o.q Q.i) sj.o sxj.o).mono ?_); rintro e w' ⟨A3, n3, c3, k3, rfl, rfl, hr3, hf3⟩; have HR3 := hh hr3; clear hr3 hf3; obtain ⟨nb3, hnb3⟩ : ∃ nb, decide (x * j < 0) = nb := ⟨_, rfl⟩; rw [hnb3]; have HB3 := hh hnb3; clear hnb3) | ((with_reducible refine (r2prod_z _ _ _ _ y _ _ _ _ k _ HB4.o.symm (HR4.o.q Q.i) sy.o HB5.o.symm (HR5.o.q Q.i) sk.o syk.o).mono ?_); rintro e w' ⟨A6, n6, c6, k6, rfl, rfl, hr6, hf6⟩; have HR6 := hh hr6; clear hr6 hf6; obtain ⟨nb6, hnb6⟩ : ∃ nb, decide (y * k < 0) = nb := ⟨_, rfl⟩; rw [hnb6]; have HB6 := hh hnb6; clear hnb6)) | (go_at_call 146; refine (r1sub_z _ _ _ _ (x * j) _ _ _ _ (y * k) _ HB3.o.symm (HR3.o.q Q.i) sxj.o HB6.o.symm (HR6.o.q Q.i) syk.o sd.o).mono ?_; rintro e w' ⟨A7, n7, c7, k7, rfl, rfl, hr7, hf7⟩; have HR7 := hh hr7; have HF7 := hh hf7; clear hr7 hf7; obtain ⟨nb7, hnb7⟩ : ∃ nb, decide (x * j - y * k < 0) = nb := ⟨_, rfl⟩; rw [hnb7]; have HB7 := hh hnb7; clear hnb7))
 refine bodyPost_ret (v := .agg #[.bool nb7, .slice A7 n7 c7]) (by simp [results, Tryz.results119, go_sem]) rfl (RetI.of (A := A7) (n := n7) (c := c7) (by rw [HB7.o]) ?_ ?_ (HF7.o.q Q.i))
 ·exact Q.i
 have := HR7.o.q ((Q.refl _).alloc (.cells #[.bool nb7, .slice A7 n7 c7] 196))
 simp only [World.alloc_jk, World.jk_jk] at this ⊢
 exact this.swap (by simp) (HF7.o.q Q.i)
end Go.Proofs.YtcjflafjmdfanaaGreatDoor
namespace Go.Sub
def sv (b : Bool) (X : Nat) : Int := if b then -(X : Int) else X
end Go.Sub
namespace Go.Proofs.YtcjflafjmdfanaaGreatDoor
open Go.RowKit Go.Sub
theorem isum_z (b : Bool) (A : Option Addr) (n c : Nat) (X : Nat) (b' : Bool) (B : Option Addr) (m d : Nat) (Y : Nat) (w : World) (rx : Rd w A n c (dig X)) (ry : Rd w B m d (dig Y)) (ln : n ≤ 12) (lm : m ≤ 12) (hz : Sm (sv b X + sv b' Y)) :
  Calls Tryz.prog 176 #[.agg #[.bool b, .slice A n c], .agg #[.bool b', .slice B m d]] w (RetZ2 (sv b X + sv b' Y) w) := by
 have HX := hh rx
 have HY := hh ry
 have HL := hh hz.len
 clear rx ry hz
 cases b <;> cases b'
 ·obtain ⟨zz, ezz, hzz⟩ : ∃ zz, zz = sv false X + sv false Y ∧ zz = (X : Int) + Y := ⟨_, rfl, by simp [sv]; try omega⟩
  rw [← ezz] at HL ⊢
  clear ezz
  obtain ⟨nbz, hnbz⟩ : ∃ nb, decide (zz < 0) = nb := ⟨_, rfl⟩
  have HB := hh hnbz
  have HE : Hid (dig (dval (dig X) + dval (dig Y)).toNat = dig zz.natAbs) := hh (by rw [dval_dig, dval_dig]; congr 1; omega)
  have HL1' : Hid ((dig (dval (dig X) + dval (dig Y)).toNat).length ≤ 12) := hh (by rw [HE.o]; exact HL.o)
  have HT : Hid (trL (dig (dval (dig X) + dval (dig Y)).toNat) = dig zz.natAbs) := hh (by rw [trL_dig, HE.o])
  have HS : Hid ((false && decide (trL (dig (dval (dig X) + dval (dig Y)).toNat) ≠ [])) = nbz) := hh (by rw [← hnbz, HT.o, Bool.eq_iff_iff]; simp only [Bool.false_and, Bool.false_eq_true, false_iff, decide_eq_true_eq]; omega)
  clear hnbz hzz
  go_enter Tryz.func176, Tryz.ntmps176
  go_wp2
  go_region_held3 (fun w' => w'.cell? ⟨w.heap.size, 0, none⟩ = some (.bool false) ∧ w'.cell? ⟨w.heap.size, 1, none⟩ = some (.slice A n c) ∧ w'.cell? ⟨w.heap.size + 1, 0, none⟩ = some (.bool false) ∧ w'.cell? ⟨w.heap.size + 1, 1, none⟩ = some (.slice B m d)) (simp [go_sem])
   (first | (go_at_call 183; refine (iaddMag_any _ _ _ (dig X) _ _ _ (dig Y) _ (HX.o.q Q.i) (HY.o.q Q.i) (dig_Dg _) (dig_Dg _) (by omega) (by omega)).mono ?_; rintro e w' ⟨A1, n1, c1, k1, rfl, rfl, hr1, hf1⟩; have HR1 := hh hr1; have HF1 := hh hf1; have HL1 : n1 ≤ 12 := (by rw [← hr1.1]; exact HL1'.o); clear hr1 hf1) | (go_at_call 172; refine (iresult_any _ _ _ _ _ _ HR1.o (dig_Dg _) (by omega) (by rw [HT.o]; exact HL.o)).mono ?_; rintro e w' ⟨A2, n2, k2, rfl, rfl, hr2, hf2⟩; have HR2 := hh hr2; have HF2 := hh (hf2 _ HF1.o); clear hr2 hf2; rw [HS.o]))
  rename_i hHeld
  clear hHeld
  go_wp2
  refine bodyPost_ret (v := .tuple #[.agg #[.bool nbz, .slice A2 n2 n2], .int .i64 0]) (by simp [results, Tryz.results176, go_sem]) rfl (RetI2.of (A := A2) (n := n2) (c := n2) (by rw [HB.o]) ?_ ?_ (HF2.o.q Q.i))
  ·exact Q.i
  have := HR2.o
  rw [HT.o] at this
  simp only [World.jk_jk] at this ⊢
  exact this.swap (by simp) (HF2.o.q Q.i)
 ·by_cases hcmp : Y ≤ X
  ·obtain ⟨zz, ezz, hzz⟩ : ∃ zz, zz = sv false X + sv true Y ∧ zz = (X : Int) - Y := ⟨_, rfl, by simp [sv]; try omega⟩
   rw [← ezz] at HL ⊢
   clear ezz
   obtain ⟨nbz, hnbz⟩ : ∃ nb, decide (zz < 0) = nb := ⟨_, rfl⟩
   have HB := hh hnbz
   have HE : Hid (dig (dval (dig X) - dval (dig Y)).toNat = dig zz.natAbs) := hh (by rw [dval_dig, dval_dig]; congr 1; omega)
   have HL1' : Hid ((dig (dval (dig X) - dval (dig Y)).toNat).length ≤ 12) := hh (by rw [HE.o]; exact HL.o)
   have HT : Hid (trL (dig (dval (dig X) - dval (dig Y)).toNat) = dig zz.natAbs) := hh (by rw [trL_dig, HE.o])
   have HS : Hid ((false && decide (trL (dig (dval (dig X) - dval (dig Y)).toNat) ≠ [])) = nbz) := hh (by rw [← hnbz, HT.o, Bool.eq_iff_iff]; simp only [Bool.false_and, Bool.false_eq_true, false_iff, decide_eq_true_eq]; omega)
   obtain ⟨cv, ecv, hcv⟩ : ∃ cv, cmpI (dval (dig X)) (dval (dig Y)) = cv ∧ 0 ≤ cv := ⟨_, rfl, by rw [dval_dig, dval_dig]; unfold cmpI; repeat' split <;> omega⟩
   have EC := hh ecv
   have ED : Hid (dval (dig Y) ≤ dval (dig X)) := hh (by rw [dval_dig, dval_dig]; omega)
   clear ecv hcmp hnbz hzz
   go_enter Tryz.func176, Tryz.ntmps176
   go_wp2_with (go_at_call 175; refine (icmpMag_any _ _ _ (dig X) _ _ _ (dig Y) _ (HX.o.q Q.i) (HY.o.q Q.i) (dig_Dg _) (dig_Dg _) (dig_Tr _) (dig_Tr _) (by omega) (by omega)).q ?_; intro kj; rw [EC.o])
   go_region_held3 (fun w' => w'.cell? ⟨w.heap.size, 0, none⟩ = some (.bool false) ∧ w'.cell? ⟨w.heap.size, 1, none⟩ = some (.slice A n c) ∧ w'.cell? ⟨w.heap.size + 1, 0, none⟩ = some (.bool true) ∧ w'.cell? ⟨w.heap.size + 1, 1, none⟩ = some (.slice B m d)) (simp [go_sem])
    (first | (go_at_call 184; refine (isubMag_any _ _ _ (dig X) _ _ _ (dig Y) _ (HX.o.q Q.i) (HY.o.q Q.i) (dig_Dg _) (dig_Dg _) (dig_Tr _) ED.o (by omega)).mono ?_; rintro e w' ⟨A1, n1, c1, k1, rfl, rfl, hr1, hf1⟩; have HR1 := hh hr1; have HF1 := hh hf1; have HL1 : n1 ≤ 12 := (by rw [← hr1.1]; exact HL1'.o); clear hr1 hf1) | (go_at_call 172; refine (iresult_any _ _ _ _ _ _ HR1.o (dig_Dg _) (by omega) (by rw [HT.o]; exact HL.o)).mono ?_; rintro e w' ⟨A2, n2, k2, rfl, rfl, hr2, hf2⟩; have HR2 := hh hr2; have HF2 := hh (hf2 _ HF1.o); clear hr2 hf2; rw [HS.o]))
   rename_i hHeld
   clear hHeld
   go_wp2
   refine bodyPost_ret (v := .tuple #[.agg #[.bool nbz, .slice A2 n2 n2], .int .i64 0]) (by simp [results, Tryz.results176, go_sem]) rfl (RetI2.of (A := A2) (n := n2) (c := n2) (by rw [HB.o]) ?_ ?_ (HF2.o.q Q.i))
   ·exact Q.i
   have := HR2.o
   rw [HT.o] at this
   simp only [World.jk_jk] at this ⊢
   exact this.swap (by simp) (HF2.o.q Q.i)
  obtain ⟨zz, ezz, hzz⟩ : ∃ zz, zz = sv false X + sv true Y ∧ zz = (X : Int) - Y := ⟨_, rfl, by simp [sv]; try omega⟩
  rw [← ezz] at HL ⊢
  clear ezz
  obtain ⟨nbz, hnbz⟩ : ∃ nb, decide (zz < 0) = nb := ⟨_, rfl⟩
  have HB := hh hnbz
  have HE : Hid (dig (dval (dig Y) - dval (dig X)).toNat = dig zz.natAbs) := hh (by rw [dval_dig, dval_dig]; congr 1; omega)
  have HL1' : Hid ((dig (dval (dig Y) - dval (dig X)).toNat).length ≤ 12) := hh (by rw [HE.o]; exact HL.o)
  have HT : Hid (trL (dig (dval (dig Y) - dval (dig X)).toNat) = dig zz.natAbs) := hh (by rw [trL_dig, HE.o])
  have HS : Hid ((true && decide (trL (dig (dval (dig Y) - dval (dig X)).toNat) ≠ [])) = nbz) := hh (by rw [← hnbz, HT.o, Bool.eq_iff_iff]; simp only [Bool.true_and, decide_eq_true_eq, ne_nil_iff]; omega)
  obtain ⟨cv, ecv, hcv⟩ : ∃ cv, cmpI (dval (dig X)) (dval (dig Y)) = cv ∧ cv < 0 := ⟨_, rfl, by rw [dval_dig, dval_dig]; unfold cmpI; repeat' split <;> omega⟩
  have EC := hh ecv
  have ED : Hid (dval (dig X) ≤ dval (dig Y)) := hh (by rw [dval_dig, dval_dig]; omega)
  clear ecv hcmp hnbz hzz
  go_enter Tryz.func176, Tryz.ntmps176
  go_wp2_with (go_at_call 175; refine (icmpMag_any _ _ _ (dig X) _ _ _ (dig Y) _ (HX.o.q Q.i) (HY.o.q Q.i) (dig_Dg _) (dig_Dg _) (dig_Tr _) (dig_Tr _) (by omega) (by omega)).q ?_; intro kj; rw [EC.o])
  go_region_held3 (fun w' => w'.cell? ⟨w.heap.size, 0, none⟩ = some (.bool false) ∧ w'.cell? ⟨w.heap.size, 1, none⟩ = some (.slice A n c) ∧ w'.cell? ⟨w.heap.size + 1, 0, none⟩ = some (.bool true) ∧ w'.cell? ⟨w.heap.size + 1, 1, none⟩ = some (.slice B m d)) (simp [go_sem])
   (first | (go_at_call 184; refine (isubMag_any _ _ _ (dig Y) _ _ _ (dig X) _ (HY.o.q Q.i) (HX.o.q Q.i) (dig_Dg _) (dig_Dg _) (dig_Tr _) ED.o (by omega)).mono ?_; rintro e w' ⟨A1, n1, c1, k1, rfl, rfl, hr1, hf1⟩; have HR1 := hh hr1; have HF1 := hh hf1; have HL1 : n1 ≤ 12 := (by rw [← hr1.1]; exact HL1'.o); clear hr1 hf1) | (go_at_call 172; refine (iresult_any _ _ _ _ _ _ HR1.o (dig_Dg _) (by omega) (by rw [HT.o]; exact HL.o)).mono ?_; rintro e w' ⟨A2, n2, k2, rfl, rfl, hr2, hf2⟩; have HR2 := hh hr2; have HF2 := hh (hf2 _ HF1.o); clear hr2 hf2; rw [HS.o]))
  rename_i hHeld
  clear hHeld
  go_wp2
  refine bodyPost_ret (v := .tuple #[.agg #[.bool nbz, .slice A2 n2 n2], .int .i64 0]) (by simp [results, Tryz.results176, go_sem]) rfl (RetI2.of (A := A2) (n := n2) (c := n2) (by rw [HB.o]) ?_ ?_ (HF2.o.q Q.i))
  ·exact Q.i
  have := HR2.o
  rw [HT.o] at this
  simp only [World.jk_jk] at this ⊢
  exact this.swap (by simp) (HF2.o.q Q.i)
 ·by_cases hcmp : Y ≤ X
  ·obtain ⟨zz, ezz, hzz⟩ : ∃ zz, zz = sv true X + sv false Y ∧ zz = (Y : Int) - X := ⟨_, rfl, by simp [sv]; try omega⟩
   rw [← ezz] at HL ⊢
   clear ezz
   obtain ⟨nbz, hnbz⟩ : ∃ nb, decide (zz < 0) = nb := ⟨_, rfl⟩
   have HB := hh hnbz
   have HE : Hid (dig (dval (dig X) - dval (dig Y)).toNat = dig zz.natAbs) := hh (by rw [dval_dig, dval_dig]; congr 1; omega)
   have HL1' : Hid ((dig (dval (dig X) - dval (dig Y)).toNat).length ≤ 12) := hh (by rw [HE.o]; exact HL.o)
   have HT : Hid (trL (dig (dval (dig X) - dval (dig Y)).toNat) = dig zz.natAbs) := hh (by rw [trL_dig, HE.o])
   have HS : Hid ((true && decide (trL (dig (dval (dig X) - dval (dig Y)).toNat) ≠ [])) = nbz) := hh (by rw [← hnbz, HT.o, Bool.eq_iff_iff]; simp only [Bool.true_and, decide_eq_true_eq, ne_nil_iff]; omega)
   obtain ⟨cv, ecv, hcv⟩ : ∃ cv, cmpI (dval (dig X)) (dval (dig Y)) = cv ∧ 0 ≤ cv := ⟨_, rfl, by rw [dval_dig, dval_dig]; unfold cmpI; repeat' split <;> omega⟩
   have EC := hh ecv
   have ED : Hid (dval (dig Y) ≤ dval (dig X)) := hh (by rw [dval_dig, dval_dig]; omega)
   clear ecv hcmp hnbz hzz
   go_enter Tryz.func176, Tryz.ntmps176
   go_wp2_with (go_at_call 175; refine (icmpMag_any _ _ _ (dig X) _ _ _ (dig Y) _ (HX.o.q Q.i) (HY.o.q Q.i) (dig_Dg _) (dig_Dg _) (dig_Tr _) (dig_Tr _) (by omega) (by omega)).q ?_; intro kj; rw [EC.o])
   go_region_held3 (fun w' => w'.cell? ⟨w.heap.size, 0, none⟩ = some (.bool true) ∧ w'.cell? ⟨w.heap.size, 1, none⟩ = some (.slice A n c) ∧ w'.cell? ⟨w.heap.size + 1, 0, none⟩ = some (.bool false) ∧ w'.cell? ⟨w.heap.size + 1, 1, none⟩ = some (.slice B m d)) (simp [go_sem])
    (first | (go_at_call 184; refine (isubMag_any _ _ _ (dig X) _ _ _ (dig Y) _ (HX.o.q Q.i) (HY.o.q Q.i) (dig_Dg _) (dig_Dg _) (dig_Tr _) ED.o (by omega)).mono ?_; rintro e w' ⟨A1, n1, c1, k1, rfl, rfl, hr1, hf1⟩; have HR1 := hh hr1; have HF1 := hh hf1; have HL1 : n1 ≤ 12 := (by rw [← hr1.1]; exact HL1'.o); clear hr1 hf1) | (go_at_call 172; refine (iresult_any _ _ _ _ _ _ HR1.o (dig_Dg _) (by omega) (by rw [HT.o]; exact HL.o)).mono ?_; rintro e w' ⟨A2, n2, k2, rfl, rfl, hr2, hf2⟩; have HR2 := hh hr2; have HF2 := hh (hf2 _ HF1.o); clear hr2 hf2; rw [HS.o]))
   rename_i hHeld
   clear hHeld
   go_wp2
   refine bodyPost_ret (v := .tuple #[.agg #[.bool nbz, .slice A2 n2 n2], .int .i64 0]) (by simp [results, Tryz.results176, go_sem]) rfl (RetI2.of (A := A2) (n := n2) (c := n2) (by rw [HB.o]) ?_ ?_ (HF2.o.q Q.i))
   ·exact Q.i
   have := HR2.o
   rw [HT.o] at this
   simp only [World.jk_jk] at this ⊢
   exact this.swap (by simp) (HF2.o.q Q.i)
  obtain ⟨zz, ezz, hzz⟩ : ∃ zz, zz = sv true X + sv false Y ∧ zz = (Y : Int) - X := ⟨_, rfl, by simp [sv]; try omega⟩
  rw [← ezz] at HL ⊢
  clear ezz
  obtain ⟨nbz, hnbz⟩ : ∃ nb, decide (zz < 0) = nb := ⟨_, rfl⟩
  have HB := hh hnbz
  have HE : Hid (dig (dval (dig Y) - dval (dig X)).toNat = dig zz.natAbs) := hh (by rw [dval_dig, dval_dig]; congr 1; omega)
  have HL1' : Hid ((dig (dval (dig Y) - dval (dig X)).toNat).length ≤ 12) := hh (by rw [HE.o]; exact HL.o)
  have HT : Hid (trL (dig (dval (dig Y) - dval (dig X)).toNat) = dig zz.natAbs) := hh (by rw [trL_dig, HE.o])
  have HS : Hid ((false && decide (trL (dig (dval (dig Y) - dval (dig X)).toNat) ≠ [])) = nbz) := hh (by rw [← hnbz, HT.o, Bool.eq_iff_iff]; simp only [Bool.false_and, Bool.false_eq_true, false_iff, decide_eq_true_eq]; omega)
  obtain ⟨cv, ecv, hcv⟩ : ∃ cv, cmpI (dval (dig X)) (dval (dig Y)) = cv ∧ cv < 0 := ⟨_, rfl, by rw [dval_dig, dval_dig]; unfold cmpI; repeat' split <;> omega⟩
  have EC := hh ecv
  have ED : Hid (dval (dig X) ≤ dval (dig Y)) := hh (by rw [dval_dig, dval_dig]; omega)
  clear ecv hcmp hnbz hzz
  go_enter Tryz.func176, Tryz.ntmps176
  go_wp2_with (go_at_call 175; refine (icmpMag_any _ _ _ (dig X) _ _ _ (dig Y) _ (HX.o.q Q.i) (HY.o.q Q.i) (dig_Dg _) (dig_Dg _) (dig_Tr _) (dig_Tr _) (by omega) (by omega)).q ?_; intro kj; rw [EC.o])
  go_region_held3 (fun w' => w'.cell? ⟨w.heap.size, 0, none⟩ = some (.bool true) ∧ w'.cell? ⟨w.heap.size, 1, none⟩ = some (.slice A n c) ∧ w'.cell? ⟨w.heap.size + 1, 0, none⟩ = some (.bool false) ∧ w'.cell? ⟨w.heap.size + 1, 1, none⟩ = some (.slice B m d)) (simp [go_sem])
   (first | (go_at_call 184; refine (isubMag_any _ _ _ (dig Y) _ _ _ (dig X) _ (HY.o.q Q.i) (HX.o.q Q.i) (dig_Dg _) (dig_Dg _) (dig_Tr _) ED.o (by omega)).mono ?_; rintro e w' ⟨A1, n1, c1, k1, rfl, rfl, hr1, hf1⟩; have HR1 := hh hr1; have HF1 := hh hf1; have HL1 : n1 ≤ 12 := (by rw [← hr1.1]; exact HL1'.o); clear hr1 hf1) | (go_at_call 172; refine (iresult_any _ _ _ _ _ _ HR1.o (dig_Dg _) (by omega) (by rw [HT.o]; exact HL.o)).mono ?_; rintro e w' ⟨A2, n2, k2, rfl, rfl, hr2, hf2⟩; have HR2 := hh hr2; have HF2 := hh (hf2 _ HF1.o); clear hr2 hf2; rw [HS.o]))
  rename_i hHeld
  clear hHeld
  go_wp2
  refine bodyPost_ret (v := .tuple #[.agg #[.bool nbz, .slice A2 n2 n2], .int .i64 0]) (by simp [results, Tryz.results176, go_sem]) rfl (RetI2.of (A := A2) (n := n2) (c := n2) (by rw [HB.o]) ?_ ?_ (HF2.o.q Q.i))
  ·exact Q.i
  have := HR2.o
  rw [HT.o] at this
  simp only [World.jk_jk] at this ⊢
  exact this.swap (by simp) (HF2.o.q Q.i)
 obtain ⟨zz, ezz, hzz⟩ : ∃ zz, zz = sv true X + sv true Y ∧ zz = -((X : Int) + Y) := ⟨_, rfl, by simp [sv]; try omega⟩
 rw [← ezz] at HL ⊢
 clear ezz
 obtain ⟨nbz, hnbz⟩ : ∃ nb, decide (zz < 0) = nb := ⟨_, rfl⟩
 have HB := hh hnbz
 have HE : Hid (dig (dval (dig X) + dval (dig Y)).toNat = dig zz.natAbs) := hh (by rw [dval_dig, dval_dig]; congr 1; omega)
 have HL1' : Hid ((dig (dval (dig X) + dval (dig Y)).toNat).length ≤ 12) := hh (by rw [HE.o]; exact HL.o)
 have HT : Hid (trL (dig (dval (dig X) + dval (dig Y)).toNat) = dig zz.natAbs) := hh (by rw [trL_dig, HE.o])
 have HS : Hid ((true && decide (trL (dig (dval (dig X) + dval (dig Y)).toNat) ≠ [])) = nbz) := hh (by rw [← hnbz, HT.o, Bool.eq_iff_iff]; simp only [Bool.true_and, decide_eq_true_eq, ne_nil_iff]; omega)
 clear hnbz hzz
 go_enter Tryz.func176, Tryz.ntmps176
 go_wp2
 go_region_held3 (fun w' => w'.cell? ⟨w.heap.size, 0, none⟩ = some (.bool true) ∧ w'.cell? ⟨w.heap.size, 1, none⟩ = some (.slice A n c) ∧ w'.cell? ⟨w.heap.size + 1, 0, none⟩ = some (.bool true) ∧ w'.cell? ⟨w.heap.size + 1, 1, none⟩ = some (.slice B m d)) (simp [go_sem])
  (first | (go_at_call 183; refine (iaddMag_any _ _ _ (dig X) _ _ _ (dig Y) _ (HX.o.q Q.i) (HY.o.q Q.i) (dig_Dg _) (dig_Dg _) (by omega) (by omega)).mono ?_; rintro e w' ⟨A1, n1, c1, k1, rfl, rfl, hr1, hf1⟩; have HR1 := hh hr1; have HF1 := hh hf1; have HL1 : n1 ≤ 12 := (by rw [← hr1.1]; exact HL1'.o); clear hr1 hf1) | (go_at_call 172; refine (iresult_any _ _ _ _ _ _ HR1.o (dig_Dg _) (by omega) (by rw [HT.o]; exact HL.o)).mono ?_; rintro e w' ⟨A2, n2, k2, rfl, rfl, hr2, hf2⟩; have HR2 := hh hr2; have HF2 := hh (hf2 _ HF1.o); clear hr2 hf2; rw [HS.o]))
 rename_i hHeld
 clear hHeld
 go_wp2
 refine bodyPost_ret (v := .tuple #[.agg #[.bool nbz, .slice A2 n2 n2], .int .i64 0]) (by simp [results, Tryz.results176, go_sem]) rfl (RetI2.of (A := A2) (n := n2) (c := n2) (by rw [HB.o]) ?_ ?_ (HF2.o.q Q.i))
 ·exact Q.i
 have := HR2.o
 rw [HT.o] at this
 simp only [World.jk_jk] at this ⊢
 exact this.swap (by simp) (HF2.o.q Q.i)
end Go.Proofs.YtcjflafjmdfanaaGreatDoor
