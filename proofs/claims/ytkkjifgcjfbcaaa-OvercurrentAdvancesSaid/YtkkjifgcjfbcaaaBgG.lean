
/- What Neg, Add and Sub of package substationref01, and combined and Versus of substationref02 return. -/
import Derived.Test.YtkkjifgcjfbcaaaBgF
import Derived.Test.YtkkjifgcjfbcaaaBgE
import Derived.Test.YtkkjifgcjfbcaaaVs
namespace Go
theorem World.alloc_jk (W : World) (k : Jk) (o : Obj) : (W.jk k).alloc o = W.jk ⟨k.os.push o, k.n⟩ := by
  unfold World.jk World.alloc
  congr 1
  simp
theorem Rd.swap5 {W W' : World} {k k2 k3 k4 k5 : Jk} {A : Option Addr} {n c : Nat} {l : List Int} (hs : W.heap.size = W'.heap.size) (h : Rd (((((W.jk k).jk k2).jk k3).jk k4).jk k5) A n c l) (hf : Fr W A) : Rd (((((W'.jk k).jk k2).jk k3).jk k4).jk k5) A n c l := by
  rw [World.jk_jk] at *
  exact h.swap4 hs hf
end Go
namespace Go.Sub
theorem neg_sgn {y : Int} (l : List Int) (hl : l = dig y.natAbs) : ((!(decide (y < 0))) && decide (l ≠ [])) = decide (-y < 0) := by
  have e : (l ≠ []) ↔ y ≠ 0 := by rw [hl, Ne, dig_nil]; omega
  rw [Bool.eq_iff_iff]
  simp only [Bool.and_eq_true, Bool.not_eq_true', decide_eq_false_iff_not, decide_eq_true_eq, e]
  omega
theorem ne_nil_iff {n : Nat} : dig n ≠ [] ↔ n ≠ 0 := by rw [Ne, dig_nil]
/-- What Versus returns. -/
def versR (x : Su) (j : Int) (y : Su) (k : Int) : Int × Int := if wi4 1152921504606846976 x.a x.b y.a y.b && wi2 1073741824 j k then (versS x j y k, 0) else (0, 1)
end Go.Sub
namespace Go.Proofs.Ytkkjifgcjfbcaaa
open Go.RowKit Go.Sub
set_option maxHeartbeats 2000000 in
theorem r1neg_z (b : Bool) (A : Option Addr) (n c : Nat) (y : Int) (w : World) (bx : b = decide (y < 0)) (rx : Rd w A n c (dig y.natAbs)) (hy : Sm y) :
    Calls Try.prog 118 #[.agg #[.bool b, .slice A n c]] w (RetZ2 (-y) w) := by
  have ln : n ≤ 12 := by rw [← rx.1]; exact hy.len
  have HV := Lib.hid (fun w' (hq : Q w w') => r1valid_z b A n c y w' bx (rx.q hq) hy)
  have HX := Lib.hid rx
  have HT : Hid (trL (dig y.natAbs) = dig (-y).natAbs) := Lib.hid (by rw [trL_dig, Int.natAbs_neg])
  have HS : Hid (((!b) && decide (trL (dig y.natAbs) ≠ [])) = decide (-y < 0)) := Lib.hid (by rw [bx]; exact neg_sgn _ (trL_dig _))
  clear rx bx hy
  go_enter Try.func118, Try.ntmps118
  go_wp2_with (first | (go_at_call 106; (with_reducible refine (HV.out _ (by repeat' (first | exact Q.refl _ | refine Q.alloc ?_ _ | refine Q.jk ?_ _ | refine Q.drew ?_))).mono ?_); rintro e w' ⟨rfl, kj, rfl⟩) | (go_at_call 92; refine (r1made_any _ _ _ _ _ _ (HX.out.q (by repeat' (first | exact Q.refl _ | refine Q.alloc ?_ _ | refine Q.jk ?_ _ | refine Q.drew ?_))) (dig_Dg _) (by omega)).mono ?_; rintro e w' ⟨A2, n2, c2, k2, rfl, rfl, hr2, hf2⟩; have HR2 := Lib.hid hr2; have HF2 := Lib.hid hf2; clear hr2 hf2; rw [HS.out]))
  refine bodyPost_ret (v := .tuple #[.agg #[.bool (decide (-y < 0)), .slice A2 n2 c2], .int .i64 0]) (by simp [results, Try.results118, go_sem]) rfl (RetI2.of (A := A2) (n := n2) (c := c2) rfl ?_ ?_ (HF2.out.q (by repeat' (first | exact Q.refl _ | refine Q.alloc ?_ _ | refine Q.jk ?_ _ | refine Q.drew ?_))))
  · repeat' (first | exact Q.refl _ | refine Q.alloc ?_ _ | refine Q.jk ?_ _ | refine Q.drew ?_)
  · have := HR2.out
    rw [HT.out] at this
    exact this.swap2 (by simp) (HF2.out.q (by repeat' (first | exact Q.refl _ | refine Q.alloc ?_ _ | refine Q.jk ?_ _ | refine Q.drew ?_)))
set_option maxHeartbeats 4000000 in
theorem r1add_z (b : Bool) (A : Option Addr) (n c : Nat) (x : Int) (b' : Bool) (B : Option Addr) (m d : Nat) (y : Int) (w : World) (bx : b = decide (x < 0)) (rx : Rd w A n c (dig x.natAbs)) (hx : Sm x) (by' : b' = decide (y < 0)) (ry : Rd w B m d (dig y.natAbs)) (hy : Sm y) (hxy : Sm (x + y)) :
    Calls Try.prog 119 #[.agg #[.bool b, .slice A n c], .agg #[.bool b', .slice B m d]] w (RetZ2 (x + y) w) := by
  have ln : n ≤ 12 := by rw [← rx.1]; exact hx.len
  have lm : m ≤ 12 := by rw [← ry.1]; exact hy.len
  have HX := Lib.hid rx
  have HY := Lib.hid ry
  have HVX := Lib.hid (fun w' (hq : Q w w') => r1valid_z b A n c x w' bx (rx.q hq) hx)
  have HVY := Lib.hid (fun w' (hq : Q w w') => r1valid_z b' B m d y w' by' (ry.q hq) hy)
  have HL := Lib.hid hxy.len
  clear rx ry hx hy hxy
  cases b <;> cases b'
  · have hx0 : 0 ≤ x := by simpa using bx
    have hy0 : 0 ≤ y := by simpa using by'
    clear bx by'
    go_enter Try.func119, Try.ntmps119
    go_wp2_with (go_at_call 106; first | ((with_reducible refine (HVX.out _ (by repeat' (first | exact Q.refl _ | refine Q.alloc ?_ _ | refine Q.jk ?_ _ | refine Q.drew ?_))).mono ?_); rintro e w' ⟨rfl, kj, rfl⟩) | ((with_reducible refine (HVY.out _ (by repeat' (first | exact Q.refl _ | refine Q.alloc ?_ _ | refine Q.jk ?_ _ | refine Q.drew ?_))).mono ?_); rintro e w' ⟨rfl, kj, rfl⟩))
    go_region_held3 (fun w' => w'.cell? ⟨w.heap.size, 0, none⟩ = some (.bool false) ∧ w'.cell? ⟨w.heap.size, 1, none⟩ = some (.slice A n c) ∧ w'.cell? ⟨w.heap.size + 1, 0, none⟩ = some (.bool false) ∧ w'.cell? ⟨w.heap.size + 1, 1, none⟩ = some (.slice B m d)) (simp [go_sem])
      (first
       | (go_at_call 126; refine (r1plus_any _ _ _ (dig x.natAbs) _ _ _ (dig y.natAbs) _ (HX.out.q (by repeat' (first | exact Q.refl _ | refine Q.alloc ?_ _ | refine Q.jk ?_ _ | refine Q.drew ?_))) (HY.out.q (by repeat' (first | exact Q.refl _ | refine Q.alloc ?_ _ | refine Q.jk ?_ _ | refine Q.drew ?_))) (dig_Dg _) (dig_Dg _) (by omega) (by omega)).mono ?_; rintro e w' ⟨l1, A1, n1, c1, k1, rfl, rfl, hr1, hf1, hd1, hv1, hn1⟩; have HR1 := Lib.hid hr1; have HF1 := Lib.hid hf1; have HD1 := Lib.hid hd1; have HT : Hid (trL l1 = dig (x + y).natAbs) := Lib.hid (by unfold trL; rw [hv1, dval_dg, dval_dg]; congr 1; omega); have HS : Hid ((false && decide (trL l1 ≠ [])) = decide (x + y < 0)) := Lib.hid (by rw [HT.out, Bool.eq_iff_iff]; simp only [Bool.false_and, Bool.false_eq_true, false_iff, decide_eq_true_eq]; omega); clear hr1 hf1 hd1 hv1)
       | (go_at_call 92; refine (r1made_any _ _ _ _ _ _ HR1.out HD1.out (by omega)).mono ?_; rintro e w' ⟨A2, n2, c2, k2, rfl, rfl, hr2, hf2⟩; have HR2 := Lib.hid hr2; have HF2 := Lib.hid hf2; have HL2 : n2 ≤ 12 := (by rw [← hr2.1, HT.out]; exact HL.out); clear hr2 hf2; rw [HS.out])
       | (go_at_call 121; refine (r1result_any _ _ _ _ _ (by omega)).mono ?_; rintro e w' ⟨rfl, kj, rfl⟩))
    rename_i hHeld
    clear hHeld
    go_wp2
    refine bodyPost_ret (v := .tuple #[.agg #[.bool (decide (x + y < 0)), .slice A2 n2 c2], .int .i64 0]) (by simp [results, Try.results119, go_sem]) rfl (RetI2.of (A := A2) (n := n2) (c := c2) rfl ?_ ?_ (HF2.out.q (by repeat' (first | exact Q.refl _ | refine Q.alloc ?_ _ | refine Q.jk ?_ _ | refine Q.drew ?_))))
    · repeat' (first | exact Q.refl _ | refine Q.alloc ?_ _ | refine Q.jk ?_ _ | refine Q.drew ?_)
    · have := HR2.out
      rw [HT.out] at this
      exact (this.swap4 (by simp) (HF2.out.q (by repeat' (first | exact Q.refl _ | refine Q.alloc ?_ _ | refine Q.jk ?_ _ | refine Q.drew ?_)))).q ((Q.refl _).jk _)
  · have hx0 : 0 ≤ x := by simpa using bx
    have hy0 : y < 0 := by simpa using by'
    clear bx by'
    by_cases hcmp : y.natAbs ≤ x.natAbs
    · obtain ⟨cv, ecv, hcv⟩ : ∃ cv, cmpI (dval (dig x.natAbs)) (dval (dig y.natAbs)) = cv ∧ 0 ≤ cv := ⟨_, rfl, by rw [dval_dg, dval_dg]; unfold cmpI; repeat' split <;> omega⟩
      have EC := Lib.hid ecv
      have ED : Hid (dval (dig y.natAbs) ≤ dval (dig x.natAbs)) := Lib.hid (by rw [dval_dg, dval_dg]; omega)
      have HE : Hid (dig (dval (dig x.natAbs) - dval (dig y.natAbs)).toNat = dig (x + y).natAbs) := Lib.hid (by rw [dval_dg, dval_dg]; congr 1; omega)
      have HL1' : Hid ((dig (dval (dig x.natAbs) - dval (dig y.natAbs)).toNat).length ≤ 12) := Lib.hid (by rw [HE.out]; exact HL.out)
      have HT : Hid (trL (dig (dval (dig x.natAbs) - dval (dig y.natAbs)).toNat) = dig (x + y).natAbs) := Lib.hid (by rw [trL_dig, HE.out])
      have HS : Hid ((false && decide (trL (dig (dval (dig x.natAbs) - dval (dig y.natAbs)).toNat) ≠ [])) = decide (x + y < 0)) := Lib.hid (by rw [HT.out, Bool.eq_iff_iff]; simp only [Bool.false_and, Bool.false_eq_true, false_iff, decide_eq_true_eq]; omega)
      clear ecv hcmp hx0 hy0
      go_enter Try.func119, Try.ntmps119
      go_wp2_with (first | (go_at_call 106; first | ((with_reducible refine (HVX.out _ (by repeat' (first | exact Q.refl _ | refine Q.alloc ?_ _ | refine Q.jk ?_ _ | refine Q.drew ?_))).mono ?_); rintro e w' ⟨rfl, kj, rfl⟩) | ((with_reducible refine (HVY.out _ (by repeat' (first | exact Q.refl _ | refine Q.alloc ?_ _ | refine Q.jk ?_ _ | refine Q.drew ?_))).mono ?_); rintro e w' ⟨rfl, kj, rfl⟩)) | (go_at_call 107; refine (r1compare_any _ _ _ (dig x.natAbs) _ _ _ (dig y.natAbs) _ (HX.out.q (by repeat' (first | exact Q.refl _ | refine Q.alloc ?_ _ | refine Q.jk ?_ _ | refine Q.drew ?_))) (HY.out.q (by repeat' (first | exact Q.refl _ | refine Q.alloc ?_ _ | refine Q.jk ?_ _ | refine Q.drew ?_))) (dig_Dg _) (dig_Dg _) (dig_Tr _) (dig_Tr _) (by omega) (by omega)).mono ?_; rintro e w' ⟨rfl, kj, rfl⟩; rw [EC.out]))
      go_region_held3 (fun w' => w'.cell? ⟨w.heap.size, 0, none⟩ = some (.bool false) ∧ w'.cell? ⟨w.heap.size, 1, none⟩ = some (.slice A n c) ∧ w'.cell? ⟨w.heap.size + 1, 0, none⟩ = some (.bool true) ∧ w'.cell? ⟨w.heap.size + 1, 1, none⟩ = some (.slice B m d)) (simp [go_sem])
        (first
         | (go_at_call 127; refine (r1minus_any _ _ _ (dig x.natAbs) _ _ _ (dig y.natAbs) _ (HX.out.q (by repeat' (first | exact Q.refl _ | refine Q.alloc ?_ _ | refine Q.jk ?_ _ | refine Q.drew ?_))) (HY.out.q (by repeat' (first | exact Q.refl _ | refine Q.alloc ?_ _ | refine Q.jk ?_ _ | refine Q.drew ?_))) (dig_Dg _) (dig_Dg _) (dig_Tr _) ED.out (by omega)).mono ?_; rintro e w' ⟨A1, n1, c1, k1, rfl, rfl, hr1, hf1⟩; have HR1 := Lib.hid hr1; have HF1 := Lib.hid hf1; have HL1 : n1 ≤ 12 := (by rw [← hr1.1]; exact HL1'.out); clear hr1 hf1)
         | (go_at_call 92; refine (r1made_any _ _ _ _ _ _ HR1.out (dig_Dg _) (by omega)).mono ?_; rintro e w' ⟨A2, n2, c2, k2, rfl, rfl, hr2, hf2⟩; have HR2 := Lib.hid hr2; have HF2 := Lib.hid hf2; have HL2 : n2 ≤ 12 := (by rw [← hr2.1, HT.out]; exact HL.out); clear hr2 hf2; rw [HS.out])
         | (go_at_call 121; refine (r1result_any _ _ _ _ _ (by omega)).mono ?_; rintro e w' ⟨rfl, kj, rfl⟩))
      rename_i hHeld
      clear hHeld
      go_wp2
      refine bodyPost_ret (v := .tuple #[.agg #[.bool (decide (x + y < 0)), .slice A2 n2 c2], .int .i64 0]) (by simp [results, Try.results119, go_sem]) rfl (RetI2.of (A := A2) (n := n2) (c := c2) rfl ?_ ?_ (HF2.out.q (by repeat' (first | exact Q.refl _ | refine Q.alloc ?_ _ | refine Q.jk ?_ _ | refine Q.drew ?_))))
      · repeat' (first | exact Q.refl _ | refine Q.alloc ?_ _ | refine Q.jk ?_ _ | refine Q.drew ?_)
      · have := HR2.out
        rw [HT.out] at this
        exact (this.swap5 (by simp) (HF2.out.q (by repeat' (first | exact Q.refl _ | refine Q.alloc ?_ _ | refine Q.jk ?_ _ | refine Q.drew ?_)))).q ((Q.refl _).jk _)
    · obtain ⟨cv, ecv, hcv⟩ : ∃ cv, cmpI (dval (dig x.natAbs)) (dval (dig y.natAbs)) = cv ∧ cv < 0 := ⟨_, rfl, by rw [dval_dg, dval_dg]; unfold cmpI; repeat' split <;> omega⟩
      have EC := Lib.hid ecv
      have ED : Hid (dval (dig x.natAbs) ≤ dval (dig y.natAbs)) := Lib.hid (by rw [dval_dg, dval_dg]; omega)
      have HE : Hid (dig (dval (dig y.natAbs) - dval (dig x.natAbs)).toNat = dig (x + y).natAbs) := Lib.hid (by rw [dval_dg, dval_dg]; congr 1; omega)
      have HL1' : Hid ((dig (dval (dig y.natAbs) - dval (dig x.natAbs)).toNat).length ≤ 12) := Lib.hid (by rw [HE.out]; exact HL.out)
      have HT : Hid (trL (dig (dval (dig y.natAbs) - dval (dig x.natAbs)).toNat) = dig (x + y).natAbs) := Lib.hid (by rw [trL_dig, HE.out])
      have HS : Hid ((true && decide (trL (dig (dval (dig y.natAbs) - dval (dig x.natAbs)).toNat) ≠ [])) = decide (x + y < 0)) := Lib.hid (by rw [HT.out, Bool.eq_iff_iff]; simp only [Bool.true_and, decide_eq_true_eq, ne_nil_iff]; omega)
      clear ecv hcmp hx0 hy0
      go_enter Try.func119, Try.ntmps119
      go_wp2_with (first | (go_at_call 106; first | ((with_reducible refine (HVX.out _ (by repeat' (first | exact Q.refl _ | refine Q.alloc ?_ _ | refine Q.jk ?_ _ | refine Q.drew ?_))).mono ?_); rintro e w' ⟨rfl, kj, rfl⟩) | ((with_reducible refine (HVY.out _ (by repeat' (first | exact Q.refl _ | refine Q.alloc ?_ _ | refine Q.jk ?_ _ | refine Q.drew ?_))).mono ?_); rintro e w' ⟨rfl, kj, rfl⟩)) | (go_at_call 107; refine (r1compare_any _ _ _ (dig x.natAbs) _ _ _ (dig y.natAbs) _ (HX.out.q (by repeat' (first | exact Q.refl _ | refine Q.alloc ?_ _ | refine Q.jk ?_ _ | refine Q.drew ?_))) (HY.out.q (by repeat' (first | exact Q.refl _ | refine Q.alloc ?_ _ | refine Q.jk ?_ _ | refine Q.drew ?_))) (dig_Dg _) (dig_Dg _) (dig_Tr _) (dig_Tr _) (by omega) (by omega)).mono ?_; rintro e w' ⟨rfl, kj, rfl⟩; rw [EC.out]))
      go_region_held3 (fun w' => w'.cell? ⟨w.heap.size, 0, none⟩ = some (.bool false) ∧ w'.cell? ⟨w.heap.size, 1, none⟩ = some (.slice A n c) ∧ w'.cell? ⟨w.heap.size + 1, 0, none⟩ = some (.bool true) ∧ w'.cell? ⟨w.heap.size + 1, 1, none⟩ = some (.slice B m d)) (simp [go_sem])
        (first
         | (go_at_call 127; refine (r1minus_any _ _ _ (dig y.natAbs) _ _ _ (dig x.natAbs) _ (HY.out.q (by repeat' (first | exact Q.refl _ | refine Q.alloc ?_ _ | refine Q.jk ?_ _ | refine Q.drew ?_))) (HX.out.q (by repeat' (first | exact Q.refl _ | refine Q.alloc ?_ _ | refine Q.jk ?_ _ | refine Q.drew ?_))) (dig_Dg _) (dig_Dg _) (dig_Tr _) ED.out (by omega)).mono ?_; rintro e w' ⟨A1, n1, c1, k1, rfl, rfl, hr1, hf1⟩; have HR1 := Lib.hid hr1; have HF1 := Lib.hid hf1; have HL1 : n1 ≤ 12 := (by rw [← hr1.1]; exact HL1'.out); clear hr1 hf1)
         | (go_at_call 92; refine (r1made_any _ _ _ _ _ _ HR1.out (dig_Dg _) (by omega)).mono ?_; rintro e w' ⟨A2, n2, c2, k2, rfl, rfl, hr2, hf2⟩; have HR2 := Lib.hid hr2; have HF2 := Lib.hid hf2; have HL2 : n2 ≤ 12 := (by rw [← hr2.1, HT.out]; exact HL.out); clear hr2 hf2; rw [HS.out])
         | (go_at_call 121; refine (r1result_any _ _ _ _ _ (by omega)).mono ?_; rintro e w' ⟨rfl, kj, rfl⟩))
      rename_i hHeld
      clear hHeld
      go_wp2
      refine bodyPost_ret (v := .tuple #[.agg #[.bool (decide (x + y < 0)), .slice A2 n2 c2], .int .i64 0]) (by simp [results, Try.results119, go_sem]) rfl (RetI2.of (A := A2) (n := n2) (c := c2) rfl ?_ ?_ (HF2.out.q (by repeat' (first | exact Q.refl _ | refine Q.alloc ?_ _ | refine Q.jk ?_ _ | refine Q.drew ?_))))
      · repeat' (first | exact Q.refl _ | refine Q.alloc ?_ _ | refine Q.jk ?_ _ | refine Q.drew ?_)
      · have := HR2.out
        rw [HT.out] at this
        exact (this.swap5 (by simp) (HF2.out.q (by repeat' (first | exact Q.refl _ | refine Q.alloc ?_ _ | refine Q.jk ?_ _ | refine Q.drew ?_)))).q ((Q.refl _).jk _)
  · have hx0 : x < 0 := by simpa using bx
    have hy0 : 0 ≤ y := by simpa using by'
    clear bx by'
    by_cases hcmp : y.natAbs ≤ x.natAbs
    · obtain ⟨cv, ecv, hcv⟩ : ∃ cv, cmpI (dval (dig x.natAbs)) (dval (dig y.natAbs)) = cv ∧ 0 ≤ cv := ⟨_, rfl, by rw [dval_dg, dval_dg]; unfold cmpI; repeat' split <;> omega⟩
      have EC := Lib.hid ecv
      have ED : Hid (dval (dig y.natAbs) ≤ dval (dig x.natAbs)) := Lib.hid (by rw [dval_dg, dval_dg]; omega)
      have HE : Hid (dig (dval (dig x.natAbs) - dval (dig y.natAbs)).toNat = dig (x + y).natAbs) := Lib.hid (by rw [dval_dg, dval_dg]; congr 1; omega)
      have HL1' : Hid ((dig (dval (dig x.natAbs) - dval (dig y.natAbs)).toNat).length ≤ 12) := Lib.hid (by rw [HE.out]; exact HL.out)
      have HT : Hid (trL (dig (dval (dig x.natAbs) - dval (dig y.natAbs)).toNat) = dig (x + y).natAbs) := Lib.hid (by rw [trL_dig, HE.out])
      have HS : Hid ((true && decide (trL (dig (dval (dig x.natAbs) - dval (dig y.natAbs)).toNat) ≠ [])) = decide (x + y < 0)) := Lib.hid (by rw [HT.out, Bool.eq_iff_iff]; simp only [Bool.true_and, decide_eq_true_eq, ne_nil_iff]; omega)
      clear ecv hcmp hx0 hy0
      go_enter Try.func119, Try.ntmps119
      go_wp2_with (first | (go_at_call 106; first | ((with_reducible refine (HVX.out _ (by repeat' (first | exact Q.refl _ | refine Q.alloc ?_ _ | refine Q.jk ?_ _ | refine Q.drew ?_))).mono ?_); rintro e w' ⟨rfl, kj, rfl⟩) | ((with_reducible refine (HVY.out _ (by repeat' (first | exact Q.refl _ | refine Q.alloc ?_ _ | refine Q.jk ?_ _ | refine Q.drew ?_))).mono ?_); rintro e w' ⟨rfl, kj, rfl⟩)) | (go_at_call 107; refine (r1compare_any _ _ _ (dig x.natAbs) _ _ _ (dig y.natAbs) _ (HX.out.q (by repeat' (first | exact Q.refl _ | refine Q.alloc ?_ _ | refine Q.jk ?_ _ | refine Q.drew ?_))) (HY.out.q (by repeat' (first | exact Q.refl _ | refine Q.alloc ?_ _ | refine Q.jk ?_ _ | refine Q.drew ?_))) (dig_Dg _) (dig_Dg _) (dig_Tr _) (dig_Tr _) (by omega) (by omega)).mono ?_; rintro e w' ⟨rfl, kj, rfl⟩; rw [EC.out]))
      go_region_held3 (fun w' => w'.cell? ⟨w.heap.size, 0, none⟩ = some (.bool true) ∧ w'.cell? ⟨w.heap.size, 1, none⟩ = some (.slice A n c) ∧ w'.cell? ⟨w.heap.size + 1, 0, none⟩ = some (.bool false) ∧ w'.cell? ⟨w.heap.size + 1, 1, none⟩ = some (.slice B m d)) (simp [go_sem])
        (first
         | (go_at_call 127; refine (r1minus_any _ _ _ (dig x.natAbs) _ _ _ (dig y.natAbs) _ (HX.out.q (by repeat' (first | exact Q.refl _ | refine Q.alloc ?_ _ | refine Q.jk ?_ _ | refine Q.drew ?_))) (HY.out.q (by repeat' (first | exact Q.refl _ | refine Q.alloc ?_ _ | refine Q.jk ?_ _ | refine Q.drew ?_))) (dig_Dg _) (dig_Dg _) (dig_Tr _) ED.out (by omega)).mono ?_; rintro e w' ⟨A1, n1, c1, k1, rfl, rfl, hr1, hf1⟩; have HR1 := Lib.hid hr1; have HF1 := Lib.hid hf1; have HL1 : n1 ≤ 12 := (by rw [← hr1.1]; exact HL1'.out); clear hr1 hf1)
         | (go_at_call 92; refine (r1made_any _ _ _ _ _ _ HR1.out (dig_Dg _) (by omega)).mono ?_; rintro e w' ⟨A2, n2, c2, k2, rfl, rfl, hr2, hf2⟩; have HR2 := Lib.hid hr2; have HF2 := Lib.hid hf2; have HL2 : n2 ≤ 12 := (by rw [← hr2.1, HT.out]; exact HL.out); clear hr2 hf2; rw [HS.out])
         | (go_at_call 121; refine (r1result_any _ _ _ _ _ (by omega)).mono ?_; rintro e w' ⟨rfl, kj, rfl⟩))
      rename_i hHeld
      clear hHeld
      go_wp2
      refine bodyPost_ret (v := .tuple #[.agg #[.bool (decide (x + y < 0)), .slice A2 n2 c2], .int .i64 0]) (by simp [results, Try.results119, go_sem]) rfl (RetI2.of (A := A2) (n := n2) (c := c2) rfl ?_ ?_ (HF2.out.q (by repeat' (first | exact Q.refl _ | refine Q.alloc ?_ _ | refine Q.jk ?_ _ | refine Q.drew ?_))))
      · repeat' (first | exact Q.refl _ | refine Q.alloc ?_ _ | refine Q.jk ?_ _ | refine Q.drew ?_)
      · have := HR2.out
        rw [HT.out] at this
        exact (this.swap5 (by simp) (HF2.out.q (by repeat' (first | exact Q.refl _ | refine Q.alloc ?_ _ | refine Q.jk ?_ _ | refine Q.drew ?_)))).q ((Q.refl _).jk _)
    · obtain ⟨cv, ecv, hcv⟩ : ∃ cv, cmpI (dval (dig x.natAbs)) (dval (dig y.natAbs)) = cv ∧ cv < 0 := ⟨_, rfl, by rw [dval_dg, dval_dg]; unfold cmpI; repeat' split <;> omega⟩
      have EC := Lib.hid ecv
      have ED : Hid (dval (dig x.natAbs) ≤ dval (dig y.natAbs)) := Lib.hid (by rw [dval_dg, dval_dg]; omega)
      have HE : Hid (dig (dval (dig y.natAbs) - dval (dig x.natAbs)).toNat = dig (x + y).natAbs) := Lib.hid (by rw [dval_dg, dval_dg]; congr 1; omega)
      have HL1' : Hid ((dig (dval (dig y.natAbs) - dval (dig x.natAbs)).toNat).length ≤ 12) := Lib.hid (by rw [HE.out]; exact HL.out)
      have HT : Hid (trL (dig (dval (dig y.natAbs) - dval (dig x.natAbs)).toNat) = dig (x + y).natAbs) := Lib.hid (by rw [trL_dig, HE.out])
      have HS : Hid ((false && decide (trL (dig (dval (dig y.natAbs) - dval (dig x.natAbs)).toNat) ≠ [])) = decide (x + y < 0)) := Lib.hid (by rw [HT.out, Bool.eq_iff_iff]; simp only [Bool.false_and, Bool.false_eq_true, false_iff, decide_eq_true_eq]; omega)
      clear ecv hcmp hx0 hy0
      go_enter Try.func119, Try.ntmps119
      go_wp2_with (first | (go_at_call 106; first | ((with_reducible refine (HVX.out _ (by repeat' (first | exact Q.refl _ | refine Q.alloc ?_ _ | refine Q.jk ?_ _ | refine Q.drew ?_))).mono ?_); rintro e w' ⟨rfl, kj, rfl⟩) | ((with_reducible refine (HVY.out _ (by repeat' (first | exact Q.refl _ | refine Q.alloc ?_ _ | refine Q.jk ?_ _ | refine Q.drew ?_))).mono ?_); rintro e w' ⟨rfl, kj, rfl⟩)) | (go_at_call 107; refine (r1compare_any _ _ _ (dig x.natAbs) _ _ _ (dig y.natAbs) _ (HX.out.q (by repeat' (first | exact Q.refl _ | refine Q.alloc ?_ _ | refine Q.jk ?_ _ | refine Q.drew ?_))) (HY.out.q (by repeat' (first | exact Q.refl _ | refine Q.alloc ?_ _ | refine Q.jk ?_ _ | refine Q.drew ?_))) (dig_Dg _) (dig_Dg _) (dig_Tr _) (dig_Tr _) (by omega) (by omega)).mono ?_; rintro e w' ⟨rfl, kj, rfl⟩; rw [EC.out]))
      go_region_held3 (fun w' => w'.cell? ⟨w.heap.size, 0, none⟩ = some (.bool true) ∧ w'.cell? ⟨w.heap.size, 1, none⟩ = some (.slice A n c) ∧ w'.cell? ⟨w.heap.size + 1, 0, none⟩ = some (.bool false) ∧ w'.cell? ⟨w.heap.size + 1, 1, none⟩ = some (.slice B m d)) (simp [go_sem])
        (first
         | (go_at_call 127; refine (r1minus_any _ _ _ (dig y.natAbs) _ _ _ (dig x.natAbs) _ (HY.out.q (by repeat' (first | exact Q.refl _ | refine Q.alloc ?_ _ | refine Q.jk ?_ _ | refine Q.drew ?_))) (HX.out.q (by repeat' (first | exact Q.refl _ | refine Q.alloc ?_ _ | refine Q.jk ?_ _ | refine Q.drew ?_))) (dig_Dg _) (dig_Dg _) (dig_Tr _) ED.out (by omega)).mono ?_; rintro e w' ⟨A1, n1, c1, k1, rfl, rfl, hr1, hf1⟩; have HR1 := Lib.hid hr1; have HF1 := Lib.hid hf1; have HL1 : n1 ≤ 12 := (by rw [← hr1.1]; exact HL1'.out); clear hr1 hf1)
         | (go_at_call 92; refine (r1made_any _ _ _ _ _ _ HR1.out (dig_Dg _) (by omega)).mono ?_; rintro e w' ⟨A2, n2, c2, k2, rfl, rfl, hr2, hf2⟩; have HR2 := Lib.hid hr2; have HF2 := Lib.hid hf2; have HL2 : n2 ≤ 12 := (by rw [← hr2.1, HT.out]; exact HL.out); clear hr2 hf2; rw [HS.out])
         | (go_at_call 121; refine (r1result_any _ _ _ _ _ (by omega)).mono ?_; rintro e w' ⟨rfl, kj, rfl⟩))
      rename_i hHeld
      clear hHeld
      go_wp2
      refine bodyPost_ret (v := .tuple #[.agg #[.bool (decide (x + y < 0)), .slice A2 n2 c2], .int .i64 0]) (by simp [results, Try.results119, go_sem]) rfl (RetI2.of (A := A2) (n := n2) (c := c2) rfl ?_ ?_ (HF2.out.q (by repeat' (first | exact Q.refl _ | refine Q.alloc ?_ _ | refine Q.jk ?_ _ | refine Q.drew ?_))))
      · repeat' (first | exact Q.refl _ | refine Q.alloc ?_ _ | refine Q.jk ?_ _ | refine Q.drew ?_)
      · have := HR2.out
        rw [HT.out] at this
        exact (this.swap5 (by simp) (HF2.out.q (by repeat' (first | exact Q.refl _ | refine Q.alloc ?_ _ | refine Q.jk ?_ _ | refine Q.drew ?_)))).q ((Q.refl _).jk _)
  · have hx0 : x < 0 := by simpa using bx
    have hy0 : y < 0 := by simpa using by'
    clear bx by'
    go_enter Try.func119, Try.ntmps119
    go_wp2_with (go_at_call 106; first | ((with_reducible refine (HVX.out _ (by repeat' (first | exact Q.refl _ | refine Q.alloc ?_ _ | refine Q.jk ?_ _ | refine Q.drew ?_))).mono ?_); rintro e w' ⟨rfl, kj, rfl⟩) | ((with_reducible refine (HVY.out _ (by repeat' (first | exact Q.refl _ | refine Q.alloc ?_ _ | refine Q.jk ?_ _ | refine Q.drew ?_))).mono ?_); rintro e w' ⟨rfl, kj, rfl⟩))
    go_region_held3 (fun w' => w'.cell? ⟨w.heap.size, 0, none⟩ = some (.bool true) ∧ w'.cell? ⟨w.heap.size, 1, none⟩ = some (.slice A n c) ∧ w'.cell? ⟨w.heap.size + 1, 0, none⟩ = some (.bool true) ∧ w'.cell? ⟨w.heap.size + 1, 1, none⟩ = some (.slice B m d)) (simp [go_sem])
      (first
       | (go_at_call 126; refine (r1plus_any _ _ _ (dig x.natAbs) _ _ _ (dig y.natAbs) _ (HX.out.q (by repeat' (first | exact Q.refl _ | refine Q.alloc ?_ _ | refine Q.jk ?_ _ | refine Q.drew ?_))) (HY.out.q (by repeat' (first | exact Q.refl _ | refine Q.alloc ?_ _ | refine Q.jk ?_ _ | refine Q.drew ?_))) (dig_Dg _) (dig_Dg _) (by omega) (by omega)).mono ?_; rintro e w' ⟨l1, A1, n1, c1, k1, rfl, rfl, hr1, hf1, hd1, hv1, hn1⟩; have HR1 := Lib.hid hr1; have HF1 := Lib.hid hf1; have HD1 := Lib.hid hd1; have HT : Hid (trL l1 = dig (x + y).natAbs) := Lib.hid (by unfold trL; rw [hv1, dval_dg, dval_dg]; congr 1; omega); have HS : Hid ((true && decide (trL l1 ≠ [])) = decide (x + y < 0)) := Lib.hid (by rw [HT.out, Bool.eq_iff_iff]; simp only [Bool.true_and, decide_eq_true_eq, ne_nil_iff]; omega); clear hr1 hf1 hd1 hv1)
       | (go_at_call 92; refine (r1made_any _ _ _ _ _ _ HR1.out HD1.out (by omega)).mono ?_; rintro e w' ⟨A2, n2, c2, k2, rfl, rfl, hr2, hf2⟩; have HR2 := Lib.hid hr2; have HF2 := Lib.hid hf2; have HL2 : n2 ≤ 12 := (by rw [← hr2.1, HT.out]; exact HL.out); clear hr2 hf2; rw [HS.out])
       | (go_at_call 121; refine (r1result_any _ _ _ _ _ (by omega)).mono ?_; rintro e w' ⟨rfl, kj, rfl⟩))
    rename_i hHeld
    clear hHeld
    go_wp2
    refine bodyPost_ret (v := .tuple #[.agg #[.bool (decide (x + y < 0)), .slice A2 n2 c2], .int .i64 0]) (by simp [results, Try.results119, go_sem]) rfl (RetI2.of (A := A2) (n := n2) (c := c2) rfl ?_ ?_ (HF2.out.q (by repeat' (first | exact Q.refl _ | refine Q.alloc ?_ _ | refine Q.jk ?_ _ | refine Q.drew ?_))))
    · repeat' (first | exact Q.refl _ | refine Q.alloc ?_ _ | refine Q.jk ?_ _ | refine Q.drew ?_)
    · have := HR2.out
      rw [HT.out] at this
      exact (this.swap4 (by simp) (HF2.out.q (by repeat' (first | exact Q.refl _ | refine Q.alloc ?_ _ | refine Q.jk ?_ _ | refine Q.drew ?_)))).q ((Q.refl _).jk _)
set_option maxHeartbeats 4000000 in
theorem r1sub_z (b : Bool) (A : Option Addr) (n c : Nat) (x : Int) (b' : Bool) (B : Option Addr) (m d : Nat) (y : Int) (w : World) (bx : b = decide (x < 0)) (rx : Rd w A n c (dig x.natAbs)) (hx : Sm x) (by' : b' = decide (y < 0)) (ry : Rd w B m d (dig y.natAbs)) (hy : Sm y) (hxy : Sm (x - y)) :
    Calls Try.prog 104 #[.agg #[.bool b, .slice A n c], .agg #[.bool b', .slice B m d]] w (RetZ2 (x - y) w) := by
  have HX := Lib.hid rx
  have BX := Lib.hid bx
  have HVX := Lib.hid (fun w' (hq : Q w w') => r1valid_z b A n c x w' bx (rx.q hq) hx)
  have HNY := Lib.hid (fun w' (hq : Q w w') => r1neg_z b' B m d y w' by' (ry.q hq) hy)
  have SX := Lib.hid hx
  have SY : Hid (Sm (-y)) := Lib.hid (by unfold Sm at *; rw [Int.natAbs_neg]; exact hy)
  have SXY : Hid (Sm (x + -y)) := Lib.hid (by rw [← Int.sub_eq_add_neg]; exact hxy)
  rw [show RetZ2 (x - y) w = RetZ2 (x + -y) w by rw [Int.sub_eq_add_neg]]
  clear rx ry hx hy hxy bx by'
  go_enter Try.func104, Try.ntmps104
  go_wp2_with (first
   | (go_at_call 106; ((with_reducible refine (HVX.out _ (by repeat' (first | exact Q.refl _ | refine Q.alloc ?_ _ | refine Q.jk ?_ _ | refine Q.drew ?_))).mono ?_); rintro e w' ⟨rfl, kj, rfl⟩))
   | (go_at_call 118; (with_reducible refine (HNY.out _ (by repeat' (first | exact Q.refl _ | refine Q.alloc ?_ _ | refine Q.jk ?_ _ | refine Q.drew ?_))).mono ?_); rintro e w' ⟨A1, n1, c1, k1, rfl, rfl, hr1, hf1⟩; have HR1 := Lib.hid hr1; clear hr1 hf1; obtain ⟨nb1, hnb1⟩ : ∃ nb, decide (-y < 0) = nb := ⟨_, rfl⟩; rw [hnb1]; have HB1 := Lib.hid hnb1; clear hnb1)
   | (go_at_call 119; refine (r1add_z _ _ _ _ x _ _ _ _ (-y) _ BX.out (HX.out.q (by repeat' (first | exact Q.refl _ | refine Q.alloc ?_ _ | refine Q.jk ?_ _ | refine Q.drew ?_))) SX.out HB1.out.symm (HR1.out.q (by repeat' (first | exact Q.refl _ | refine Q.alloc ?_ _ | refine Q.jk ?_ _ | refine Q.drew ?_))) SY.out SXY.out).mono ?_; rintro e w' ⟨A2, n2, c2, k2, rfl, rfl, hr2, hf2⟩; have HR2 := Lib.hid hr2; have HF2 := Lib.hid hf2; clear hr2 hf2; obtain ⟨nb2, hnb2⟩ : ∃ nb, decide (x + -y < 0) = nb := ⟨_, rfl⟩; rw [hnb2]; have HB2 := Lib.hid hnb2; clear hnb2))
  refine bodyPost_ret (v := .tuple #[.agg #[.bool nb2, .slice A2 n2 c2], .int .i64 0]) (by simp [results, Try.results104, go_sem]) rfl (RetI2.of (A := A2) (n := n2) (c := c2) (by rw [HB2.out]) ?_ ?_ (HF2.out.q (by repeat' (first | exact Q.refl _ | refine Q.alloc ?_ _ | refine Q.jk ?_ _ | refine Q.drew ?_))))
  · repeat' (first | exact Q.refl _ | refine Q.alloc ?_ _ | refine Q.jk ?_ _ | refine Q.drew ?_)
  · have := HR2.out
    simp only [World.alloc_jk, World.jk_jk] at this ⊢
    exact this.swap (by simp) (HF2.out.q (by repeat' (first | exact Q.refl _ | refine Q.alloc ?_ _ | refine Q.jk ?_ _ | refine Q.drew ?_)))
set_option maxHeartbeats 4000000 in
theorem r2comb_z (x j y k : Int) (w : World) (hx0 : -1152921504606846976 ≤ x) (hx1 : x ≤ 1152921504606846976) (hj0 : -1152921504606846976 ≤ j) (hj1 : j ≤ 1152921504606846976) (hy0 : -1152921504606846976 ≤ y) (hy1 : y ≤ 1152921504606846976) (hk0 : -1152921504606846976 ≤ k) (hk1 : k ≤ 1152921504606846976) :
    Calls Try.prog 87 #[.int .i64 x, .int .i64 j, .int .i64 y, .int .i64 k] w (RetZ (x * j - y * k) w) := by
  have b1 := bd_mul hx0 hx1 hj0 hj1
  have b2 := bd_mul hy0 hy1 hk0 hk1
  have ox := Lib.hid (fun w => r1of_any x w (by omega) (by omega))
  have oj := Lib.hid (fun w => r1of_any j w (by omega) (by omega))
  have oy := Lib.hid (fun w => r1of_any y w (by omega) (by omega))
  have ok := Lib.hid (fun w => r1of_any k w (by omega) (by omega))
  have sx := Lib.hid (Sm.b100 (x := x) (by omega) (by omega))
  have sj := Lib.hid (Sm.b100 (x := j) (by omega) (by omega))
  have sy := Lib.hid (Sm.b100 (x := y) (by omega) (by omega))
  have sk := Lib.hid (Sm.b100 (x := k) (by omega) (by omega))
  have sxj := Lib.hid (Sm.sq (x := x) (y := j) (by omega) (by omega) (by omega) (by omega))
  have syk := Lib.hid (Sm.sq (x := y) (y := k) (by omega) (by omega) (by omega) (by omega))
  have sd : Hid (Sm (x * j - y * k)) := Lib.hid (Sm.of (by omega) (by omega))
  clear b1 b2 hx0 hx1 hj0 hj1 hy0 hy1 hk0 hk1
  go_enter Try.func87, Try.ntmps87
  go_wp2_with (first
   | (go_at_call 60; first | ((with_reducible refine (ox.out _).mono ?_); rintro e w' ⟨A1, n1, c1, k1, rfl, rfl, hr1, hf1⟩; have HR1 := Lib.hid hr1; clear hr1 hf1; obtain ⟨nb1, hnb1⟩ : ∃ nb, decide (x < 0) = nb := ⟨_, rfl⟩; rw [hnb1]; have HB1 := Lib.hid hnb1; clear hnb1) | ((with_reducible refine (oj.out _).mono ?_); rintro e w' ⟨A2, n2, c2, k2, rfl, rfl, hr2, hf2⟩; have HR2 := Lib.hid hr2; clear hr2 hf2; obtain ⟨nb2, hnb2⟩ : ∃ nb, decide (j < 0) = nb := ⟨_, rfl⟩; rw [hnb2]; have HB2 := Lib.hid hnb2; clear hnb2) | ((with_reducible refine (oy.out _).mono ?_); rintro e w' ⟨A4, n4, c4, k4, rfl, rfl, hr4, hf4⟩; have HR4 := Lib.hid hr4; clear hr4 hf4; obtain ⟨nb4, hnb4⟩ : ∃ nb, decide (y < 0) = nb := ⟨_, rfl⟩; rw [hnb4]; have HB4 := Lib.hid hnb4; clear hnb4) | ((with_reducible refine (ok.out _).mono ?_); rintro e w' ⟨A5, n5, c5, k5, rfl, rfl, hr5, hf5⟩; have HR5 := Lib.hid hr5; clear hr5 hf5; obtain ⟨nb5, hnb5⟩ : ∃ nb, decide (k < 0) = nb := ⟨_, rfl⟩; rw [hnb5]; have HB5 := Lib.hid hnb5; clear hnb5))
   | (go_at_call 91; first | ((with_reducible refine (r2prod_z _ _ _ _ x _ _ _ _ j _ HB1.out.symm (HR1.out.q (by repeat' (first | exact Q.refl _ | refine Q.alloc ?_ _ | refine Q.jk ?_ _ | refine Q.drew ?_))) sx.out HB2.out.symm (HR2.out.q (by repeat' (first | exact Q.refl _ | refine Q.alloc ?_ _ | refine Q.jk ?_ _ | refine Q.drew ?_))) sj.out sxj.out).mono ?_); rintro e w' ⟨A3, n3, c3, k3, rfl, rfl, hr3, hf3⟩; have HR3 := Lib.hid hr3; clear hr3 hf3; obtain ⟨nb3, hnb3⟩ : ∃ nb, decide (x * j < 0) = nb := ⟨_, rfl⟩; rw [hnb3]; have HB3 := Lib.hid hnb3; clear hnb3) | ((with_reducible refine (r2prod_z _ _ _ _ y _ _ _ _ k _ HB4.out.symm (HR4.out.q (by repeat' (first | exact Q.refl _ | refine Q.alloc ?_ _ | refine Q.jk ?_ _ | refine Q.drew ?_))) sy.out HB5.out.symm (HR5.out.q (by repeat' (first | exact Q.refl _ | refine Q.alloc ?_ _ | refine Q.jk ?_ _ | refine Q.drew ?_))) sk.out syk.out).mono ?_); rintro e w' ⟨A6, n6, c6, k6, rfl, rfl, hr6, hf6⟩; have HR6 := Lib.hid hr6; clear hr6 hf6; obtain ⟨nb6, hnb6⟩ : ∃ nb, decide (y * k < 0) = nb := ⟨_, rfl⟩; rw [hnb6]; have HB6 := Lib.hid hnb6; clear hnb6))
   | (go_at_call 104; refine (r1sub_z _ _ _ _ (x * j) _ _ _ _ (y * k) _ HB3.out.symm (HR3.out.q (by repeat' (first | exact Q.refl _ | refine Q.alloc ?_ _ | refine Q.jk ?_ _ | refine Q.drew ?_))) sxj.out HB6.out.symm (HR6.out.q (by repeat' (first | exact Q.refl _ | refine Q.alloc ?_ _ | refine Q.jk ?_ _ | refine Q.drew ?_))) syk.out sd.out).mono ?_; rintro e w' ⟨A7, n7, c7, k7, rfl, rfl, hr7, hf7⟩; have HR7 := Lib.hid hr7; have HF7 := Lib.hid hf7; clear hr7 hf7; obtain ⟨nb7, hnb7⟩ : ∃ nb, decide (x * j - y * k < 0) = nb := ⟨_, rfl⟩; rw [hnb7]; have HB7 := Lib.hid hnb7; clear hnb7))
  refine bodyPost_ret (v := .agg #[.bool nb7, .slice A7 n7 c7]) (by simp [results, Try.results87, go_sem]) rfl (RetI.of (A := A7) (n := n7) (c := c7) (by rw [HB7.out]) ?_ ?_ (HF7.out.q (by repeat' (first | exact Q.refl _ | refine Q.alloc ?_ _ | refine Q.jk ?_ _ | refine Q.drew ?_))))
  · repeat' (first | exact Q.refl _ | refine Q.alloc ?_ _ | refine Q.jk ?_ _ | refine Q.drew ?_)
  · have := HR7.out.q ((Q.refl _).alloc (.cells #[.bool nb7, .slice A7 n7 c7] 71))
    simp only [World.alloc_jk, World.jk_jk] at this ⊢
    exact this.swap (by simp) (HF7.out.q (by repeat' (first | exact Q.refl _ | refine Q.alloc ?_ _ | refine Q.jk ?_ _ | refine Q.drew ?_)))
end Go.Proofs.Ytkkjifgcjfbcaaa
