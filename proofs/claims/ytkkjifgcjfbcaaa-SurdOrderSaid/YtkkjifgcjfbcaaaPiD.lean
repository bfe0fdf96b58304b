
/- What sum and Sub of package integer, and far and wideSign of package surd return. -/
import Derived.Test.YtkkjifgcjfbcaaaPiC
import Derived.Test.YtkkjifgcjfbcaaaBgG
namespace Go.Sub
/-- A number of a sign and a magnitude. -/
def sv (b : Bool) (X : Nat) : Int := if b then -(X : Int) else X
end Go.Sub
namespace Go.Proofs.Ytkkjifgcjfbcaaa
open Go.RowKit Go.Sub
set_option maxRecDepth 100000 in
set_option maxHeartbeats 4000000 in
theorem isum_z (b : Bool) (A : Option Addr) (n c : Nat) (X : Nat) (b' : Bool) (B : Option Addr) (m d : Nat) (Y : Nat) (w : World) (rx : Rd w A n c (dig X)) (ry : Rd w B m d (dig Y)) (ln : n ≤ 12) (lm : m ≤ 12) (hz : Sm (sv b X + sv b' Y)) :
    Calls Try.prog 117 #[.agg #[.bool b, .slice A n c], .agg #[.bool b', .slice B m d]] w (RetZ2 (sv b X + sv b' Y) w) := by
  have HX := Lib.hid rx
  have HY := Lib.hid ry
  have HL := Lib.hid hz.len
  clear rx ry hz
  cases b <;> cases b'
  · obtain ⟨zz, ezz, hzz⟩ : ∃ zz, zz = sv false X + sv false Y ∧ zz = (X : Int) + Y := ⟨_, rfl, by simp [sv]; try omega⟩
    rw [← ezz] at HL ⊢
    clear ezz
    obtain ⟨nbz, hnbz⟩ : ∃ nb, decide (zz < 0) = nb := ⟨_, rfl⟩
    have HB := Lib.hid hnbz
    have HE : Hid (dig (dval (dig X) + dval (dig Y)).toNat = dig zz.natAbs) := Lib.hid (by rw [dval_dig, dval_dig]; congr 1; omega)
    have HL1' : Hid ((dig (dval (dig X) + dval (dig Y)).toNat).length ≤ 12) := Lib.hid (by rw [HE.out]; exact HL.out)
    have HT : Hid (trL (dig (dval (dig X) + dval (dig Y)).toNat) = dig zz.natAbs) := Lib.hid (by rw [trL_dig, HE.out])
    have HS : Hid ((false && decide (trL (dig (dval (dig X) + dval (dig Y)).toNat) ≠ [])) = nbz) := Lib.hid (by rw [← hnbz, HT.out, Bool.eq_iff_iff]; simp only [Bool.false_and, Bool.false_eq_true, false_iff, decide_eq_true_eq]; omega)
    clear hnbz hzz
    go_enter Try.func117, Try.ntmps117
    go_wp2
    go_region_held3 (fun w' => w'.cell? ⟨w.heap.size, 0, none⟩ = some (.bool false) ∧ w'.cell? ⟨w.heap.size, 1, none⟩ = some (.slice A n c) ∧ w'.cell? ⟨w.heap.size + 1, 0, none⟩ = some (.bool false) ∧ w'.cell? ⟨w.heap.size + 1, 1, none⟩ = some (.slice B m d)) (simp [go_sem])
      (first
       | (go_at_call 124; refine (iaddMag_any _ _ _ (dig X) _ _ _ (dig Y) _ (HX.out.q (by repeat' (first | exact Q.refl _ | refine Q.alloc ?_ _ | refine Q.jk ?_ _ | refine Q.drew ?_))) (HY.out.q (by repeat' (first | exact Q.refl _ | refine Q.alloc ?_ _ | refine Q.jk ?_ _ | refine Q.drew ?_))) (dig_Dg _) (dig_Dg _) (by omega) (by omega)).mono ?_; rintro e w' ⟨A1, n1, c1, k1, rfl, rfl, hr1, hf1⟩; have HR1 := Lib.hid hr1; have HF1 := Lib.hid hf1; have HL1 : n1 ≤ 12 := (by rw [← hr1.1]; exact HL1'.out); clear hr1 hf1)
       | (go_at_call 113; refine (iresult_any _ _ _ _ _ _ HR1.out (dig_Dg _) (by omega) (by rw [HT.out]; exact HL.out)).mono ?_; rintro e w' ⟨A2, n2, k2, rfl, rfl, hr2, hf2⟩; have HR2 := Lib.hid hr2; have HF2 := Lib.hid (hf2 _ HF1.out); clear hr2 hf2; rw [HS.out]))
    rename_i hHeld
    clear hHeld
    go_wp2
    refine bodyPost_ret (v := .tuple #[.agg #[.bool nbz, .slice A2 n2 n2], .int .i64 0]) (by simp [results, Try.results117, go_sem]) rfl (RetI2.of (A := A2) (n := n2) (c := n2) (by rw [HB.out]) ?_ ?_ (HF2.out.q (by repeat' (first | exact Q.refl _ | refine Q.alloc ?_ _ | refine Q.jk ?_ _ | refine Q.drew ?_))))
    · repeat' (first | exact Q.refl _ | refine Q.alloc ?_ _ | refine Q.jk ?_ _ | refine Q.drew ?_)
    · have := HR2.out
      rw [HT.out] at this
      simp only [World.jk_jk] at this ⊢
      exact this.swap (by simp) (HF2.out.q (by repeat' (first | exact Q.refl _ | refine Q.alloc ?_ _ | refine Q.jk ?_ _ | refine Q.drew ?_)))
  · by_cases hcmp : Y ≤ X
    · obtain ⟨zz, ezz, hzz⟩ : ∃ zz, zz = sv false X + sv true Y ∧ zz = (X : Int) - Y := ⟨_, rfl, by simp [sv]; try omega⟩
      rw [← ezz] at HL ⊢
      clear ezz
      obtain ⟨nbz, hnbz⟩ : ∃ nb, decide (zz < 0) = nb := ⟨_, rfl⟩
      have HB := Lib.hid hnbz
      have HE : Hid (dig (dval (dig X) - dval (dig Y)).toNat = dig zz.natAbs) := Lib.hid (by rw [dval_dig, dval_dig]; congr 1; omega)
      have HL1' : Hid ((dig (dval (dig X) - dval (dig Y)).toNat).length ≤ 12) := Lib.hid (by rw [HE.out]; exact HL.out)
      have HT : Hid (trL (dig (dval (dig X) - dval (dig Y)).toNat) = dig zz.natAbs) := Lib.hid (by rw [trL_dig, HE.out])
      have HS : Hid ((false && decide (trL (dig (dval (dig X) - dval (dig Y)).toNat) ≠ [])) = nbz) := Lib.hid (by rw [← hnbz, HT.out, Bool.eq_iff_iff]; simp only [Bool.false_and, Bool.false_eq_true, false_iff, decide_eq_true_eq]; omega)
      obtain ⟨cv, ecv, hcv⟩ : ∃ cv, cmpI (dval (dig X)) (dval (dig Y)) = cv ∧ 0 ≤ cv := ⟨_, rfl, by rw [dval_dig, dval_dig]; unfold cmpI; repeat' split <;> omega⟩
      have EC := Lib.hid ecv
      have ED : Hid (dval (dig Y) ≤ dval (dig X)) := Lib.hid (by rw [dval_dig, dval_dig]; omega)
      clear ecv hcmp hnbz hzz
      go_enter Try.func117, Try.ntmps117
      go_wp2_with (go_at_call 116; refine (icmpMag_any _ _ _ (dig X) _ _ _ (dig Y) _ (HX.out.q (by repeat' (first | exact Q.refl _ | refine Q.alloc ?_ _ | refine Q.jk ?_ _ | refine Q.drew ?_))) (HY.out.q (by repeat' (first | exact Q.refl _ | refine Q.alloc ?_ _ | refine Q.jk ?_ _ | refine Q.drew ?_))) (dig_Dg _) (dig_Dg _) (dig_Tr _) (dig_Tr _) (by omega) (by omega)).mono ?_; rintro e w' ⟨rfl, kj, rfl⟩; rw [EC.out])
      go_region_held3 (fun w' => w'.cell? ⟨w.heap.size, 0, none⟩ = some (.bool false) ∧ w'.cell? ⟨w.heap.size, 1, none⟩ = some (.slice A n c) ∧ w'.cell? ⟨w.heap.size + 1, 0, none⟩ = some (.bool true) ∧ w'.cell? ⟨w.heap.size + 1, 1, none⟩ = some (.slice B m d)) (simp [go_sem])
        (first
         | (go_at_call 125; refine (isubMag_any _ _ _ (dig X) _ _ _ (dig Y) _ (HX.out.q (by repeat' (first | exact Q.refl _ | refine Q.alloc ?_ _ | refine Q.jk ?_ _ | refine Q.drew ?_))) (HY.out.q (by repeat' (first | exact Q.refl _ | refine Q.alloc ?_ _ | refine Q.jk ?_ _ | refine Q.drew ?_))) (dig_Dg _) (dig_Dg _) (dig_Tr _) ED.out (by omega)).mono ?_; rintro e w' ⟨A1, n1, c1, k1, rfl, rfl, hr1, hf1⟩; have HR1 := Lib.hid hr1; have HF1 := Lib.hid hf1; have HL1 : n1 ≤ 12 := (by rw [← hr1.1]; exact HL1'.out); clear hr1 hf1)
         | (go_at_call 113; refine (iresult_any _ _ _ _ _ _ HR1.out (dig_Dg _) (by omega) (by rw [HT.out]; exact HL.out)).mono ?_; rintro e w' ⟨A2, n2, k2, rfl, rfl, hr2, hf2⟩; have HR2 := Lib.hid hr2; have HF2 := Lib.hid (hf2 _ HF1.out); clear hr2 hf2; rw [HS.out]))
      rename_i hHeld
      clear hHeld
      go_wp2
      refine bodyPost_ret (v := .tuple #[.agg #[.bool nbz, .slice A2 n2 n2], .int .i64 0]) (by simp [results, Try.results117, go_sem]) rfl (RetI2.of (A := A2) (n := n2) (c := n2) (by rw [HB.out]) ?_ ?_ (HF2.out.q (by repeat' (first | exact Q.refl _ | refine Q.alloc ?_ _ | refine Q.jk ?_ _ | refine Q.drew ?_))))
      · repeat' (first | exact Q.refl _ | refine Q.alloc ?_ _ | refine Q.jk ?_ _ | refine Q.drew ?_)
      · have := HR2.out
        rw [HT.out] at this
        simp only [World.jk_jk] at this ⊢
        exact this.swap (by simp) (HF2.out.q (by repeat' (first | exact Q.refl _ | refine Q.alloc ?_ _ | refine Q.jk ?_ _ | refine Q.drew ?_)))
    · obtain ⟨zz, ezz, hzz⟩ : ∃ zz, zz = sv false X + sv true Y ∧ zz = (X : Int) - Y := ⟨_, rfl, by simp [sv]; try omega⟩
      rw [← ezz] at HL ⊢
      clear ezz
      obtain ⟨nbz, hnbz⟩ : ∃ nb, decide (zz < 0) = nb := ⟨_, rfl⟩
      have HB := Lib.hid hnbz
      have HE : Hid (dig (dval (dig Y) - dval (dig X)).toNat = dig zz.natAbs) := Lib.hid (by rw [dval_dig, dval_dig]; congr 1; omega)
      have HL1' : Hid ((dig (dval (dig Y) - dval (dig X)).toNat).length ≤ 12) := Lib.hid (by rw [HE.out]; exact HL.out)
      have HT : Hid (trL (dig (dval (dig Y) - dval (dig X)).toNat) = dig zz.natAbs) := Lib.hid (by rw [trL_dig, HE.out])
      have HS : Hid ((true && decide (trL (dig (dval (dig Y) - dval (dig X)).toNat) ≠ [])) = nbz) := Lib.hid (by rw [← hnbz, HT.out, Bool.eq_iff_iff]; simp only [Bool.true_and, decide_eq_true_eq, ne_nil_iff]; omega)
      obtain ⟨cv, ecv, hcv⟩ : ∃ cv, cmpI (dval (dig X)) (dval (dig Y)) = cv ∧ cv < 0 := ⟨_, rfl, by rw [dval_dig, dval_dig]; unfold cmpI; repeat' split <;> omega⟩
      have EC := Lib.hid ecv
      have ED : Hid (dval (dig X) ≤ dval (dig Y)) := Lib.hid (by rw [dval_dig, dval_dig]; omega)
      clear ecv hcmp hnbz hzz
      go_enter Try.func117, Try.ntmps117
      go_wp2_with (go_at_call 116; refine (icmpMag_any _ _ _ (dig X) _ _ _ (dig Y) _ (HX.out.q (by repeat' (first | exact Q.refl _ | refine Q.alloc ?_ _ | refine Q.jk ?_ _ | refine Q.drew ?_))) (HY.out.q (by repeat' (first | exact Q.refl _ | refine Q.alloc ?_ _ | refine Q.jk ?_ _ | refine Q.drew ?_))) (dig_Dg _) (dig_Dg _) (dig_Tr _) (dig_Tr _) (by omega) (by omega)).mono ?_; rintro e w' ⟨rfl, kj, rfl⟩; rw [EC.out])
      go_region_held3 (fun w' => w'.cell? ⟨w.heap.size, 0, none⟩ = some (.bool false) ∧ w'.cell? ⟨w.heap.size, 1, none⟩ = some (.slice A n c) ∧ w'.cell? ⟨w.heap.size + 1, 0, none⟩ = some (.bool true) ∧ w'.cell? ⟨w.heap.size + 1, 1, none⟩ = some (.slice B m d)) (simp [go_sem])
        (first
         | (go_at_call 125; refine (isubMag_any _ _ _ (dig Y) _ _ _ (dig X) _ (HY.out.q (by repeat' (first | exact Q.refl _ | refine Q.alloc ?_ _ | refine Q.jk ?_ _ | refine Q.drew ?_))) (HX.out.q (by repeat' (first | exact Q.refl _ | refine Q.alloc ?_ _ | refine Q.jk ?_ _ | refine Q.drew ?_))) (dig_Dg _) (dig_Dg _) (dig_Tr _) ED.out (by omega)).mono ?_; rintro e w' ⟨A1, n1, c1, k1, rfl, rfl, hr1, hf1⟩; have HR1 := Lib.hid hr1; have HF1 := Lib.hid hf1; have HL1 : n1 ≤ 12 := (by rw [← hr1.1]; exact HL1'.out); clear hr1 hf1)
         | (go_at_call 113; refine (iresult_any _ _ _ _ _ _ HR1.out (dig_Dg _) (by omega) (by rw [HT.out]; exact HL.out)).mono ?_; rintro e w' ⟨A2, n2, k2, rfl, rfl, hr2, hf2⟩; have HR2 := Lib.hid hr2; have HF2 := Lib.hid (hf2 _ HF1.out); clear hr2 hf2; rw [HS.out]))
      rename_i hHeld
      clear hHeld
      go_wp2
      refine bodyPost_ret (v := .tuple #[.agg #[.bool nbz, .slice A2 n2 n2], .int .i64 0]) (by simp [results, Try.results117, go_sem]) rfl (RetI2.of (A := A2) (n := n2) (c := n2) (by rw [HB.out]) ?_ ?_ (HF2.out.q (by repeat' (first | exact Q.refl _ | refine Q.alloc ?_ _ | refine Q.jk ?_ _ | refine Q.drew ?_))))
      · repeat' (first | exact Q.refl _ | refine Q.alloc ?_ _ | refine Q.jk ?_ _ | refine Q.drew ?_)
      · have := HR2.out
        rw [HT.out] at this
        simp only [World.jk_jk] at this ⊢
        exact this.swap (by simp) (HF2.out.q (by repeat' (first | exact Q.refl _ | refine Q.alloc ?_ _ | refine Q.jk ?_ _ | refine Q.drew ?_)))
  · by_cases hcmp : Y ≤ X
    · obtain ⟨zz, ezz, hzz⟩ : ∃ zz, zz = sv true X + sv false Y ∧ zz = (Y : Int) - X := ⟨_, rfl, by simp [sv]; try omega⟩
      rw [← ezz] at HL ⊢
      clear ezz
      obtain ⟨nbz, hnbz⟩ : ∃ nb, decide (zz < 0) = nb := ⟨_, rfl⟩
      have HB := Lib.hid hnbz
      have HE : Hid (dig (dval (dig X) - dval (dig Y)).toNat = dig zz.natAbs) := Lib.hid (by rw [dval_dig, dval_dig]; congr 1; omega)
      have HL1' : Hid ((dig (dval (dig X) - dval (dig Y)).toNat).length ≤ 12) := Lib.hid (by rw [HE.out]; exact HL.out)
      have HT : Hid (trL (dig (dval (dig X) - dval (dig Y)).toNat) = dig zz.natAbs) := Lib.hid (by rw [trL_dig, HE.out])
      have HS : Hid ((true && decide (trL (dig (dval (dig X) - dval (dig Y)).toNat) ≠ [])) = nbz) := Lib.hid (by rw [← hnbz, HT.out, Bool.eq_iff_iff]; simp only [Bool.true_and, decide_eq_true_eq, ne_nil_iff]; omega)
      obtain ⟨cv, ecv, hcv⟩ : ∃ cv, cmpI (dval (dig X)) (dval (dig Y)) = cv ∧ 0 ≤ cv := ⟨_, rfl, by rw [dval_dig, dval_dig]; unfold cmpI; repeat' split <;> omega⟩
      have EC := Lib.hid ecv
      have ED : Hid (dval (dig Y) ≤ dval (dig X)) := Lib.hid (by rw [dval_dig, dval_dig]; omega)
      clear ecv hcmp hnbz hzz
      go_enter Try.func117, Try.ntmps117
      go_wp2_with (go_at_call 116; refine (icmpMag_any _ _ _ (dig X) _ _ _ (dig Y) _ (HX.out.q (by repeat' (first | exact Q.refl _ | refine Q.alloc ?_ _ | refine Q.jk ?_ _ | refine Q.drew ?_))) (HY.out.q (by repeat' (first | exact Q.refl _ | refine Q.alloc ?_ _ | refine Q.jk ?_ _ | refine Q.drew ?_))) (dig_Dg _) (dig_Dg _) (dig_Tr _) (dig_Tr _) (by omega) (by omega)).mono ?_; rintro e w' ⟨rfl, kj, rfl⟩; rw [EC.out])
      go_region_held3 (fun w' => w'.cell? ⟨w.heap.size, 0, none⟩ = some (.bool true) ∧ w'.cell? ⟨w.heap.size, 1, none⟩ = some (.slice A n c) ∧ w'.cell? ⟨w.heap.size + 1, 0, none⟩ = some (.bool false) ∧ w'.cell? ⟨w.heap.size + 1, 1, none⟩ = some (.slice B m d)) (simp [go_sem])
        (first
         | (go_at_call 125; refine (isubMag_any _ _ _ (dig X) _ _ _ (dig Y) _ (HX.out.q (by repeat' (first | exact Q.refl _ | refine Q.alloc ?_ _ | refine Q.jk ?_ _ | refine Q.drew ?_))) (HY.out.q (by repeat' (first | exact Q.refl _ | refine Q.alloc ?_ _ | refine Q.jk ?_ _ | refine Q.drew ?_))) (dig_Dg _) (dig_Dg _) (dig_Tr _) ED.out (by omega)).mono ?_; rintro e w' ⟨A1, n1, c1, k1, rfl, rfl, hr1, hf1⟩; have HR1 := Lib.hid hr1; have HF1 := Lib.hid hf1; have HL1 : n1 ≤ 12 := (by rw [← hr1.1]; exact HL1'.out); clear hr1 hf1)
         | (go_at_call 113; refine (iresult_any _ _ _ _ _ _ HR1.out (dig_Dg _) (by omega) (by rw [HT.out]; exact HL.out)).mono ?_; rintro e w' ⟨A2, n2, k2, rfl, rfl, hr2, hf2⟩; have HR2 := Lib.hid hr2; have HF2 := Lib.hid (hf2 _ HF1.out); clear hr2 hf2; rw [HS.out]))
      rename_i hHeld
      clear hHeld
      go_wp2
      refine bodyPost_ret (v := .tuple #[.agg #[.bool nbz, .slice A2 n2 n2], .int .i64 0]) (by simp [results, Try.results117, go_sem]) rfl (RetI2.of (A := A2) (n := n2) (c := n2) (by rw [HB.out]) ?_ ?_ (HF2.out.q (by repeat' (first | exact Q.refl _ | refine Q.alloc ?_ _ | refine Q.jk ?_ _ | refine Q.drew ?_))))
      · repeat' (first | exact Q.refl _ | refine Q.alloc ?_ _ | refine Q.jk ?_ _ | refine Q.drew ?_)
      · have := HR2.out
        rw [HT.out] at this
        simp only [World.jk_jk] at this ⊢
        exact this.swap (by simp) (HF2.out.q (by repeat' (first | exact Q.refl _ | refine Q.alloc ?_ _ | refine Q.jk ?_ _ | refine Q.drew ?_)))
    · obtain ⟨zz, ezz, hzz⟩ : ∃ zz, zz = sv true X + sv false Y ∧ zz = (Y : Int) - X := ⟨_, rfl, by simp [sv]; try omega⟩
      rw [← ezz] at HL ⊢
      clear ezz
      obtain ⟨nbz, hnbz⟩ : ∃ nb, decide (zz < 0) = nb := ⟨_, rfl⟩
      have HB := Lib.hid hnbz
      have HE : Hid (dig (dval (dig Y) - dval (dig X)).toNat = dig zz.natAbs) := Lib.hid (by rw [dval_dig, dval_dig]; congr 1; omega)
      have HL1' : Hid ((dig (dval (dig Y) - dval (dig X)).toNat).length ≤ 12) := Lib.hid (by rw [HE.out]; exact HL.out)
      have HT : Hid (trL (dig (dval (dig Y) - dval (dig X)).toNat) = dig zz.natAbs) := Lib.hid (by rw [trL_dig, HE.out])
      have HS : Hid ((false && decide (trL (dig (dval (dig Y) - dval (dig X)).toNat) ≠ [])) = nbz) := Lib.hid (by rw [← hnbz, HT.out, Bool.eq_iff_iff]; simp only [Bool.false_and, Bool.false_eq_true, false_iff, decide_eq_true_eq]; omega)
      obtain ⟨cv, ecv, hcv⟩ : ∃ cv, cmpI (dval (dig X)) (dval (dig Y)) = cv ∧ cv < 0 := ⟨_, rfl, by rw [dval_dig, dval_dig]; unfold cmpI; repeat' split <;> omega⟩
      have EC := Lib.hid ecv
      have ED : Hid (dval (dig X) ≤ dval (dig Y)) := Lib.hid (by rw [dval_dig, dval_dig]; omega)
      clear ecv hcmp hnbz hzz
      go_enter Try.func117, Try.ntmps117
      go_wp2_with (go_at_call 116; refine (icmpMag_any _ _ _ (dig X) _ _ _ (dig Y) _ (HX.out.q (by repeat' (first | exact Q.refl _ | refine Q.alloc ?_ _ | refine Q.jk ?_ _ | refine Q.drew ?_))) (HY.out.q (by repeat' (first | exact Q.refl _ | refine Q.alloc ?_ _ | refine Q.jk ?_ _ | refine Q.drew ?_))) (dig_Dg _) (dig_Dg _) (dig_Tr _) (dig_Tr _) (by omega) (by omega)).mono ?_; rintro e w' ⟨rfl, kj, rfl⟩; rw [EC.out])
      go_region_held3 (fun w' => w'.cell? ⟨w.heap.size, 0, none⟩ = some (.bool true) ∧ w'.cell? ⟨w.heap.size, 1, none⟩ = some (.slice A n c) ∧ w'.cell? ⟨w.heap.size + 1, 0, none⟩ = some (.bool false) ∧ w'.cell? ⟨w.heap.size + 1, 1, none⟩ = some (.slice B m d)) (simp [go_sem])
        (first
         | (go_at_call 125; refine (isubMag_any _ _ _ (dig Y) _ _ _ (dig X) _ (HY.out.q (by repeat' (first | exact Q.refl _ | refine Q.alloc ?_ _ | refine Q.jk ?_ _ | refine Q.drew ?_))) (HX.out.q (by repeat' (first | exact Q.refl _ | refine Q.alloc ?_ _ | refine Q.jk ?_ _ | refine Q.drew ?_))) (dig_Dg _) (dig_Dg _) (dig_Tr _) ED.out (by omega)).mono ?_; rintro e w' ⟨A1, n1, c1, k1, rfl, rfl, hr1, hf1⟩; have HR1 := Lib.hid hr1; have HF1 := Lib.hid hf1; have HL1 : n1 ≤ 12 := (by rw [← hr1.1]; exact HL1'.out); clear hr1 hf1)
         | (go_at_call 113; refine (iresult_any _ _ _ _ _ _ HR1.out (dig_Dg _) (by omega) (by rw [HT.out]; exact HL.out)).mono ?_; rintro e w' ⟨A2, n2, k2, rfl, rfl, hr2, hf2⟩; have HR2 := Lib.hid hr2; have HF2 := Lib.hid (hf2 _ HF1.out); clear hr2 hf2; rw [HS.out]))
      rename_i hHeld
      clear hHeld
      go_wp2
      refine bodyPost_ret (v := .tuple #[.agg #[.bool nbz, .slice A2 n2 n2], .int .i64 0]) (by simp [results, Try.results117, go_sem]) rfl (RetI2.of (A := A2) (n := n2) (c := n2) (by rw [HB.out]) ?_ ?_ (HF2.out.q (by repeat' (first | exact Q.refl _ | refine Q.alloc ?_ _ | refine Q.jk ?_ _ | refine Q.drew ?_))))
      · repeat' (first | exact Q.refl _ | refine Q.alloc ?_ _ | refine Q.jk ?_ _ | refine Q.drew ?_)
      · have := HR2.out
        rw [HT.out] at this
        simp only [World.jk_jk] at this ⊢
        exact this.swap (by simp) (HF2.out.q (by repeat' (first | exact Q.refl _ | refine Q.alloc ?_ _ | refine Q.jk ?_ _ | refine Q.drew ?_)))
  · obtain ⟨zz, ezz, hzz⟩ : ∃ zz, zz = sv true X + sv true Y ∧ zz = -((X : Int) + Y) := ⟨_, rfl, by simp [sv]; try omega⟩
    rw [← ezz] at HL ⊢
    clear ezz
    obtain ⟨nbz, hnbz⟩ : ∃ nb, decide (zz < 0) = nb := ⟨_, rfl⟩
    have HB := Lib.hid hnbz
    have HE : Hid (dig (dval (dig X) + dval (dig Y)).toNat = dig zz.natAbs) := Lib.hid (by rw [dval_dig, dval_dig]; congr 1; omega)
    have HL1' : Hid ((dig (dval (dig X) + dval (dig Y)).toNat).length ≤ 12) := Lib.hid (by rw [HE.out]; exact HL.out)
    have HT : Hid (trL (dig (dval (dig X) + dval (dig Y)).toNat) = dig zz.natAbs) := Lib.hid (by rw [trL_dig, HE.out])
    have HS : Hid ((true && decide (trL (dig (dval (dig X) + dval (dig Y)).toNat) ≠ [])) = nbz) := Lib.hid (by rw [← hnbz, HT.out, Bool.eq_iff_iff]; simp only [Bool.true_and, decide_eq_true_eq, ne_nil_iff]; omega)
    clear hnbz hzz
    go_enter Try.func117, Try.ntmps117
    go_wp2
    go_region_held3 (fun w' => w'.cell? ⟨w.heap.size, 0, none⟩ = some (.bool true) ∧ w'.cell? ⟨w.heap.size, 1, none⟩ = some (.slice A n c) ∧ w'.cell? ⟨w.heap.size + 1, 0, none⟩ = some (.bool true) ∧ w'.cell? ⟨w.heap.size + 1, 1, none⟩ = some (.slice B m d)) (simp [go_sem])
      (first
       | (go_at_call 124; refine (iaddMag_any _ _ _ (dig X) _ _ _ (dig Y) _ (HX.out.q (by repeat' (first | exact Q.refl _ | refine Q.alloc ?_ _ | refine Q.jk ?_ _ | refine Q.drew ?_))) (HY.out.q (by repeat' (first | exact Q.refl _ | refine Q.alloc ?_ _ | refine Q.jk ?_ _ | refine Q.drew ?_))) (dig_Dg _) (dig_Dg _) (by omega) (by omega)).mono ?_; rintro e w' ⟨A1, n1, c1, k1, rfl, rfl, hr1, hf1⟩; have HR1 := Lib.hid hr1; have HF1 := Lib.hid hf1; have HL1 : n1 ≤ 12 := (by rw [← hr1.1]; exact HL1'.out); clear hr1 hf1)
       | (go_at_call 113; refine (iresult_any _ _ _ _ _ _ HR1.out (dig_Dg _) (by omega) (by rw [HT.out]; exact HL.out)).mono ?_; rintro e w' ⟨A2, n2, k2, rfl, rfl, hr2, hf2⟩; have HR2 := Lib.hid hr2; have HF2 := Lib.hid (hf2 _ HF1.out); clear hr2 hf2; rw [HS.out]))
    rename_i hHeld
    clear hHeld
    go_wp2
    refine bodyPost_ret (v := .tuple #[.agg #[.bool nbz, .slice A2 n2 n2], .int .i64 0]) (by simp [results, Try.results117, go_sem]) rfl (RetI2.of (A := A2) (n := n2) (c := n2) (by rw [HB.out]) ?_ ?_ (HF2.out.q (by repeat' (first | exact Q.refl _ | refine Q.alloc ?_ _ | refine Q.jk ?_ _ | refine Q.drew ?_))))
    · repeat' (first | exact Q.refl _ | refine Q.alloc ?_ _ | refine Q.jk ?_ _ | refine Q.drew ?_)
    · have := HR2.out
      rw [HT.out] at this
      simp only [World.jk_jk] at this ⊢
      exact this.swap (by simp) (HF2.out.q (by repeat' (first | exact Q.refl _ | refine Q.alloc ?_ _ | refine Q.jk ?_ _ | refine Q.drew ?_)))
end Go.Proofs.Ytkkjifgcjfbcaaa
