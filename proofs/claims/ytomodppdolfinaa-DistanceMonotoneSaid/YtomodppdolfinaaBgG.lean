
/- What Neg, Add and Sub of package substationref01, and combined and Versus of substationref02 return. -/
import Derived.Test.YtomodppdolfinaaBgF
import Derived.Test.YtomodppdolfinaaBgE
import Derived.Test.YtomodppdolfinaaVs
namespace Go
theorem World.alloc_jk (W : World) (k : Jk) (o : Obj) : (W.jk k).alloc o = W.jk ⟨k.os.push o, k.n⟩ := by
  unfold World.jk World.alloc
  congr 1
  simp
theorem Rd.swap5 {W W' : World} {k k2 k3 k4 k5 : Jk} {A : Option Addr} {n c : Nat} {l : List Int} (hs : W.heap.size = W'.heap.size) (h : Rd (((((W.jk k).jk k2).jk k3).jk k4).jk k5) A n c l) (hf : Fr W A) : Rd (((((W'.jk k).jk k2).jk k3).jk k4).jk k5) A n c l := by
  rw [World.jk_jk] at *
  exact h.swap4 hs hf
end Go
namespace Go.Sub
theorem neg_sgn {y : Int} (l : List Int) (hl : l = dig y.natAbs) : ((!(decide (y < 0))) && decide (l ≠ [])) = decide (-y < 0) := by
  have e : (l ≠ []) ↔ y ≠ 0 := by rw [hl, Ne, dig_nil]; omega
  rw [Bool.eq_iff_iff]
  simp only [Bool.and_eq_true, Bool.not_eq_true', decide_eq_false_iff_not, decide_eq_true_eq, e]
  omega
theorem ne_nil_iff {n : Nat} : dig n ≠ [] ↔ n ≠ 0 := by rw [Ne, dig_nil]
/-- What Versus returns. -/
def versR (x : Su) (j : Int) (y : Su) (k : Int) : Int × Int := if wi4 1152921504606846976 x.a x.b y.a y.b && wi2 1073741824 j k then (versS x j y k, 0) else (0, 1)
end Go.Sub
namespace Go.Proofs.Ytomodppdolfinaa
open Go.RowKit Go.Sub
set_option maxHeartbeats 2000000 in
theorem r1neg_z (b : Bool) (A : Option Addr) (n c : Nat) (y : Int) (w : World) (bx : b = decide (y < 0)) (rx : Rd w A n c (dig y.natAbs)) (hy : Sm y) :
    Calls Try.prog 131 #[.agg #[.bool b, .slice A n c]] w (RetZ2 (-y) w) := by
  have ln : n ≤ 12 := by rw [← rx.1]; exact hy.len
  have HV := Lib.hid (fun w' (hq : Q w w') => r1valid_z b A n c y w' bx (rx.q hq) hy)
  have HX := Lib.hid rx
  have HT : Hid (trL (dig y.natAbs) = dig (-y).natAbs) := Lib.hid (by rw [trL_dig, Int.natAbs_neg])
  have HS : Hid (((!b) && decide (trL (dig y.natAbs) ≠ [])) = decide (-y < 0)) := Lib.hid (by rw [bx]; exact neg_sgn _ (trL_dig _))
  clear rx bx hy
  go_enter Try.func131, Try.ntmps131
  go_wp2_with (first | (go_at_call 116; (with_reducible refine (HV.out _ (by repeat' (first | exact Q.refl _ | refine Q.alloc ?_ _ | refine Q.jk ?_ _ | refine Q.drew ?_))).mono ?_); rintro e w' ⟨rfl, kj, rfl⟩) | (go_at_call 107; refine (r1made_any _ _ _ _ _ _ (HX.out.q (by repeat' (first | exact Q.refl _ | refine Q.alloc ?_ _ | refine Q.jk ?_ _ | refine Q.drew ?_))) (dig_Dg _) (by omega)).mono ?_; rintro e w' ⟨A2, n2, c2, k2, rfl, rfl, hr2, hf2⟩; have HR2 := Lib.hid hr2; have HF2 := Lib.hid hf2; clear hr2 hf2; rw [HS.out]))
  refine bodyPost_ret (v := .tuple #[.agg #[.bool (decide (-y < 0)), .slice A2 n2 c2], .int .i64 0]) (by simp [results, Try.results131, go_sem]) rfl (RetI2.of (A := A2) (n := n2) (c := c2) rfl ?_ ?_ (HF2.out.q (by repeat' (first | exact Q.refl _ | refine Q.alloc ?_ _ | refine Q.jk ?_ _ | refine Q.drew ?_))))
  · repeat' (first | exact Q.refl _ | refine Q.alloc ?_ _ | refine Q.jk ?_ _ | refine Q.drew ?_)
  · have := HR2.out
    rw [HT.out] at this
    exact this.swap2 (by simp) (HF2.out.q (by repeat' (first | exact Q.refl _ | refine Q.alloc ?_ _ | refine Q.jk ?_ _ | refine Q.drew ?_)))
set_option maxHeartbeats 4000000 in
theorem r1add_z (b : Bool) (A : Option Addr) (n c : Nat) (x : Int) (b' : Bool) (B : Option Addr) (m d : Nat) (y : Int) (w : World) (bx : b = decide (x < 0)) (rx : Rd w A n c (dig x.natAbs)) (hx : Sm x) (by' : b' = decide (y < 0)) (ry : Rd w B m d (dig y.natAbs)) (hy : Sm y) (hxy : Sm (x + y)) :
    Calls Try.prog 132 #[.agg #[.bool b, .slice A n c], .agg #[.bool b', .slice B m d]] w (RetZ2 (x + y) w) := by
  have ln : n ≤ 12 := by rw [← rx.1]; exact hx.len
  have lm : m ≤ 12 := by rw [← ry.1]; exact hy.len
  have HX := Lib.hid rx
  have HY := Lib.hid ry
  have HVX := Lib.hid (fun w' (hq : Q w w') => r1valid_z b A n c x w' bx (rx.q hq) hx)
  have HVY := Lib.hid (fun w' (hq : Q w w') => r1valid_z b' B m d y w' by' (ry.q hq) hy)
  have HL := Lib.hid hxy.len
  clear rx ry hx hy hxy
  cases b <;> cases b'
  · have hx0 : 0 ≤ x := by simpa using bx
    have hy0 : 0 ≤ y := by simpa using by'
    clear bx by'
    go_enter Try.func132, Try.ntmps132
    go_wp2_with (go_at_call 116; first | ((with_reducible refine (HVX.out _ (by repeat' (first | exact Q.refl _ | refine Q.alloc ?_ _ | refine Q.jk ?_ _ | refine Q.drew ?_))).mono ?_); rintro e w' ⟨rfl, kj, rfl⟩) | ((with_reducible refine (HVY.out _ (by repeat' (first | exact Q.refl _ | refine Q.alloc ?_ _ | refine Q.jk ?_ _ | refine Q.drew ?_))).mono ?_); rintro e w' ⟨rfl, kj, rfl⟩))
    go_region_held3 (fun w' => w'.cell? ⟨w.heap.size, 0, none⟩ = some (.bool false) ∧ w'.cell? ⟨w.heap.size, 1, none⟩ = some (.slice A n c) ∧ w'.cell? ⟨w.heap.size + 1, 0, none⟩ = some (.bool false) ∧ w'.cell? ⟨w.heap.size + 1, 1, none⟩ = some (.slice B m d)) (simp [go_sem])
      (first
       | (go_at_call 136; refine (r1plus_any _ _ _ (dig x.natAbs) _ _ _ (dig y.natAbs) _ (HX.out.q (by repeat' (first | exact Q.refl _ | refine Q.alloc ?_ _ | refine Q.jk ?_ _ | refine Q.drew ?_))) (HY.out.q (by repeat' (first | exact Q.refl _ | refine Q.alloc ?_ _ | refine Q.jk ?_ _ | refine Q.drew ?_))) (dig_Dg _) (dig_Dg _) (by omega) (by omega)).mono ?_; rintro e w' ⟨l1, A1, n1, c1, k1, rfl, rfl, hr1, hf1, hd1, hv1, hn1⟩; have HR1 := Lib.hid hr1; have HF1 := Lib.hid hf1; have HD1 := Lib.hid hd1; have HT : Hid (trL l1 = dig (x + y).natAbs) := Lib.hid (by unfold trL; rw [hv1, dval_dg, dval_dg]; congr 1; omega); have HS : Hid ((false && decide (trL l1 ≠ [])) = decide (x + y < 0)) := Lib.hid (by rw [HT.out, Bool.eq_iff_iff]; simp only [Bool.false_and, Bool.false_eq_true, false_iff, decide_eq_true_eq]; omega); clear hr1 hf1 hd1 hv1)
       | (go_at_call 107; refine (r1made_any _ _ _ _ _ _ HR1.out HD1.out (by omega)).mono ?_; rintro e w' ⟨A2, n2, c2, k2, rfl, rfl, hr2, hf2⟩; have HR2 := Lib.hid hr2; have HF2 := Lib.hid hf2; have HL2 : n2 ≤ 12 := (by rw [← hr2.1, HT.out]; exact HL.out); clear hr2 hf2; rw [HS.out])
       | (go_at_call 129; refine (r1result_any _ _ _ _ _ (by omega)).mono ?_; rintro e w' ⟨rfl, kj, rfl⟩))
    rename_i hHeld
    clear hHeld
    go_wp2
    refine bodyPost_ret (v := .tuple #[.agg #[.bool (decide (x + y < 0)), .slice A2 n2 c2], .int .i64 0]) (by simp [results, Try.results132, go_sem]) rfl (RetI2.of (A := A2) (n := n2) (c := c2) rfl ?_ ?_ (HF2.out.q (by repeat' (first | exact Q.refl _ | refine Q.alloc ?_ _ | refine Q.jk ?_ _ | refine Q.drew ?_))))
    · repeat' (first | exact Q.refl _ | refine Q.alloc ?_ _ | refine Q.jk ?_ _ | refine Q.drew ?_)
    · have := HR2.out
      rw [HT.out] at this
      exact (this.swap4 (by simp) (HF2.out.q (by repeat' (first | exact Q.refl _ | refine Q.alloc ?_ _ | refine Q.jk ?_ _ | refine Q.drew ?_)))).q ((Q.refl _).jk _)
  · have hx0 : 0 ≤ x := by simpa using bx
    have hy0 : y < 0 := by simpa using by'
    clear bx by'
    by_cases hcmp : y.natAbs ≤ x.natAbs
    · obtain ⟨cv, ecv, hcv⟩ : ∃ cv, cmpI (dval (dig x.natAbs)) (dval (dig y.natAbs)) = cv ∧ 0 ≤ cv := ⟨_, rfl, by rw [dval_dg, dval_dg]; unfold cmpI; repeat' split <;> omega⟩
      have EC := Lib.hid ecv
      have ED : Hid (dval (dig y.natAbs) ≤ dval (dig x.natAbs)) := Lib.hid (by rw [dval_dg, dval_dg]; omega)
      have HE : Hid (dig (dval (dig x.natAbs) - dval (dig y.natAbs)).toNat = dig (x + y).natAbs) := Lib.hid (by rw [dval_dg, dval_dg]; congr 1; omega)
      have HL1' : Hid ((dig (dval (dig x.natAbs) - dval (dig y.natAbs)).toNat).length ≤ 12) := Lib.hid (by rw [HE.out]; exact HL.out)
      have HT : Hid (trL (dig (dval (dig x.natAbs) - dval (dig y.natAbs)).toNat) = dig (x + y).natAbs) := Lib.hid (by rw [trL_dig, HE.out])
      have HS : Hid ((false && decide (trL (dig (dval (dig x.natAbs) - dval (dig y.natAbs)).toNat) ≠ [])) = decide (x + y < 0)) := Lib.hid (by rw [HT.out, Bool.eq_iff_iff]; simp only [Bool.false_and, Bool.false_eq_true, false_iff, decide_eq_true_eq]; omega)
      clear ecv hcmp hx0 hy0
      go_enter Try.func132, Try.ntmps132
      go_wp2_with (first | (go_at_call 116; first | ((with_reducible refine (HVX.out _ (by repeat' (first | exact Q.refl _ | refine Q.alloc ?_ _ | refine Q.jk ?_ _ | refine Q.drew ?_))).mono ?_); rintro e w' ⟨rfl, kj, rfl⟩) | ((with_reducible refine (HVY.out _ (by repeat' (first | exact Q.refl _ | refine Q.alloc ?_ _ | refine Q.jk ?_ _ | refine Q.drew ?_))).mono ?_); rintro e w' ⟨rfl, kj, rfl⟩)) | (go_at_call 135; refine (r1compare_any _ _ _ (dig x.natAbs) _ _ _ (dig y.natAbs) _ (HX.out.q (by repeat' (first | exact Q.refl _ | refine Q.alloc ?_ _ | refine Q.jk ?_ _ | refine Q.drew ?_))) (HY.out.q (by repeat' (first | exact Q.refl _ | refine Q.alloc ?_ _ | refine Q.jk ?_ _ | refine Q.drew ?_))) (dig_Dg _) (dig_Dg _) (dig_Tr _) (dig_Tr _) (by omega) (by omega)).mono ?_; rintro e w' ⟨rfl, kj, rfl⟩; rw [EC.out]))
      go_region_held3 (fun w' => w'.cell? ⟨w.heap.size, 0, none⟩ = some (.bool false) ∧ w'.cell? ⟨w.heap.size, 1, none⟩ = some (.slice A n c) ∧ w'.cell? ⟨w.heap.size + 1, 0, none⟩ = some (.bool true) ∧ w'.cell? ⟨w.heap.size + 1, 1, none⟩ = some (.slice B m d)) (simp [go_sem])
        (first
         | (go_at_call 137; refine (r1minus_any _ _ _ (dig x.natAbs) _ _ _ (dig y.natAbs) _ (HX.out.q (by repeat' (first | exact Q.refl _ | refine Q.alloc ?_ _ | refine Q.jk ?_ _ | refine Q.drew ?_))) (HY.out.q (by repeat' (first | exact Q.refl _ | refine Q.alloc ?_ _ | refine Q.jk ?_ _ | refine Q.drew ?_))) (dig_Dg _) (dig_Dg _) (dig_Tr _) ED.out (by omega)).mono ?_; rintro e w' ⟨A1, n1, c1, k1, rfl, rfl, hr1, hf1⟩; have HR1 := Lib.hid hr1; have HF1 := Lib.hid hf1; have HL1 : n1 ≤ 12 := (by rw [← hr1.1]; exact HL1'.out); clear hr1 hf1)
         | (go_at_call 107; refine (r1made_any _ _ _ _ _ _ HR1.out (dig_Dg _) (by omega)).mono ?_; rintro e w' ⟨A2, n2, c2, k2, rfl, rfl, hr2, hf2⟩; have HR2 := Lib.hid hr2; have HF2 := Lib.hid hf2; have HL2 : n2 ≤ 12 := (by rw [← hr2.1, HT.out]; exact HL.out); clear hr2 hf2; rw [HS.out])
         | (go_at_call 129; refine (r1result_any _ _ _ _ _ (by omega)).mono ?_; rintro e w' ⟨rfl, kj, rfl⟩))
      rename_i hHeld
      clear hHeld
      go_wp2
      refine bodyPost_ret (v := .tuple #[.agg #[.bool (decide (x + y < 0)), .slice A2 n2 c2], .int .i64 0]) (by simp [results, Try.results132, go_sem]) rfl (RetI2.of (A := A2) (n := n2) (c := c2) rfl ?_ ?_ (HF2.out.q (by repeat' (first | exact Q.refl _ | refine Q.alloc ?_ _ | refine Q.jk ?_ _ | refine Q.drew ?_))))
      · repeat' (first | exact Q.refl _ | refine Q.alloc ?_ _ | refine Q.jk ?_ _ | refine Q.drew ?_)
      · have := HR2.out
        rw [HT.out] at this
        exact (this.swap5 (by simp) (HF2.out.q (by repeat' (first | exact Q.refl _ | refine Q.alloc ?_ _ | refine Q.jk ?_ _ | refine Q.drew ?_)))).q ((Q.refl _).jk _)
    · obtain ⟨cv, ecv, hcv⟩ : ∃ cv, cmpI (dval (dig x.natAbs)) (dval (dig y.natAbs)) = cv ∧ cv < 0 := ⟨_, rfl, by rw [dval_dg, dval_dg]; unfold cmpI; repeat' split <;> omega⟩
      have EC := Lib.hid ecv
      have ED : Hid (dval (dig x.natAbs) ≤ dval (dig y.natAbs)) := Lib.hid (by rw [dval_dg, dval_dg]; omega)
      have HE : Hid (dig (dval (dig y.natAbs) - dval (dig x.natAbs)).toNat = dig (x + y).natAbs) := Lib.hid (by rw [dval_dg, dval_dg]; congr 1; omega)
      have HL1' : Hid ((dig (dval (dig y.natAbs) - dval (dig x.natAbs)).toNat).length ≤ 12) := Lib.hid (by rw [HE.out]; exact HL.out)
      have HT : Hid (trL (dig (dval (dig y.natAbs) - dval (dig x.natAbs)).toNat) = dig (x + y).natAbs) := Lib.hid (by rw [trL_dig, HE.out])
      have HS : Hid ((true && decide (trL (dig (dval (dig y.natAbs) - dval (dig x.natAbs)).toNat) ≠ [])) = decide (x + y < 0)) := Lib.hid (by rw [HT.out, Bool.eq_iff_iff]; simp only [Bool.true_and, decide_eq_true_eq, ne_nil_iff]; omega)
      clear ecv hcmp hx0 hy0
      go_enter Try.func132, Try.ntmps132
      go_wp2_with (first | (go_at_call 116; first | ((with_reducible refine (HVX.out _ (by repeat' (first | exact Q.refl _ | refine Q.alloc ?_ _ | refine Q.jk ?_ _ | refine Q.drew ?_))).mono ?_); rintro e w' ⟨rfl, kj, rfl⟩) | ((with_reducible refine (HVY.out _ (by repeat' (first | exact Q.refl _ | refine Q.alloc ?_ _ | refine Q.jk ?_ _ | refine Q.drew ?_))).mono ?_); rintro e w' ⟨rfl, kj, rfl⟩)) | (go_at_call 135; refine (r1compare_any _ _ _ (dig x.natAbs) _ _ _ (dig y.natAbs) _ (HX.out.q (by repeat' (first | exact Q.refl _ | refine Q.alloc ?_ _ | refine Q.jk ?_ _ | refine Q.drew ?_))) (HY.out.q (by repeat' (first | exact Q.refl _ | refine Q.alloc ?_ _ | refine Q.jk ?_ _ | refine Q.drew ?_))) (dig_Dg _) (dig_Dg _) (dig_Tr _) (dig_Tr _) (by omega) (by omega)).mono ?_; rintro e w' ⟨rfl, kj, rfl⟩; rw [EC.out]))
      go_region_held3 (fun w' => w'.cell? ⟨w.heap.size, 0, none⟩ = some (.bool false) ∧ w'.cell? ⟨w.heap.size, 1, none⟩ = some (.slice A n c) ∧ w'.cell? ⟨w.heap.size + 1, 0, none⟩ = some (.bool true) ∧ w'.cell? ⟨w.heap.size + 1, 1, none⟩ = some (.slice B m d)) (simp [go_sem])
        (first
         | (go_at_call 137; refine (r1minus_any _ _ _ (dig y.natAbs) _ _ _ (dig x.natAbs) _ (HY.out.q (by repeat' (first | exact Q.refl _ | refine Q.alloc ?_ _ | refine Q.jk ?_ _ | refine Q.drew ?_))) (HX.out.q (by repeat' (first | exact Q.refl _ | refine Q.alloc ?_ _ | refine Q.jk ?_ _ | refine Q.drew ?_))) (dig_Dg _) (dig_Dg _) (dig_Tr _) ED.out (by omega)).mono ?_; rintro e w' ⟨A1, n1, c1, k1, rfl, rfl, hr1, hf1⟩; have HR1 := Lib.hid hr1; have HF1 := Lib.hid hf1; have HL1 : n1 ≤ 12 := (by rw [← hr1.1]; exact HL1'.out); clear hr1 hf1)
         | (go_at_call 107; refine (r1made_any _ _ _ _ _ _ HR1.out (dig_Dg _) (by omega)).mono ?_; rintro e w' ⟨A2, n2, c2, k2, rfl, rfl, hr2, hf2⟩; have HR2 := Lib.hid hr2; have HF2 := Lib.hid hf2; have HL2 : n2 ≤ 12 := (by rw [← hr2.1, HT.out]; exact HL.out); clear hr2 hf2; rw [HS.out])
         | (go_at_call 129; refine (r1result_any _ _ _ _ _ (by omega)).mono ?_; rintro e w' ⟨rfl, kj, rfl⟩))
      rename_i hHeld
      clear hHeld
      go_wp2
      refine bodyPost_ret (v := .tuple #[.agg #[.bool (decide (x + y < 0)), .slice A2 n2 c2], .int .i64 0]) (by simp [results, Try.results132, go_sem]) rfl (RetI2.of (A := A2) (n := n2) (c := c2) rfl ?_ ?_ (HF2.out.q (by repeat' (first | exact Q.refl _ | refine Q.alloc ?_ _ | refine Q.jk ?_ _ | refine Q.drew ?_))))
      · repeat' (first | exact Q.refl _ | refine Q.alloc ?_ _ | refine Q.jk ?_ _ | refine Q.drew ?_)
      · have := HR2.out
        rw [HT.out] at this
        exact (this.swap5 (by simp) (HF2.out.q (by repeat' (first | exact Q.refl _ | refine Q.alloc ?_ _ | refine Q.jk ?_ _ | refine Q.drew ?_)))).q ((Q.refl _).jk _)
  · have hx0 : x < 0 := by simpa using bx
    have hy0 : 0 ≤ y := by simpa using by'
    clear bx by'
    by_cases hcmp : y.natAbs ≤ x.natAbs
    · obtain ⟨cv, ecv, hcv⟩ : ∃ cv, cmpI (dval (dig x.natAbs)) (dval (dig y.natAbs)) = cv ∧ 0 ≤ cv := ⟨_, rfl, by rw [dval_dg, dval_dg]; unfold cmpI; repeat' split <;> omega⟩
      have EC := Lib.hid ecv
      have ED : Hid (dval (dig y.natAbs) ≤ dval (dig x.natAbs)) := Lib.hid (by rw [dval_dg, dval_dg]; omega)
      have HE : Hid (dig (dval (dig x.natAbs) - dval (dig y.natAbs)).toNat = dig (x + y).natAbs) := Lib.hid (by rw [dval_dg, dval_dg]; congr 1; omega)
      have HL1' : Hid ((dig (dval (dig x.natAbs) - dval (dig y.natAbs)).toNat).length ≤ 12) := Lib.hid (by rw [HE.out]; exact HL.out)
      have HT : Hid (trL (dig (dval (dig x.natAbs) - dval (dig y.natAbs)).toNat) = dig (x + y).natAbs) := Lib.hid (by rw [trL_dig, HE.out])
      have HS : Hid ((true && decide (trL (dig (dval (dig x.natAbs) - dval (dig y.natAbs)).toNat) ≠ [])) = decide (x + y < 0)) := Lib.hid (by rw [HT.out, Bool.eq_iff_iff]; simp only [Bool.true_and, decide_eq_true_eq, ne_nil_iff]; omega)
      clear ecv hcmp hx0 hy0
      go_enter Try.func132, Try.ntmps132
      go_wp2_with (first | (go_at_call 116; first | ((with_reducible refine (HVX.out _ (by repeat' (first | exact Q.refl _ | refine Q.alloc ?_ _ | refine Q.jk ?_ _ | refine Q.drew ?_))).mono ?_); rintro e w' ⟨rfl, kj, rfl⟩) | ((with_reducible refine (HVY.out _ (by repeat' (first | exact Q.refl _ | refine Q.alloc ?_ _ | refine Q.jk ?_ _ | refine Q.drew ?_))).mono ?_); rintro e w' ⟨rfl, kj, rfl⟩)) | (go_at_call 135; refine (r1compare_any _ _ _ (dig x.natAbs) _ _ _ (dig y.natAbs) _ (HX.out.q (by repeat' (first | exact Q.refl _ | refine Q.alloc ?_ _ | refine Q.jk ?_ _ | refine Q.drew ?_))) (HY.out.q (by repeat' (first | exact Q.refl _ | refine Q.alloc ?_ _ | refine Q.jk ?_ _ | refine Q.drew ?_))) (dig_Dg _) (dig_Dg _) (dig_Tr _) (dig_Tr _) (by omega) (by omega)).mono ?_; rintro e w' ⟨rfl, kj, rfl⟩; rw [EC.out]))
      go_region_held3 (fun w' => w'.cell? ⟨w.heap.size, 0, none⟩ = some (.bool true) ∧ w'.cell? ⟨w.heap.size, 1, none⟩ = some (.slice A n c) ∧ w'.cell? ⟨w.heap.size + 1, 0, none⟩ = some (.bool false) ∧ w'.cell? ⟨w.heap.size + 1, 1, none⟩ = some (.slice B m d)) (simp [go_sem])
        (first
         | (go_at_call 137; refine (r1minus_any _ _ _ (dig x.natAbs) _ _ _ (dig y.natAbs) _ (HX.out.q (by repeat' (first | exact Q.refl _ | refine Q.alloc ?_ _ | refine Q.jk ?_ _ | refine Q.drew ?_))) (HY.out.q (by repeat' (first | exact Q.refl _ | refine Q.alloc ?_ _ | refine Q.jk ?_ _ | refine Q.drew ?_))) (dig_Dg _) (dig_Dg _) (dig_Tr _) ED.out (by omega)).mono ?_; rintro e w' ⟨A1, n1, c1, k1, rfl, rfl, hr1, hf1⟩; have HR1 := Lib.hid hr1; have HF1 := Lib.hid hf1; have HL1 : n1 ≤ 12 := (by rw [← hr1.1]; exact HL1'.out); clear hr1 hf1)
         | (go_at_call 107; refine (r1made_any _ _ _ _ _ _ HR1.out (dig_Dg _) (by omega)).mono ?_; rintro e w' ⟨A2, n2, c2, k2, rfl, rfl, hr2, hf2⟩; have HR2 := Lib.hid hr2; have HF2 := Lib.hid hf2; have HL2 : n2 ≤ 12 := (by rw [← hr2.1, HT.out]; exact HL.out); clear hr2 hf2; rw [HS.out])
         | (go_at_call 129; refine (r1result_any _ _ _ _ _ (by omega)).mono ?_; rintro e w' ⟨rfl, kj, rfl⟩))
      rename_i hHeld
      clear hHeld
      go_wp2
      refine bodyPost_ret (v := .tuple #[.agg #[.bool (decide (x + y < 0)), .slice A2 n2 c2], .int .i64 0]) (by simp [results, Try.results132, go_sem]) rfl (RetI2.of (A := A2) (n := n2) (c := c2) rfl ?_ ?_ (HF2.out.q (by repeat' (first | exact Q.refl _ | refine Q.alloc ?_ _ | refine Q.jk ?_ _ | refine Q.drew ?_))))
      · repeat' (first | exact Q.refl _ | refine Q.alloc ?_ _ | refine Q.jk ?_ _ | refine Q.drew ?_)
      · have := HR2.out
        rw [HT.out] at this
        exact (this.swap5 (by simp) (HF2.out.q (by repeat' (first | exact Q.refl _ | refine Q.alloc ?_ _ | refine Q.jk ?_ _ | refine Q.drew ?_)))).q ((Q.refl _).jk _)
    · obtain ⟨cv, ecv, hcv⟩ : ∃ cv, cmpI (dval (dig x.natAbs)) (dval (dig y.natAbs)) = cv ∧ cv < 0 := ⟨_, rfl, by rw [dval_dg, dval_dg]; unfold cmpI; repeat' split <;> omega⟩
      have EC := Lib.hid ecv
      have ED : Hid (dval (dig x.natAbs) ≤ dval (dig y.natAbs)) := Lib.hid (by rw [dval_dg, dval_dg]; omega)
      have HE : Hid (dig (dval (dig y.natAbs) - dval (dig x.natAbs)).toNat = dig (x + y).natAbs) := Lib.hid (by rw [dval_dg, dval_dg]; congr 1; omega)
      have HL1' : Hid ((dig (dval (dig y.natAbs) - dval (dig x.natAbs)).toNat).length ≤ 12) := Lib.hid (by rw [HE.out]; exact HL.out)
      have HT : Hid (trL (dig (dval (dig y.natAbs) - dval (dig x.natAbs)).toNat) = dig (x + y).natAbs) := Lib.hid (by rw [trL_dig, HE.out])
      have HS : Hid ((false && decide (trL (dig (dval (dig y.natAbs) - dval (dig x.natAbs)).toNat) ≠ [])) = decide (x + y < 0)) := Lib.hid (by rw [HT.out, Bool.eq_iff_iff]; simp only [Bool.false_and, Bool.false_eq_true, false_iff, decide_eq_true_eq]; omega)
      clear ecv hcmp hx0 hy0
      go_enter Try.func132, Try.ntmps132
      go_wp2_with (first | (go_at_call 116; first | ((with_reducible refine (HVX.out _ (by repeat' (first | exact Q.refl _ | refine Q.alloc ?_ _ | refine Q.jk ?_ _ | refine Q.drew ?_))).mono ?_); rintro e w' ⟨rfl, kj, rfl⟩) | ((with_reducible refine (HVY.out _ (by repeat' (first | exact Q.refl _ | refine Q.alloc ?_ _ | refine Q.jk ?_ _ | refine Q.drew ?_))).mono ?_); rintro e w' ⟨rfl, kj, rfl⟩)) | (go_at_call 135; refine (r1compare_any _ _ _ (dig x.natAbs) _ _ _ (dig y.natAbs) _ (HX.out.q (by repeat' (first | exact Q.refl _ | refine Q.alloc ?_ _ | refine Q.jk ?_ _ | refine Q.drew ?_))) (HY.out.q (by repeat' (first | exact Q.refl _ | refine Q.alloc ?_ _ | refine Q.jk ?_ _ | refine Q.drew ?_))) (dig_Dg _) (dig_Dg _) (dig_Tr _) (dig_Tr _) (by omega) (by omega)).mono ?_; rintro e w' ⟨rfl, kj, rfl⟩; rw [EC.out]))
      go_region_held3 (fun w' => w'.cell? ⟨w.heap.size, 0, none⟩ = some (.bool true) ∧ w'.cell? ⟨w.heap.size, 1, none⟩ = some (.slice A n c) ∧ w'.cell? ⟨w.heap.size + 1, 0, none⟩ = some (.bool false) ∧ w'.cell? ⟨w.heap.size + 1, 1, none⟩ = some (.slice B m d)) (simp [go_sem])
        (first
         | (go_at_call 137; refine (r1minus_any _ _ _ (dig y.natAbs) _ _ _ (dig x.natAbs) _ (HY.out.q (by repeat' (first | exact Q.refl _ | refine Q.alloc ?_ _ | refine Q.jk ?_ _ | refine Q.drew ?_))) (HX.out.q (by repeat' (first | exact Q.refl _ | refine Q.alloc ?_ _ | refine Q.jk ?_ _ | refine Q.drew ?_))) (dig_Dg _) (dig_Dg _) (dig_Tr _) ED.out (by omega)).mono ?_; rintro e w' ⟨A1, n1, c1, k1, rfl, rfl, hr1, hf1⟩; have HR1 := Lib.hid hr1; have HF1 := Lib.hid hf1; have HL1 : n1 ≤ 12 := (by rw [← hr1.1]; exact HL1'.out); clear hr1 hf1)
         | (go_at_call 107; refine (r1made_any _ _ _ _ _ _ HR1.out (dig_Dg _) (by omega)).mono ?_; rintro e w' ⟨A2, n2, c2, k2, rfl, rfl, hr2, hf2⟩; have HR2 := Lib.hid hr2; have HF2 := Lib.hid hf2; have HL2 : n2 ≤ 12 := (by rw [← hr2.1, HT.out]; exact HL.out); clear hr2 hf2; rw [HS.out])
         | (go_at_call 129; refine (r1result_any _ _ _ _ _ (by omega)).mono ?_; rintro e w' ⟨rfl, kj, rfl⟩))
      rename_i hHeld
      clear hHeld
      go_wp2
      refine bodyPost_ret (v := .tuple #[.agg #[.bool (decide (x + y < 0)), .slice A2 n2 c2], .int .i64 0]) (by simp [results, Try.results132, go_sem]) rfl (RetI2.of (A := A2) (n := n2) (c := c2) rfl ?_ ?_ (HF2.out.q (by repeat' (first | exact Q.refl _ | refine Q.alloc ?_ _ | refine Q.jk ?_ _ | refine Q.drew ?_))))
      · repeat' (first | exact Q.refl _ | refine Q.alloc ?_ _ | refine Q.jk ?_ _ | refine Q.drew ?_)
      · have := HR2.out
        rw [HT.out] at this
        exact (this.swap5 (by simp) (HF2.out.q (by repeat' (first | exact Q.refl _ | refine Q.alloc ?_ _ | refine Q.jk ?_ _ | refine Q.drew ?_)))).q ((Q.refl _).jk _)
  · have hx0 : x < 0 := by simpa using bx
    have hy0 : y < 0 := by simpa using by'
    clear bx by'
    go_enter Try.func132, Try.ntmps132
    go_wp2_with (go_at_call 116; first | ((with_reducible refine (HVX.out _ (by repeat' (first | exact Q.refl _ | refine Q.alloc ?_ _ | refine Q.jk ?_ _ | refine Q.drew ?_))).mono ?_); rintro e w' ⟨rfl, kj, rfl⟩) | ((with_reducible refine (HVY.out _ (by repeat' (first | exact Q.refl _ | refine Q.alloc ?_ _ | refine Q.jk ?_ _ | refine Q.drew ?_))).mono ?_); rintro e w' ⟨rfl, kj, rfl⟩))
    go_region_held3 (fun w' => w'.cell? ⟨w.heap.size, 0, none⟩ = some (.bool true) ∧ w'.cell? ⟨w.heap.size, 1, none⟩ = some (.slice A n c) ∧ w'.cell? ⟨w.heap.size + 1, 0, none⟩ = some (.bool true) ∧ w'.cell? ⟨w.heap.size + 1, 1, none⟩ = some (.slice B m d)) (simp [go_sem])
      (first
       | (go_at_call 136; refine (r1plus_any _ _ _ (dig x.natAbs) _ _ _ (dig y.natAbs) _ (HX.out.q (by repeat' (first | exact Q.refl _ | refine Q.alloc ?_ _ | refine Q.jk ?_ _ | refine Q.drew ?_))) (HY.out.q (by repeat' (first | exact Q.refl _ | refine Q.alloc ?_ _ | refine Q.jk ?_ _ | refine Q.drew ?_))) (dig_Dg _) (dig_Dg _) (by omega) (by omega)).mono ?_; rintro e w' ⟨l1, A1, n1, c1, k1, rfl, rfl, hr1, hf1, hd1, hv1, hn1⟩; have HR1 := Lib.hid hr1; have HF1 := Lib.hid hf1; have HD1 := Lib.hid hd1; have HT : Hid (trL l1 = dig (x + y).natAbs) := Lib.hid (by unfold trL; rw [hv1, dval_dg, dval_dg]; congr 1; omega); have HS : Hid ((true && decide (trL l1 ≠ [])) = decide (x + y < 0)) := Lib.hid (by rw [HT.out, Bool.eq_iff_iff]; simp only [Bool.true_and, decide_eq_true_eq, ne_nil_iff]; omega); clear hr1 hf1 hd1 hv1)
       | (go_at_call 107; refine (r1made_any _ _ _ _ _ _ HR1.out HD1.out (by omega)).mono ?_; rintro e w' ⟨A2, n2, c2, k2, rfl, rfl, hr2, hf2⟩; have HR2 := Lib.hid hr2; have HF2 := Lib.hid hf2; have HL2 : n2 ≤ 12 := (by rw [← hr2.1, HT.out]; exact HL.out); clear hr2 hf2; rw [HS.out])
       | (go_at_call 129; refine (r1result_any _ _ _ _ _ (by omega)).mono ?_; rintro e w' ⟨rfl, kj, rfl⟩))
    rename_i hHeld
    clear hHeld
    go_wp2
    refine bodyPost_ret (v := .tuple #[.agg #[.bool (decide (x + y < 0)), .slice A2 n2 c2], .int .i64 0]) (by simp [results, Try.results132, go_sem]) rfl (RetI2.of (A := A2) (n := n2) (c := c2) rfl ?_ ?_ (HF2.out.q (by repeat' (first | exact Q.refl _ | refine Q.alloc ?_ _ | refine Q.jk ?_ _ | refine Q.drew ?_))))
    · repeat' (first | exact Q.refl _ | refine Q.alloc ?_ _ | refine Q.jk ?_ _ | refine Q.drew ?_)
    · have := HR2.out
      rw [HT.out] at this
      exact (this.swap4 (by simp) (HF2.out.q (by repeat' (first | exact Q.refl _ | refine Q.alloc ?_ _ | refine Q.jk ?_ _ | refine Q.drew ?_)))).q ((Q.refl _).jk _)
set_option maxHeartbeats 4000000 in
theorem r1sub_z (b : Bool) (A : Option Addr) (n c : Nat) (x : Int) (b' : Bool) (B : Option Addr) (m d : Nat) (y : Int) (w : World) (bx : b = decide (x < 0)) (rx : Rd w A n c (dig x.natAbs)) (hx : Sm x) (by' : b' = decide (y < 0)) (ry : Rd w B m d (dig y.natAbs)) (hy : Sm y) (hxy : Sm (x - y)) :
    Calls Try.prog 118 #[.agg #[.bool b, .slice A n c], .agg #[.bool b', .slice B m d]] w (RetZ2 (x - y) w) := by
  have HX := Lib.hid rx
  have BX := Lib.hid bx
  have HVX := Lib.hid (fun w' (hq : Q w w') => r1valid_z b A n c x w' bx (rx.q hq) hx)
  have HNY := Lib.hid (fun w' (hq : Q w w') => r1neg_z b' B m d y w' by' (ry.q hq) hy)
  have SX := Lib.hid hx
  have SY : Hid (Sm (-y)) := Lib.hid (by unfold Sm at *; rw [Int.natAbs_neg]; exact hy)
  have SXY : Hid (Sm (x + -y)) := Lib.hid (by rw [← Int.sub_eq_add_neg]; exact hxy)
  rw [show RetZ2 (x - y) w = RetZ2 (x + -y) w by rw [Int.sub_eq_add_neg]]
  clear rx ry hx hy hxy bx by'
  go_enter Try.func118, Try.ntmps118
  go_wp2_with (first
   | (go_at_call 116; ((with_reducible refine (HVX.out _ (by repeat' (first | exact Q.refl _ | refine Q.alloc ?_ _ | refine Q.jk ?_ _ | refine Q.drew ?_))).mono ?_); rintro e w' ⟨rfl, kj, rfl⟩))
   | (go_at_call 131; (with_reducible refine (HNY.out _ (by repeat' (first | exact Q.refl _ | refine Q.alloc ?_ _ | refine Q.jk ?_ _ | refine Q.drew ?_))).mono ?_); rintro e w' ⟨A1, n1, c1, k1, rfl, rfl, hr1, hf1⟩; have HR1 := Lib.hid hr1; clear hr1 hf1; obtain ⟨nb1, hnb1⟩ : ∃ nb, decide (-y < 0) = nb := ⟨_, rfl⟩; rw [hnb1]; have HB1 := Lib.hid hnb1; clear hnb1)
   | (go_at_call 132; refine (r1add_z _ _ _ _ x _ _ _ _ (-y) _ BX.out (HX.out.q (by repeat' (first | exact Q.refl _ | refine Q.alloc ?_ _ | refine Q.jk ?_ _ | refine Q.drew ?_))) SX.out HB1.out.symm (HR1.out.q (by repeat' (first | exact Q.refl _ | refine Q.alloc ?_ _ | refine Q.jk ?_ _ | refine Q.drew ?_))) SY.out SXY.out).mono ?_; rintro e w' ⟨A2, n2, c2, k2, rfl, rfl, hr2, hf2⟩; have HR2 := Lib.hid hr2; have HF2 := Lib.hid hf2; clear hr2 hf2; obtain ⟨nb2, hnb2⟩ : ∃ nb, decide (x + -y < 0) = nb := ⟨_, rfl⟩; rw [hnb2]; have HB2 := Lib.hid hnb2; clear hnb2))
  refine bodyPost_ret (v := .tuple #[.agg #[.bool nb2, .slice A2 n2 c2], .int .i64 0]) (by simp [results, Try.results118, go_sem]) rfl (RetI2.of (A := A2) (n := n2) (c := c2) (by rw [HB2.out]) ?_ ?_ (HF2.out.q (by repeat' (first | exact Q.refl _ | refine Q.alloc ?_ _ | refine Q.jk ?_ _ | refine Q.drew ?_))))
  · repeat' (first | exact Q.refl _ | refine Q.alloc ?_ _ | refine Q.jk ?_ _ | refine Q.drew ?_)
  · have := HR2.out
    simp only [World.alloc_jk, World.jk_jk] at this ⊢
    exact this.swap (by simp) (HF2.out.q (by repeat' (first | exact Q.refl _ | refine Q.alloc ?_ _ | refine Q.jk ?_ _ | refine Q.drew ?_)))
end Go.Proofs.Ytomodppdolfinaa
