
/- Twice the currents: the squared magnitudes are fourfold, the progress grows no slower. -/
import Derived.Test.YtkkjifgcjfbcaaaOcC
namespace Go.Sub
def Cy.dbl (x : Cy) : Cy := ⟨x.a * 2, x.b * 2, x.c * 2, x.d * 2⟩
def Su.four (x : Su) : Su := ⟨4 * x.a, 4 * x.b⟩
theorem norm_dbl (x : Cy) : x.dbl.norm = x.norm.four := by
  apply Su.ext' <;> simp only [Cy.norm, Cy.dbl, Su.four] <;> grind
theorem pickS_four (s : Int) (b n : Su) : pickS s b.four n.four = (pickS s b n).four := by
  have e : sgnS (n.four.sub b.four) = sgnS (n.sub b) := by
    have h := sgnS_smul (x := n.sub b) (k := 4) (by decide)
    rw [← h]
    congr 1
    apply Su.ext' <;> simp only [Su.four, Su.sub] <;> omega
  unfold pickS
  rw [e]
  split <;> rfl
theorem extS_dbl (s : Int) (x y z : Cy) : extS s x.dbl y.dbl z.dbl = (extS s x y z).four := by
  unfold extS
  rw [norm_dbl, norm_dbl, norm_dbl, pickS_four, pickS_four]
theorem peak_nn {p : Int} (k : Int) (hk : 0 ≤ k) : 0 ≤ sgnS ⟨k * (36 * p * p), 0⟩ := by
  refine (nn_iff _).2 (.inl ⟨?_, Int.le_refl 0⟩)
  have := sq_nonneg p
  rw [Int.mul_assoc]
  exact Int.mul_nonneg hk (by omega)
theorem up_dbl {x y z : Cy} {p : Int} (h : upB x y z p = true) : upB x.dbl y.dbl z.dbl p = true := by
  unfold upB at h ⊢
  rw [decide_eq_true_eq] at h ⊢
  rw [extS_dbl]
  have h1 := sgnS_smul (x := (extS 1 x y z).sub (peakS p)) (k := 4) (by decide)
  have h2 := sgnS_add (x := ⟨4 * ((extS 1 x y z).sub (peakS p)).a, 4 * ((extS 1 x y z).sub (peakS p)).b⟩) (y := ⟨3 * (36 * p * p), 0⟩) (by rw [h1]; exact h) (peak_nn 3 (by decide))
  have e : (extS 1 x y z).four.sub (peakS p) = Su.add ⟨4 * ((extS 1 x y z).sub (peakS p)).a, 4 * ((extS 1 x y z).sub (peakS p)).b⟩ ⟨3 * (36 * p * p), 0⟩ := by
    apply Su.ext' <;> simp only [Su.four, Su.sub, Su.add, peakS] <;> omega
  rw [e]
  exact h2
theorem ext_nn {x y z : Cy} {p : Int} (h : upB x y z p = true) : 0 ≤ sgnS (extS 1 x y z) := by
  unfold upB at h
  rw [decide_eq_true_eq] at h
  have h2 := sgnS_add h (peak_nn (p := p) 1 (by decide))
  have e : ((extS 1 x y z).sub (peakS p)).add ⟨1 * (36 * p * p), 0⟩ = extS 1 x y z := by
    apply Su.ext' <;> simp only [Su.sub, Su.add, peakS] <;> omega
  rw [e] at h2
  exact h2
theorem rate_dbl {x y z : Cy} {p : Int} (p0 : 1 ≤ p) (p1 : p ≤ 16383) (h : upB x y z p = true) : rateI x y z p ≤ rateI x.dbl y.dbl z.dbl p := by
  have hn := ext_nn h
  have hq := (peak_bd p0 p1).1
  unfold rateI
  rw [extS_dbl]
  have hm : flS ⟨(extS 1 x y z).a * 100, (extS 1 x y z).b * 100⟩ ≤ flS ⟨(extS 1 x y z).four.a * 100, (extS 1 x y z).four.b * 100⟩ := by
    refine flS_mono ?_
    have h1 := sgnS_smul (x := extS 1 x y z) (k := 300) (by decide)
    have e : Su.sub ⟨(extS 1 x y z).four.a * 100, (extS 1 x y z).four.b * 100⟩ ⟨(extS 1 x y z).a * 100, (extS 1 x y z).b * 100⟩ = ⟨300 * (extS 1 x y z).a, 300 * (extS 1 x y z).b⟩ := by
      apply Su.ext' <;> simp only [Su.four, Su.sub] <;> omega
    rw [e, h1]
    exact hn
  have hd := Int.ediv_le_ediv (show 0 < 36 * p * p by omega) hm
  omega
theorem ceil_step {m r : Int} (hr : 1 ≤ r) (i : Int) : m ≤ (i + 1) * r ↔ (m + r - 1) / r ≤ i + 1 := by
  constructor
  · intro h
    have : (m + r - 1) / r < i + 2 := by
      rw [Int.ediv_lt_iff_lt_mul (by omega)]
      have : (i + 2) * r = (i + 1) * r + r := by grind
      omega
    omega
  · intro h
    have h1 := Int.lt_ediv_add_one_mul_self (m + r - 1) (show 0 < r by omega)
    have h2 := Int.mul_le_mul_of_nonneg_right h (show 0 ≤ r by omega)
    rw [Int.add_mul] at h1
    omega
theorem ceil_anti {m r s : Int} (hr : 1 ≤ r) (hs : r ≤ s) (hm : 1 ≤ m) : (m + s - 1) / s ≤ (m + r - 1) / r := by
  have h1 := (ceil_step (m := m) hr ((m + r - 1) / r - 1)).2 (by omega)
  rw [Int.sub_add_cancel] at h1
  have h0 : 0 ≤ (m + r - 1) / r := Int.ediv_nonneg (by omega) (by omega)
  have h2 := Int.mul_le_mul_of_nonneg_left hs h0
  have h3 := (ceil_step (m := m) (show 1 ≤ s by omega) ((m + r - 1) / r - 1)).1 (by rw [Int.sub_add_cancel]; omega)
  omega
end Go.Sub
