
/- The greatest and the least of three squared magnitudes: order does not matter. -/
import Derived.Test.YtkkjifgcjfbcaaaOcB
namespace Go.Sub
theorem sub_trans {x y z : Su} (h1 : 0 ≤ sgnS (x.sub y)) (h2 : 0 ≤ sgnS (y.sub z)) : 0 ≤ sgnS (x.sub z) := by
  have h := sgnS_add h1 h2
  have e : (x.sub y).add (y.sub z) = x.sub z := by apply Su.ext' <;> simp only [Su.sub, Su.add] <;> omega
  rwa [e] at h
theorem sub_flip (x y : Su) : sgnS (x.sub y) = -sgnS (y.sub x) := by
  have h := sgnS_neg (y.sub x)
  have e : Su.mk (-(y.sub x).a) (-(y.sub x).b) = x.sub y := by apply Su.ext' <;> simp only [Su.sub] <;> omega
  rwa [e] at h
theorem sub_antisymm {x y : Su} (h1 : 0 ≤ sgnS (x.sub y)) (h2 : 0 ≤ sgnS (y.sub x)) : x = y := by
  have h := sub_flip x y
  have h3 := (sgnS_zero (x.sub y)).1 (by omega)
  have ha : (x.sub y).a = 0 := by rw [h3]
  have hb : (x.sub y).b = 0 := by rw [h3]
  simp only [Su.sub] at ha hb
  exact Su.ext' (by omega) (by omega)
theorem pick1 (b n : Su) : (pickS 1 b n = n ∧ 0 ≤ sgnS (n.sub b)) ∨ (pickS 1 b n = b ∧ 0 ≤ sgnS (b.sub n)) := by
  by_cases h : (sgnS (n.sub b) == 1) = true
  · refine .inl ⟨by simp only [pickS, h, if_true], ?_⟩
    have := eq_of_beq h
    omega
  · refine .inr ⟨by simp only [pickS, h]; rfl, ?_⟩
    rw [sub_flip]
    have h2 : sgnS (n.sub b) ≠ 1 := fun h3 => h (by rw [h3]; rfl)
    rcases sgnS_range (n.sub b) with h3 | h3 | h3 <;> omega
theorem pickm (b n : Su) : (pickS (-1) b n = n ∧ 0 ≤ sgnS (b.sub n)) ∨ (pickS (-1) b n = b ∧ 0 ≤ sgnS (n.sub b)) := by
  by_cases h : (sgnS (n.sub b) == -1) = true
  · refine .inl ⟨by simp only [pickS, h, if_true], ?_⟩
    have := eq_of_beq h
    rw [sub_flip]
    omega
  · refine .inr ⟨by simp only [pickS, h]; rfl, ?_⟩
    have h2 : sgnS (n.sub b) ≠ -1 := fun h3 => h (by rw [h3]; rfl)
    rcases sgnS_range (n.sub b) with h3 | h3 | h3 <;> omega
theorem ge_pick (b n c : Su) : 0 ≤ sgnS ((pickS 1 b n).sub c) ↔ 0 ≤ sgnS (b.sub c) ∨ 0 ≤ sgnS (n.sub c) := by
  rcases pick1 b n with ⟨e, h⟩ | ⟨e, h⟩ <;> rw [e]
  · exact ⟨.inr, fun h' => h'.elim (fun hb => sub_trans h hb) id⟩
  · exact ⟨.inl, fun h' => h'.elim id (fun hb => sub_trans h hb)⟩
theorem lt_pick (b n c : Su) : sgnS ((pickS (-1) b n).sub c) < 0 ↔ sgnS (b.sub c) < 0 ∨ sgnS (n.sub c) < 0 := by
  rcases pickm b n with ⟨e, h⟩ | ⟨e, h⟩ <;> rw [e]
  · refine ⟨.inr, fun h' => h'.elim (fun hb => ?_) id⟩
    rcases Int.lt_or_le (sgnS (n.sub c)) 0 with h3 | h3
    · exact h3
    · have := sub_trans h h3
      omega
  · refine ⟨.inl, fun h' => h'.elim id (fun hb => ?_)⟩
    rcases Int.lt_or_le (sgnS (b.sub c)) 0 with h3 | h3
    · exact h3
    · have := sub_trans h h3
      omega
theorem ge_ext (x y z : Cy) (c : Su) : 0 ≤ sgnS ((extS 1 x y z).sub c) ↔ 0 ≤ sgnS (x.norm.sub c) ∨ 0 ≤ sgnS (y.norm.sub c) ∨ 0 ≤ sgnS (z.norm.sub c) := by
  unfold extS
  rw [ge_pick, ge_pick, or_assoc]
theorem lt_ext (x y z : Cy) (c : Su) : sgnS ((extS (-1) x y z).sub c) < 0 ↔ sgnS (x.norm.sub c) < 0 ∨ sgnS (y.norm.sub c) < 0 ∨ sgnS (z.norm.sub c) < 0 := by
  unfold extS
  rw [lt_pick, lt_pick, or_assoc]
theorem sub_self_nn (x : Su) : 0 ≤ sgnS (x.sub x) := by
  have e : x.sub x = ⟨0, 0⟩ := by apply Su.ext' <;> simp only [Su.sub] <;> omega
  rw [e]
  decide
theorem pick_comm (b n : Su) : pickS 1 b n = pickS 1 n b := by
  rcases pick1 b n with ⟨e, h⟩ | ⟨e, h⟩ <;> rcases pick1 n b with ⟨e', h'⟩ | ⟨e', h'⟩ <;> rw [e, e']
  · exact sub_antisymm h h'
  · exact sub_antisymm h h'
theorem pick_assoc (a b c : Su) : pickS 1 (pickS 1 a b) c = pickS 1 a (pickS 1 b c) := by
  have h := ge_pick
  refine sub_antisymm ?_ ?_
  · have h1 := sub_self_nn (pickS 1 a (pickS 1 b c))
    rcases pick1 a (pickS 1 b c) with ⟨e, g⟩ | ⟨e, g⟩ <;> rw [e]
    · rcases pick1 b c with ⟨e2, g2⟩ | ⟨e2, g2⟩ <;> rw [e2, h, h]
      · exact .inr (sub_self_nn _)
      · exact .inl (.inr (sub_self_nn _))
    · rw [h, h]
      exact .inl (.inl (sub_self_nn _))
  · rcases pick1 (pickS 1 a b) c with ⟨e, g⟩ | ⟨e, g⟩ <;> rw [e]
    · rw [h, h]
      exact .inr (.inr (sub_self_nn _))
    · rcases pick1 a b with ⟨e2, g2⟩ | ⟨e2, g2⟩ <;> rw [e2, h, h]
      · exact .inr (.inl (sub_self_nn _))
      · exact .inl (sub_self_nn _)
theorem ext_rot (x y z : Cy) : extS 1 z x y = extS 1 x y z := by
  unfold extS
  rw [pick_comm (pickS 1 x.norm y.norm) z.norm, pick_assoc]
theorem pick_zero (x : Cy) : pickS 1 ⟨0, 0⟩ x.norm = x.norm := by
  by_cases h : x = ⟨0, 0, 0, 0⟩
  · subst h
    apply Su.ext' <;> decide
  · have h1 := sgn_norm x h
    have e : x.norm.sub ⟨0, 0⟩ = x.norm := by apply Su.ext' <;> simp only [Su.sub] <;> omega
    unfold pickS
    rw [e, h1]
    rfl
theorem ext_top (x y z : Cy) : pickS 1 (pickS 1 (pickS 1 ⟨0, 0⟩ x.norm) y.norm) z.norm = extS 1 x y z := by
  rw [pick_zero]
  rfl
end Go.Sub
