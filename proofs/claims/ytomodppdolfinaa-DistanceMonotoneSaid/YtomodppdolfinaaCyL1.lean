
/- What the helpers of the laws on the ring return: Small, mul, add, conj, known; and the contracts of package cyclo within the limits. -/
import Derived.Test.YtomodppdolfinaaCyW3
import Derived.Test.YtomodppdolfinaaTail
namespace Go.Proofs.Ytomodppdolfinaa
open Go.RowKit Go.Sub

theorem addR_ok {x y : Cy} (hx : x.In 100000000000000000) (hy : y.In 100000000000000000) : addR x y = ⟨x.add y, 0⟩ := by
  have h1 := wiB_of (hx.mono (show (100000000000000000 : Int) ≤ 576460752303423488 by decide))
  have h2 := wiB_of (hy.mono (show (100000000000000000 : Int) ≤ 576460752303423488 by decide))
  have h3 : wiB (x.add y) 576460752303423488 = true := wiB_of (by unfold Cy.In at *; unfold Cy.add; dsimp only; omega)
  simp [addR, limR, h1, h2, h3]
theorem subR_ok {x y : Cy} (hx : x.In 100000000000000000) (hy : y.In 100000000000000000) : subR x y = ⟨x.sub y, 0⟩ := by
  have h1 := wiB_of (hx.mono (show (100000000000000000 : Int) ≤ 576460752303423488 by decide))
  have h2 := wiB_of (hy.mono (show (100000000000000000 : Int) ≤ 576460752303423488 by decide))
  have h3 : wiB (x.sub y) 576460752303423488 = true := wiB_of (by unfold Cy.In at *; unfold Cy.sub; dsimp only; omega)
  simp [subR, limR, h1, h2, h3]
theorem mulR_ok {x y : Cy} (hx : x.In 268435456) (hy : y.In 268435456) : mulR x y = ⟨x.mul y, 0⟩ := by
  simp [mulR, wiB_of hx, wiB_of hy]
theorem conjR_ok {x : Cy} (hx : x.In 100000000000000000) : conjR x = ⟨x.conj, 0⟩ := by
  have h1 := wiB_of (hx.mono (show (100000000000000000 : Int) ≤ 576460752303423488 by decide))
  have h3 : wiB x.conj 576460752303423488 = true := wiB_of (by unfold Cy.In at *; unfold Cy.conj; dsimp only; omega)
  simp [conjR, limR, h1, h3]
theorem tn_in {x : Cy} {l : Int} (hx : x.In l) : ∀ n, n < 12 → (x.tn n).In (2 * l)
  | 0, _ | 1, _ | 2, _ | 3, _ | 4, _ | 5, _ | 6, _ | 7, _ | 8, _ | 9, _ | 10, _ | 11, _ => by
    unfold Cy.In at *
    simp only [Cy.tn]
    omega
  | _ + 12, h => by omega
theorem turn_in {x : Cy} {l : Int} (k : Int) (hx : x.In l) : (x.turn k).In (2 * l) := tn_in hx _ (by omega)
theorem turnR_ok {x : Cy} (k : Int) (hx : x.In 100000000000000000) : turnR x k = ⟨x.turn k, 0⟩ := by
  have h1 := wiB_of (hx.mono (show (100000000000000000 : Int) ≤ 576460752303423488 by decide))
  have h3 : wiB (x.turn k) 576460752303423488 = true := wiB_of ((turn_in k hx).mono (by decide))
  simp [turnR, limR, h1, h3]
theorem realR_ok {x : Cy} (hx : x.In 100000000000000000) : realR x = ⟨x.real, 0⟩ := by
  simp [realR, wiB_of (hx.mono (show (100000000000000000 : Int) ≤ 144115188075855872 by decide))]
theorem imagR_ok {x : Cy} (hx : x.In 100000000000000000) : imagR x = ⟨x.imag, 0⟩ := by
  simp [imagR, wiB_of (hx.mono (show (100000000000000000 : Int) ≤ 144115188075855872 by decide))]
theorem normR_ok {x : Cy} (hx : x.In 268435456) : normR x = ⟨x.norm, 0⟩ := by
  simp [normR, wiB_of hx]

theorem add_c (x y : Cy) (w : World) (hx : x.In 100000000000000000) (hy : y.In 100000000000000000) : Calls Try.prog 24 #[.agg #[.int .i64 x.a, .int .i64 x.b, .int .i64 x.c, .int .i64 x.d], .agg #[.int .i64 y.a, .int .i64 y.b, .int .i64 y.c, .int .i64 y.d]] w fun e w' => e = .returned (.tuple #[.agg #[.int .i64 (x.add y).a, .int .i64 (x.add y).b, .int .i64 (x.add y).c, .int .i64 (x.add y).d], .int .i64 0]) ∧ Q w w' := by
  have h := add_any x.a x.b x.c x.d y.a y.b y.c y.d w
  rw [addR_ok hx hy] at h
  exact h
theorem sub_c (x y : Cy) (w : World) (hx : x.In 100000000000000000) (hy : y.In 100000000000000000) : Calls Try.prog 25 #[.agg #[.int .i64 x.a, .int .i64 x.b, .int .i64 x.c, .int .i64 x.d], .agg #[.int .i64 y.a, .int .i64 y.b, .int .i64 y.c, .int .i64 y.d]] w fun e w' => e = .returned (.tuple #[.agg #[.int .i64 (x.sub y).a, .int .i64 (x.sub y).b, .int .i64 (x.sub y).c, .int .i64 (x.sub y).d], .int .i64 0]) ∧ Q w w' := by
  have h := sub_any x.a x.b x.c x.d y.a y.b y.c y.d w
  rw [subR_ok hx hy] at h
  exact h
theorem mul_c (x y : Cy) (w : World) (hx : x.In 268435456) (hy : y.In 268435456) : Calls Try.prog 17 #[.agg #[.int .i64 x.a, .int .i64 x.b, .int .i64 x.c, .int .i64 x.d], .agg #[.int .i64 y.a, .int .i64 y.b, .int .i64 y.c, .int .i64 y.d]] w fun e w' => e = .returned (.tuple #[.agg #[.int .i64 (x.mul y).a, .int .i64 (x.mul y).b, .int .i64 (x.mul y).c, .int .i64 (x.mul y).d], .int .i64 0]) ∧ Q w w' := by
  have h := mul_any x.a x.b x.c x.d y.a y.b y.c y.d w
  rw [mulR_ok hx hy] at h
  exact h
theorem turn_c (x : Cy) (k : Int) (w : World) (hx : x.In 100000000000000000) : Calls Try.prog 19 #[.agg #[.int .i64 x.a, .int .i64 x.b, .int .i64 x.c, .int .i64 x.d], .int .i64 k] w fun e w' => e = .returned (.tuple #[.agg #[.int .i64 (x.turn k).a, .int .i64 (x.turn k).b, .int .i64 (x.turn k).c, .int .i64 (x.turn k).d], .int .i64 0]) ∧ Q w w' := by
  have h := turn_any x.a x.b x.c x.d k w
  rw [turnR_ok k hx] at h
  exact h
theorem conj_c (x : Cy) (w : World) (hx : x.In 100000000000000000) : Calls Try.prog 73 #[.agg #[.int .i64 x.a, .int .i64 x.b, .int .i64 x.c, .int .i64 x.d]] w fun e w' => e = .returned (.tuple #[.agg #[.int .i64 (x.conj).a, .int .i64 (x.conj).b, .int .i64 (x.conj).c, .int .i64 (x.conj).d], .int .i64 0]) ∧ Q w w' := by
  have h := conj_any x.a x.b x.c x.d w
  rw [conjR_ok hx] at h
  exact h
theorem real_c (x : Cy) (w : World) (hx : x.In 100000000000000000) : Calls Try.prog 45 #[.agg #[.int .i64 x.a, .int .i64 x.b, .int .i64 x.c, .int .i64 x.d]] w fun e w' => e = .returned (.tuple #[.agg #[.int .i64 (x.real).a, .int .i64 (x.real).b], .int .i64 0]) ∧ Q w w' := by
  have h := real_any x.a x.b x.c x.d w
  rw [realR_ok hx] at h
  exact h
theorem imag_c (x : Cy) (w : World) (hx : x.In 100000000000000000) : Calls Try.prog 46 #[.agg #[.int .i64 x.a, .int .i64 x.b, .int .i64 x.c, .int .i64 x.d]] w fun e w' => e = .returned (.tuple #[.agg #[.int .i64 (x.imag).a, .int .i64 (x.imag).b], .int .i64 0]) ∧ Q w w' := by
  have h := imag_any x.a x.b x.c x.d w
  rw [imagR_ok hx] at h
  exact h
theorem norm_c (x : Cy) (w : World) (hx : x.In 268435456) : Calls Try.prog 47 #[.agg #[.int .i64 x.a, .int .i64 x.b, .int .i64 x.c, .int .i64 x.d]] w fun e w' => e = .returned (.tuple #[.agg #[.int .i64 (x.norm).a, .int .i64 (x.norm).b], .int .i64 0]) ∧ Q w w' := by
  have h := norm_any x.a x.b x.c x.d w
  rw [normR_ok hx] at h
  exact h

end Go.Proofs.Ytomodppdolfinaa
