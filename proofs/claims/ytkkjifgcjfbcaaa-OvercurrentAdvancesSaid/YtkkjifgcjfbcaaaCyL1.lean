
/- What the helpers of the laws on the ring return: Small, mul, add, conj, known; and the contracts of package cyclo within the limits. -/
import Derived.Test.YtkkjifgcjfbcaaaCyW3
import Derived.Test.YtkkjifgcjfbcaaaTail
namespace Go.Proofs.Ytkkjifgcjfbcaaa
open Go.RowKit Go.Sub

theorem addR_ok {x y : Cy} (hx : x.In 100000000000000000) (hy : y.In 100000000000000000) : addR x y = ⟨x.add y, 0⟩ := by
  have h1 := wiB_of (hx.mono (show (100000000000000000 : Int) ≤ 576460752303423488 by decide))
  have h2 := wiB_of (hy.mono (show (100000000000000000 : Int) ≤ 576460752303423488 by decide))
  have h3 : wiB (x.add y) 576460752303423488 = true := wiB_of (by unfold Cy.In at *; unfold Cy.add; dsimp only; omega)
  simp [addR, limR, h1, h2, h3]
theorem subR_ok {x y : Cy} (hx : x.In 100000000000000000) (hy : y.In 100000000000000000) : subR x y = ⟨x.sub y, 0⟩ := by
  have h1 := wiB_of (hx.mono (show (100000000000000000 : Int) ≤ 576460752303423488 by decide))
  have h2 := wiB_of (hy.mono (show (100000000000000000 : Int) ≤ 576460752303423488 by decide))
  have h3 : wiB (x.sub y) 576460752303423488 = true := wiB_of (by unfold Cy.In at *; unfold Cy.sub; dsimp only; omega)
  simp [subR, limR, h1, h2, h3]
theorem mulR_ok {x y : Cy} (hx : x.In 268435456) (hy : y.In 268435456) : mulR x y = ⟨x.mul y, 0⟩ := by
  simp [mulR, wiB_of hx, wiB_of hy]
theorem conjR_ok {x : Cy} (hx : x.In 100000000000000000) : conjR x = ⟨x.conj, 0⟩ := by
  have h1 := wiB_of (hx.mono (show (100000000000000000 : Int) ≤ 576460752303423488 by decide))
  have h3 : wiB x.conj 576460752303423488 = true := wiB_of (by unfold Cy.In at *; unfold Cy.conj; dsimp only; omega)
  simp [conjR, limR, h1, h3]
theorem tn_in {x : Cy} {l : Int} (hx : x.In l) : ∀ n, n < 12 → (x.tn n).In (2 * l)
  | 0, _ | 1, _ | 2, _ | 3, _ | 4, _ | 5, _ | 6, _ | 7, _ | 8, _ | 9, _ | 10, _ | 11, _ => by
    unfold Cy.In at *
    simp only [Cy.tn]
    omega
  | _ + 12, h => by omega
theorem turn_in {x : Cy} {l : Int} (k : Int) (hx : x.In l) : (x.turn k).In (2 * l) := tn_in hx _ (by omega)
theorem turnR_ok {x : Cy} (k : Int) (hx : x.In 100000000000000000) : turnR x k = ⟨x.turn k, 0⟩ := by
  have h1 := wiB_of (hx.mono (show (100000000000000000 : Int) ≤ 576460752303423488 by decide))
  have h3 : wiB (x.turn k) 576460752303423488 = true := wiB_of ((turn_in k hx).mono (by decide))
  simp [turnR, limR, h1, h3]
theorem realR_ok {x : Cy} (hx : x.In 100000000000000000) : realR x = ⟨x.real, 0⟩ := by
  simp [realR, wiB_of (hx.mono (show (100000000000000000 : Int) ≤ 144115188075855872 by decide))]
theorem imagR_ok {x : Cy} (hx : x.In 100000000000000000) : imagR x = ⟨x.imag, 0⟩ := by
  simp [imagR, wiB_of (hx.mono (show (100000000000000000 : Int) ≤ 144115188075855872 by decide))]
theorem normR_ok {x : Cy} (hx : x.In 268435456) : normR x = ⟨x.norm, 0⟩ := by
  simp [normR, wiB_of hx]

theorem turn_c (x : Cy) (k : Int) (w : World) (hx : x.In 100000000000000000) : Calls Try.prog 49 #[.agg #[.int .i64 x.a, .int .i64 x.b, .int .i64 x.c, .int .i64 x.d], .int .i64 k] w fun e w' => e = .returned (.tuple #[.agg #[.int .i64 (x.turn k).a, .int .i64 (x.turn k).b, .int .i64 (x.turn k).c, .int .i64 (x.turn k).d], .int .i64 0]) ∧ Q w w' := by
  have h := turn_any x.a x.b x.c x.d k w
  rw [turnR_ok k hx] at h
  exact h
theorem norm_c (x : Cy) (w : World) (hx : x.In 268435456) : Calls Try.prog 48 #[.agg #[.int .i64 x.a, .int .i64 x.b, .int .i64 x.c, .int .i64 x.d]] w fun e w' => e = .returned (.tuple #[.agg #[.int .i64 (x.norm).a, .int .i64 (x.norm).b], .int .i64 0]) ∧ Q w w' := by
  have h := norm_any x.a x.b x.c x.d w
  rw [normR_ok hx] at h
  exact h

end Go.Proofs.Ytkkjifgcjfbcaaa
