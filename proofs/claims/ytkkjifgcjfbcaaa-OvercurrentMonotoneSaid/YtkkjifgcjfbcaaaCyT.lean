
/- Scale of package cyclo where the products fit. -/
import Derived.Test.YtkkjifgcjfbcaaaCyS
import Derived.Test.YtkkjifgcjfbcaaaCyL1
namespace Go.Sub
def Cy.sc (x : Cy) (k : Int) : Cy := ⟨x.a * k, x.b * k, x.c * k, x.d * k⟩
theorem sc_in {x : Cy} {k l m : Int} (hx : x.In l) (h1 : -m ≤ k) (h2 : k ≤ m) : (x.sc k).In (l * m) := by
  obtain ⟨x1, x2, x3, x4, x5, x6, x7, x8⟩ := hx
  have a := bd_mul x1 x2 h1 h2
  have b := bd_mul x3 x4 h1 h2
  have c := bd_mul x5 x6 h1 h2
  have d := bd_mul x7 x8 h1 h2
  exact ⟨a.1, a.2, b.1, b.2, c.1, c.2, d.1, d.2⟩
theorem scaleR_fit {x : Cy} {k l m : Int} (hx : x.In l) (h1 : -m ≤ k) (h2 : k ≤ m) (hl : l ≤ 576460752303423488) (hm : m ≤ 576460752303423488) (hlm : l * m ≤ 576460752303423488) : scaleR x k = ⟨x.sc k, 0⟩ := by
  have h := sc_in hx h1 h2
  have e1 := wiB_of (hx.mono hl)
  have e2 := wiB_of (h.mono hlm)
  have e3 : brkB 576460752303423488 k = false := by simp [brkB]; omega
  unfold Cy.sc at e2
  simp [scaleR, limR, e1, e2, e3, Cy.sc]
end Go.Sub
namespace Go.Proofs.Ytkkjifgcjfbcaaa
open Go.RowKit Go.Sub
theorem scale_fit (x : Cy) (k l m : Int) (w : World) (hx : x.In l) (h1 : -m ≤ k) (h2 : k ≤ m) (hl : l ≤ 576460752303423488) (hm : m ≤ 576460752303423488) (hlm : l * m ≤ 576460752303423488) :
    Calls Try.prog 47 #[.agg #[.int .i64 x.a, .int .i64 x.b, .int .i64 x.c, .int .i64 x.d], .int .i64 k] w fun e w' => e = .returned (.tuple #[.agg #[.int .i64 (x.sc k).a, .int .i64 (x.sc k).b, .int .i64 (x.sc k).c, .int .i64 (x.sc k).d], .int .i64 0]) ∧ Q w w' := by
  have h := scale_any x.a x.b x.c x.d k w
  rw [show scaleR ⟨x.a, x.b, x.c, x.d⟩ k = _ from scaleR_fit hx h1 h2 hl hm hlm] at h
  exact h
end Go.Proofs.Ytkkjifgcjfbcaaa
