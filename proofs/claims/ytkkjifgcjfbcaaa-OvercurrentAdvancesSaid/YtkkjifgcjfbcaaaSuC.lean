
/- Contracts of package surd within the limits. -/
import Derived.Test.YtkkjifgcjfbcaaaSuM
import Derived.Test.YtkkjifgcjfbcaaaNmPlain
namespace Go.Sub
theorem saddR_ok {x y : Su} (hx : x.In 100000000000000000) (hy : y.In 100000000000000000) : saddR x y = ⟨x.add y, 0⟩ := by
  unfold Su.In at hx hy
  have h1 : wi4 1152921504606846976 x.a x.b y.a y.b = true := (wi4_iff _ _ _ _ _).2 (by omega)
  have h2 : wi2 1152921504606846976 (x.add y).a (x.add y).b = true := (wi2_iff _ _ _).2 (by simp only [Su.add]; omega)
  simp [saddR, limS, h1, h2]
theorem su_mul_in {x y : Su} {l m : Int} (hx : x.In l) (hy : y.In m) : (x.mul y).In (4 * (l * m)) := by
  obtain ⟨h1, h2, h3, h4⟩ := hx
  obtain ⟨k1, k2, k3, k4⟩ := hy
  have p1 := bd_mul h1 h2 k1 k2
  have p2 := bd_mul h3 h4 k3 k4
  have p3 := bd_mul h1 h2 k3 k4
  have p4 := bd_mul h3 h4 k1 k2
  unfold Su.In Su.mul
  dsimp only
  rw [Int.mul_assoc 3]
  omega
theorem Su.In.mono {x : Su} {l m : Int} (h : x.In l) (hm : l ≤ m) : x.In m := by unfold Su.In at *; omega
theorem smulR_ok {x y : Su} (hx : x.In 268435456) (hy : y.In 268435456) : smulR x y = ⟨x.mul y, 0⟩ := by
  have h3 := (su_mul_in hx hy).mono (show 4 * (268435456 * 268435456) ≤ (1152921504606846976 : Int) by decide)
  unfold Su.In at hx hy h3
  have h1 : wi4 268435456 x.a x.b y.a y.b = true := (wi4_iff _ _ _ _ _).2 (by omega)
  have h2 : wi2 1152921504606846976 (x.mul y).a (x.mul y).b = true := (wi2_iff _ _ _).2 (by omega)
  simp [smulR, limS, h1, h2]
end Go.Sub
namespace Go.Proofs.Ytkkjifgcjfbcaaa
open Go.RowKit Go.Sub
theorem sadd_c (x y : Su) (w : World) (hx : x.In 100000000000000000) (hy : y.In 100000000000000000) :
    Calls Try.prog 25 #[.agg #[.int .i64 x.a, .int .i64 x.b], .agg #[.int .i64 y.a, .int .i64 y.b]] w fun e w' => e = .returned (.tuple #[.agg #[.int .i64 (x.add y).a, .int .i64 (x.add y).b], .int .i64 0]) ∧ Q w w' := by
  have h := sadd_any x.a x.b y.a y.b w
  rw [saddR_ok hx hy] at h
  exact h
theorem smul_c (x y : Su) (w : World) (hx : x.In 268435456) (hy : y.In 268435456) :
    Calls Try.prog 19 #[.agg #[.int .i64 x.a, .int .i64 x.b], .agg #[.int .i64 y.a, .int .i64 y.b]] w fun e w' => e = .returned (.tuple #[.agg #[.int .i64 (x.mul y).a, .int .i64 (x.mul y).b], .int .i64 0]) ∧ Q w w' := by
  have h := smul_any x.a x.b y.a y.b w
  rw [smulR_ok hx hy] at h
  exact h
end Go.Proofs.Ytkkjifgcjfbcaaa
