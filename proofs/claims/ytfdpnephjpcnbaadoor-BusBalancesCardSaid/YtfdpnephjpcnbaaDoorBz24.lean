
/- What Compare of package surd, and within and Above of package phasor, return. -/
import Derived.Test.YtfdpnephjpcnbaaDoorBz11
import Derived.Test.YtfdpnephjpcnbaaDoorBz10
import Derived.Test.YtfdpnephjpcnbaaDoorBz09
set_option linter.unusedSimpArgs false
set_option linter.unusedVariables false
/- Scale of package cyclo where the products fit. -/
namespace Go.Sub
def Cy.sc (x : Cy) (k : Int) : Cy := ⟨x.a * k, x.b * k, x.c * k, x.d * k⟩
theorem sc_in {x : Cy} {k l m : Int} (hx : x.In l) (h1 : -m ≤ k) (h2 : k ≤ m) : (x.sc k).In (l * m) := by
  obtain ⟨x1, x2, x3, x4, x5, x6, x7, x8⟩ := hx
  have a := bd_mul x1 x2 h1 h2
  have b := bd_mul x3 x4 h1 h2
  have c := bd_mul x5 x6 h1 h2
  have d := bd_mul x7 x8 h1 h2
  exact ⟨a.1, a.2, b.1, b.2, c.1, c.2, d.1, d.2⟩
theorem scaleR_fit {x : Cy} {k l m : Int} (hx : x.In l) (h1 : -m ≤ k) (h2 : k ≤ m) (hl : l ≤ 576460752303423488) (hm : m ≤ 576460752303423488) (hlm : l * m ≤ 576460752303423488) : scaleR x k = ⟨x.sc k, 0⟩ := by
  have h := sc_in hx h1 h2
  have e1 := wiB_of (hx.mono hl)
  have e2 := wiB_of (h.mono hlm)
  have e3 : brkB 576460752303423488 k = false := by simp [brkB]; omega
  unfold Cy.sc at e2
  simp [scaleR, limR, e1, e2, e3, Cy.sc]
end Go.Sub
namespace Go.Proofs.YtfdpnephjpcnbaaDoor
open Go.RowKit Go.Sub
theorem scale_fit (x : Cy) (k l m : Int) (w : World) (hx : x.In l) (h1 : -m ≤ k) (h2 : k ≤ m) (hl : l ≤ 576460752303423488) (hm : m ≤ 576460752303423488) (hlm : l * m ≤ 576460752303423488) :
    Calls Tryd.prog 42 #[.agg #[.int .i64 x.a, .int .i64 x.b, .int .i64 x.c, .int .i64 x.d], .int .i64 k] w fun e w' => e = .returned (.tuple #[.agg #[.int .i64 (x.sc k).a, .int .i64 (x.sc k).b, .int .i64 (x.sc k).c, .int .i64 (x.sc k).d], .int .i64 0]) ∧ Q w w' := by
  have h := scale_any x.a x.b x.c x.d k w
  rw [show scaleR ⟨x.a, x.b, x.c, x.d⟩ k = _ from scaleR_fit hx h1 h2 hl hm hlm] at h
  exact h
end Go.Proofs.YtfdpnephjpcnbaaDoor
/- Squared magnitudes: plain laws. No program in sight. -/
namespace Go.Sub
theorem norm_in {x : Cy} {l : Int} (h : x.In l) : x.norm.In (6 * (l * l)) := by
  have p := prods_of h h
  obtain ⟨h1, h2, h3, h4, h5, h6, h7, h8, h9, h10, h11, h12, h13, h14, h15, h16⟩ := p
  unfold Su.In Cy.norm
  dsimp only
  omega
theorem parallelogram (x y : Cy) : (x.add y).norm.add (x.sub y).norm = ⟨2 * (x.norm.add y.norm).a, 2 * (x.norm.add y.norm).b⟩ := by
  apply Su.ext' <;> simp only [Cy.norm, Cy.add, Cy.sub, Su.add] <;> grind
theorem norm_mul (x y : Cy) : (x.mul y).norm = x.norm.mul y.norm := by
  apply Su.ext' <;> simp only [Cy.norm, Cy.mul, Su.mul] <;> grind
theorem norm_tn (x : Cy) (n : Nat) (hn : n < 12) : (x.tn n).norm = x.norm := by
  have hn' : n = 0 ∨ n = 1 ∨ n = 2 ∨ n = 3 ∨ n = 4 ∨ n = 5 ∨ n = 6 ∨ n = 7 ∨ n = 8 ∨ n = 9 ∨ n = 10 ∨ n = 11 := by omega
  rcases hn' with rfl | rfl | rfl | rfl | rfl | rfl | rfl | rfl | rfl | rfl | rfl | rfl <;>
    (apply Su.ext' <;> simp only [Cy.norm, Cy.tn] <;> grind)
theorem norm_turn (x : Cy) (k : Int) : (x.turn k).norm = x.norm := norm_tn x _ (by omega)
theorem real_norm (x : Cy) : (x.mul x.conj).real = ⟨2 * x.norm.a, 2 * x.norm.b⟩ := by
  apply Su.ext' <;> simp only [Cy.norm, Cy.mul, Cy.conj, Cy.real] <;> grind
/-- The square root of 3 is no fraction. -/
theorem sq3_nat (n : Nat) : ∀ a b : Nat, a < n → a * a = 3 * (b * b) → a = 0 := by
  induction n with
  | zero => intro a b h; omega
  | succ n ih =>
    intro a b ha h
    have h3 : a % 3 = 0 := by
      have h1 : a * a % 3 = 0 := by rw [h]; omega
      rw [Nat.mul_mod] at h1
      have : a % 3 = 0 ∨ a % 3 = 1 ∨ a % 3 = 2 := by omega
      rcases this with e | e | e <;> rw [e] at h1 <;> simp_all
    obtain ⟨c, rfl⟩ : ∃ c, a = 3 * c := ⟨a / 3, by omega⟩
    have h4 : b * b = 3 * (c * c) := by
      have : 3 * c * (3 * c) = 9 * (c * c) := by grind
      omega
    rcases Nat.eq_zero_or_pos c with rfl | hc
    · rfl
    · have hb : b < 3 * c := by
        rcases Nat.lt_or_ge b (3 * c) with h | h
        · exact h
        · have := Nat.mul_le_mul h h
          have e : 3 * c * (3 * c) = 9 * (c * c) := by grind
          have : 0 < c * c := Nat.mul_pos hc hc
          omega
      have hb0 := ih b c (by omega) h4
      subst hb0
      have : 0 < c * c := Nat.mul_pos hc hc
      omega
theorem sq3 (a b : Int) (h : a * a = 3 * (b * b)) : a = 0 ∧ b = 0 := by
  have h1 : a.natAbs * a.natAbs = 3 * (b.natAbs * b.natAbs) := by
    have := congrArg Int.natAbs h
    simpa [Int.natAbs_mul] using this
  have ha := sq3_nat (a.natAbs + 1) a.natAbs b.natAbs (by omega) h1
  have ha' : a = 0 := Int.natAbs_eq_zero.1 ha
  subst ha'
  have : b * b = 0 := by omega
  exact ⟨rfl, by rcases Int.mul_eq_zero.1 this with h | h <;> exact h⟩
theorem sq_nonneg (a : Int) : 0 ≤ a * a := by
  rcases Int.le_total 0 a with h | h
  · exact Int.mul_nonneg h h
  · have := Int.mul_nonneg (show 0 ≤ -a by omega) (show 0 ≤ -a by omega); rwa [Int.neg_mul_neg] at this
theorem sq_zero {a : Int} (h : a * a = 0) : a = 0 := by rcases Int.mul_eq_zero.1 h with h | h <;> exact h
theorem mag_sq (n : Int) : mag n * mag n = n * n := by
  unfold mag
  split
  · exact Int.neg_mul_neg n n
  · rfl
theorem norm_pos (x : Cy) (h : x ≠ ⟨0, 0, 0, 0⟩) : 0 < x.norm.a := by
  have e : 4 * x.norm.a = (2 * x.a + x.c) * (2 * x.a + x.c) + 3 * (x.c * x.c) + (2 * x.b + x.d) * (2 * x.b + x.d) + 3 * (x.d * x.d) := by
    simp only [Cy.norm]; grind
  have h1 := sq_nonneg (2 * x.a + x.c)
  have h2 := sq_nonneg x.c
  have h3 := sq_nonneg (2 * x.b + x.d)
  have h4 := sq_nonneg x.d
  rcases Int.lt_or_le 0 x.norm.a with hp | hp
  · exact hp
  · exfalso
    have c0 := sq_zero (show x.c * x.c = 0 by omega)
    have d0 := sq_zero (show x.d * x.d = 0 by omega)
    have a0 := sq_zero (show (2 * x.a + x.c) * (2 * x.a + x.c) = 0 by omega)
    have b0 := sq_zero (show (2 * x.b + x.d) * (2 * x.b + x.d) = 0 by omega)
    exact h (Cy.ext' (show x.a = 0 by omega) (show x.b = 0 by omega) c0 d0)
theorem norm_field (x : Cy) : x.norm.a * x.norm.a - 3 * (x.norm.b * x.norm.b) =
    (x.a*x.a + x.a*x.c + x.c*x.c - (x.b*x.b + x.b*x.d + x.d*x.d)) * (x.a*x.a + x.a*x.c + x.c*x.c - (x.b*x.b + x.b*x.d + x.d*x.d)) +
    (x.a*x.b + 2*x.a*x.d - x.b*x.c + x.c*x.d) * (x.a*x.b + 2*x.a*x.d - x.b*x.c + x.c*x.d) := by
  simp only [Cy.norm]; grind
theorem sgn_norm (x : Cy) (h : x ≠ ⟨0, 0, 0, 0⟩) : sgnS x.norm = 1 := by
  have ha := norm_pos x h
  have hs : sgn x.norm.a = 1 := by unfold sgn; rw [if_neg (by omega), if_pos ha]
  have hf := norm_field x
  have q1 := sq_nonneg (x.a*x.a + x.a*x.c + x.c*x.c - (x.b*x.b + x.b*x.d + x.d*x.d))
  have q2 := sq_nonneg (x.a*x.b + 2*x.a*x.d - x.b*x.c + x.c*x.d)
  have hle : 3 * (x.norm.b * x.norm.b) ≤ x.norm.a * x.norm.a := by omega
  have hne : x.norm.a * x.norm.a ≠ 3 * (x.norm.b * x.norm.b) := fun e => by have := (sq3 _ _ e).1; omega
  have hlt : 3 * mag x.norm.b * mag x.norm.b < mag x.norm.a * mag x.norm.a := by
    rw [Int.mul_assoc, mag_sq, mag_sq]; omega
  unfold sgnS
  rw [hs]
  simp [hlt]
theorem sgn_norm0 (x : Cy) (h : x = ⟨0, 0, 0, 0⟩) : sgnS x.norm = 0 := by subst h; decide
end Go.Sub
/- Contracts of package surd within the limits. -/
namespace Go.Sub
theorem saddR_ok {x y : Su} (hx : x.In 100000000000000000) (hy : y.In 100000000000000000) : saddR x y = ⟨x.add y, 0⟩ := by
  unfold Su.In at hx hy
  have h1 : wi4 1152921504606846976 x.a x.b y.a y.b = true := (wi4_iff _ _ _ _ _).2 (by omega)
  have h2 : wi2 1152921504606846976 (x.add y).a (x.add y).b = true := (wi2_iff _ _ _).2 (by simp only [Su.add]; omega)
  simp [saddR, limS, h1, h2]
theorem su_mul_in {x y : Su} {l m : Int} (hx : x.In l) (hy : y.In m) : (x.mul y).In (4 * (l * m)) := by
  obtain ⟨h1, h2, h3, h4⟩ := hx
  obtain ⟨k1, k2, k3, k4⟩ := hy
  have p1 := bd_mul h1 h2 k1 k2
  have p2 := bd_mul h3 h4 k3 k4
  have p3 := bd_mul h1 h2 k3 k4
  have p4 := bd_mul h3 h4 k1 k2
  unfold Su.In Su.mul
  dsimp only
  rw [Int.mul_assoc 3]
  omega
theorem Su.In.mono {x : Su} {l m : Int} (h : x.In l) (hm : l ≤ m) : x.In m := by unfold Su.In at *; omega
theorem smulR_ok {x y : Su} (hx : x.In 268435456) (hy : y.In 268435456) : smulR x y = ⟨x.mul y, 0⟩ := by
  have h3 := (su_mul_in hx hy).mono (show 4 * (268435456 * 268435456) ≤ (1152921504606846976 : Int) by decide)
  unfold Su.In at hx hy h3
  have h1 : wi4 268435456 x.a x.b y.a y.b = true := (wi4_iff _ _ _ _ _).2 (by omega)
  have h2 : wi2 1152921504606846976 (x.mul y).a (x.mul y).b = true := (wi2_iff _ _ _).2 (by omega)
  simp [smulR, limS, h1, h2]
end Go.Sub
namespace Go.Proofs.YtfdpnephjpcnbaaDoor
open Go.RowKit Go.Sub
theorem sadd_c (x y : Su) (w : World) (hx : x.In 100000000000000000) (hy : y.In 100000000000000000) :
    Calls Tryd.prog 59 #[.agg #[.int .i64 x.a, .int .i64 x.b], .agg #[.int .i64 y.a, .int .i64 y.b]] w fun e w' => e = .returned (.tuple #[.agg #[.int .i64 (x.add y).a, .int .i64 (x.add y).b], .int .i64 0]) ∧ Q w w' := by
  have h := sadd_any x.a x.b y.a y.b w
  rw [saddR_ok hx hy] at h
  exact h
end Go.Proofs.YtfdpnephjpcnbaaDoor
/- Weighted currents and their sums: plain arithmetic. No program in sight. -/
namespace Go.Sub
/-- A current, the ratio of its transformer, and whether it is counted in reverse. -/
structure Cur where
  i : Cy
  r : Int
  v : Bool
def Cur.k (c : Cur) : Int := if c.v then -c.r else c.r
def Cur.wt (c : Cur) : Cy := c.i.sc c.k
def Cur.OK (c : Cur) : Prop := c.i.In 65536 ∧ 1 ≤ c.r ∧ c.r ≤ 100
def cz : Cy := ⟨0, 0, 0, 0⟩
def sz : Su := ⟨0, 0⟩
def sumW : List Cur → Cy
  | [] => cz
  | c :: l => c.wt.add (sumW l)
def resW : List Cur → Su
  | [] => sz
  | c :: l => c.wt.norm.add (resW l)
theorem cadd_assoc (x y z : Cy) : (x.add y).add z = x.add (y.add z) := by apply Cy.ext' <;> simp only [Cy.add] <;> omega
theorem cadd_comm (x y : Cy) : x.add y = y.add x := by apply Cy.ext' <;> simp only [Cy.add] <;> omega
theorem cadd_zero (x : Cy) : x.add cz = x := by apply Cy.ext' <;> simp only [Cy.add, cz] <;> omega
theorem czero_add (x : Cy) : cz.add x = x := by rw [cadd_comm, cadd_zero]
theorem sadd_assoc (x y z : Su) : (x.add y).add z = x.add (y.add z) := by apply Su.ext' <;> simp only [Su.add] <;> omega
theorem sadd_comm (x y : Su) : x.add y = y.add x := by apply Su.ext' <;> simp only [Su.add] <;> omega
theorem sadd_zero (x : Su) : x.add sz = x := by apply Su.ext' <;> simp only [Su.add, sz] <;> omega
theorem szero_add (x : Su) : sz.add x = x := by rw [sadd_comm, sadd_zero]
theorem sumW_append (l m : List Cur) : sumW (l ++ m) = (sumW l).add (sumW m) := by
  induction l with
  | nil => exact (czero_add _).symm
  | cons c l ih => rw [List.cons_append, sumW, sumW, ih, cadd_assoc]
theorem resW_append (l m : List Cur) : resW (l ++ m) = (resW l).add (resW m) := by
  induction l with
  | nil => exact (szero_add _).symm
  | cons c l ih => rw [List.cons_append, resW, resW, ih, sadd_assoc]
theorem sumW_take {l : List Cur} {k : Nat} (h : k < l.length) : sumW (l.take (k + 1)) = (sumW (l.take k)).add l[k].wt := by
  rw [List.take_add_one, List.getElem?_eq_getElem h, sumW_append]
  simp only [Option.toList, sumW, cadd_zero]
theorem resW_take {l : List Cur} {k : Nat} (h : k < l.length) : resW (l.take (k + 1)) = (resW (l.take k)).add l[k].wt.norm := by
  rw [List.take_add_one, List.getElem?_eq_getElem h, resW_append]
  simp only [Option.toList, resW, sadd_zero]
theorem Cur.OK.k_bd {c : Cur} (h : c.OK) : -100 ≤ c.k ∧ c.k ≤ 100 := by
  obtain ⟨_, h1, h2⟩ := h
  unfold Cur.k
  split <;> omega
theorem Cur.OK.wt_in {c : Cur} (h : c.OK) : c.wt.In 6553600 := (sc_in (l := 65536) (m := 100) h.1 h.k_bd.1 h.k_bd.2).mono (by decide)
theorem Cur.OK.norm_in {c : Cur} (h : c.OK) : c.wt.norm.In 300000000000000 := (Go.Sub.norm_in h.wt_in).mono (by decide)
theorem sumW_in {l : List Cur} (h : ∀ c ∈ l, c.OK) : (sumW l).In (l.length * 6553600) := by
  induction l with
  | nil => unfold sumW cz Cy.In; simp
  | cons c l ih =>
    have h1 := Cy.add_in (h c (by simp)).wt_in (ih fun c hc => h c (by simp [hc]))
    refine Cy.In.mono h1 ?_
    simp only [List.length_cons]
    omega
theorem su_add_in {x y : Su} {l m : Int} (hx : x.In l) (hy : y.In m) : (x.add y).In (l + m) := by
  unfold Su.In Su.add at *
  dsimp only
  omega
theorem resW_in {l : List Cur} (h : ∀ c ∈ l, c.OK) : (resW l).In (l.length * 300000000000000) := by
  induction l with
  | nil => unfold resW sz Su.In; simp
  | cons c l ih =>
    have h1 := su_add_in (h c (by simp)).norm_in (ih fun c hc => h c (by simp [hc]))
    refine Su.In.mono h1 ?_
    simp only [List.length_cons]
    omega
theorem sumW_bd {l : List Cur} (h : ∀ c ∈ l, c.OK) (hl : l.length ≤ 16) : (sumW l).In 105000000 := (sumW_in h).mono (by omega)
theorem resW_bd {l : List Cur} (h : ∀ c ∈ l, c.OK) (hl : l.length ≤ 16) : (resW l).In 5000000000000000 := (resW_in h).mono (by omega)
theorem ok_take {l : List Cur} (h : ∀ c ∈ l, c.OK) (k : Nat) : ∀ c ∈ l.take k, c.OK := fun c hc => h c (List.mem_of_mem_take hc)
end Go.Sub
/- The order of the numbers a + b * sqrt(3). No program in sight. -/
namespace Go.Sub
theorem sq_le_of {p q : Int} (hq : 0 ≤ q) (h : p * p ≤ q * q) : p ≤ q := by
  rcases Int.lt_or_le q p with h1 | h1
  · have h2 := Int.mul_le_mul (show q + 1 ≤ p by omega) (show q + 1 ≤ p by omega) (by omega) (by omega)
    have e : (q + 1) * (q + 1) = q * q + 2 * q + 1 := by grind
    omega
  · exact h1
theorem sq_lt_of {p q : Int} (hq : 0 ≤ q) (h : p * p < q * q) : p < q := by
  rcases Int.lt_or_le p q with h1 | h1
  · exact h1
  · have := Int.mul_le_mul h1 h1 hq (by omega)
    omega
theorem sq_le_sq {p q : Int} (hp : 0 ≤ p) (h : p ≤ q) : p * p ≤ q * q := Int.mul_le_mul h h hp (by omega)
/-- p ≤ q * sqrt(3), for p, q that are not negative: products. -/
theorem low_mul {p q c d : Int} (_ : 0 ≤ p) (hq : 0 ≤ q) (hc : 0 ≤ c) (hd : 0 ≤ d) (h1 : p * p ≤ 3 * (q * q)) (h2 : c * c ≤ 3 * (d * d)) : p * c ≤ 3 * (q * d) := by
  have hqd := Int.mul_nonneg hq hd
  refine sq_le_of (by omega) ?_
  have h3 := Int.mul_le_mul h1 h2 (Int.mul_nonneg hc hc) (by have := Int.mul_nonneg hq hq; omega)
  have e1 : p * c * (p * c) = p * p * (c * c) := by grind
  have e2 : 3 * (q * d) * (3 * (q * d)) = 3 * (q * q) * (3 * (d * d)) := by grind
  rw [e1, e2]
  exact h3
theorem up_mul {p q c d : Int} (hp : 0 ≤ p) (hq : 0 ≤ q) (hc : 0 ≤ c) (hd : 0 ≤ d) (h1 : 3 * (q * q) ≤ p * p) (h2 : 3 * (d * d) ≤ c * c) : 3 * (q * d) ≤ p * c := by
  have hqd := Int.mul_nonneg hq hd
  refine sq_le_of (Int.mul_nonneg hp hc) ?_
  have h3 := Int.mul_le_mul h1 h2 (by have := Int.mul_nonneg hd hd; omega) (Int.mul_nonneg hp hp)
  have e1 : p * c * (p * c) = p * p * (c * c) := by grind
  have e2 : 3 * (q * d) * (3 * (q * d)) = 3 * (q * q) * (3 * (d * d)) := by grind
  rw [e1, e2]
  exact h3
theorem low_add {p q c d : Int} (hp : 0 ≤ p) (hq : 0 ≤ q) (hc : 0 ≤ c) (hd : 0 ≤ d) (h1 : p * p ≤ 3 * (q * q)) (h2 : c * c ≤ 3 * (d * d)) : (p + c) * (p + c) ≤ 3 * ((q + d) * (q + d)) := by
  have h3 := low_mul hp hq hc hd h1 h2
  have e1 : (p + c) * (p + c) = p * p + 2 * (p * c) + c * c := by grind
  have e2 : (q + d) * (q + d) = q * q + 2 * (q * d) + d * d := by grind
  rw [e1, e2]
  omega
theorem low_add' {p q c d : Int} (hp : 0 ≤ p) (hq : 0 ≤ q) (hc : 0 ≤ c) (hd : 0 ≤ d) (h1 : p * p < 3 * (q * q)) (h2 : c * c ≤ 3 * (d * d)) : (p + c) * (p + c) < 3 * ((q + d) * (q + d)) := by
  have h3 := low_mul hp hq hc hd (Int.le_of_lt h1) h2
  have e1 : (p + c) * (p + c) = p * p + 2 * (p * c) + c * c := by grind
  have e2 : (q + d) * (q + d) = q * q + 2 * (q * d) + d * d := by grind
  rw [e1, e2]
  omega
theorem up_add {p q c d : Int} (hp : 0 ≤ p) (hq : 0 ≤ q) (hc : 0 ≤ c) (hd : 0 ≤ d) (h1 : 3 * (q * q) ≤ p * p) (h2 : 3 * (d * d) ≤ c * c) : 3 * ((q + d) * (q + d)) ≤ (p + c) * (p + c) := by
  have h3 := up_mul hp hq hc hd h1 h2
  have e1 : (p + c) * (p + c) = p * p + 2 * (p * c) + c * c := by grind
  have e2 : (q + d) * (q + d) = q * q + 2 * (q * d) + d * d := by grind
  rw [e1, e2]
  omega
theorem up_add' {p q c d : Int} (hp : 0 ≤ p) (hq : 0 ≤ q) (hc : 0 ≤ c) (hd : 0 ≤ d) (h1 : 3 * (q * q) < p * p) (h2 : 3 * (d * d) ≤ c * c) : 3 * ((q + d) * (q + d)) < (p + c) * (p + c) := by
  have h3 := up_mul hp hq hc hd (Int.le_of_lt h1) h2
  have e1 : (p + c) * (p + c) = p * p + 2 * (p * c) + c * c := by grind
  have e2 : (q + d) * (q + d) = q * q + 2 * (q * d) + d * d := by grind
  rw [e1, e2]
  omega
/-- a + b * sqrt(3) is not negative. -/
def Nn (a b : Int) : Prop := (0 ≤ a ∧ 0 ≤ b) ∨ (0 ≤ a ∧ b ≤ 0 ∧ 3 * (b * b) ≤ a * a) ∨ (a ≤ 0 ∧ 0 ≤ b ∧ a * a ≤ 3 * (b * b))
theorem sgn_neg {n : Int} (h : n < 0) : sgn n = -1 := if_pos h
theorem sgn_zero : sgn 0 = 0 := rfl
theorem sgn_pos {n : Int} (h : 0 < n) : sgn n = 1 := by unfold sgn; rw [if_neg (by omega), if_pos h]
/-- The sign, by cases. -/
theorem sgnS_eq (x : Su) : sgnS x = if sgn x.a = sgn x.b ∨ sgn x.b = 0 then sgn x.a else if sgn x.a = 0 then sgn x.b else if 3 * (x.b * x.b) < x.a * x.a then sgn x.a else sgn x.b := by
  have e1 := mag_sq x.a
  have e2 := mag_sq x.b
  have e3 : 3 * mag x.b * mag x.b = 3 * (x.b * x.b) := by rw [Int.mul_assoc, e2]
  unfold sgnS
  rw [e1, e3]
theorem nn_iff (x : Su) : 0 ≤ sgnS x ↔ Nn x.a x.b := by
  rw [sgnS_eq]
  have n1 := sq_nonneg x.a
  have n2 := sq_nonneg x.b
  have hs := sq3 x.a x.b
  unfold Nn
  generalize x.a = a at *
  generalize x.b = b at *
  rcases Int.lt_trichotomy a 0 with ha | ha | ha
  · rw [sgn_neg ha]
    rcases Int.lt_trichotomy b 0 with hb | hb | hb
    · rw [sgn_neg hb]
      simp
      omega
    · subst hb
      simp [sgn_zero]
      omega
    · rw [sgn_pos hb]
      by_cases hc : 3 * (b * b) < a * a
      · simp [hc]
        omega
      · simp [hc]
        omega
  · subst ha
    rcases Int.lt_trichotomy b 0 with hb | hb | hb
    · rw [sgn_neg hb]
      have := Int.mul_pos_of_neg_of_neg hb hb
      simp [sgn_zero]
      omega
    · subst hb
      simp [sgn_zero]
    · rw [sgn_pos hb]
      simp [sgn_zero]
      omega
  · rw [sgn_pos ha]
    rcases Int.lt_trichotomy b 0 with hb | hb | hb
    · rw [sgn_neg hb]
      by_cases hc : 3 * (b * b) < a * a
      · simp [hc]
        omega
      · simp [hc]
        have : a * a ≠ 3 * (b * b) := fun e => by have := hs e; omega
        omega
    · subst hb
      simp [sgn_zero]
      omega
    · rw [sgn_pos hb]
      simp
      omega
theorem sgnS_neg (x : Su) : sgnS ⟨-x.a, -x.b⟩ = -sgnS x := by
  rw [sgnS_eq, sgnS_eq]
  have e1 : ∀ n : Int, sgn (-n) = -sgn n := by
    intro n
    rcases Int.lt_trichotomy n 0 with h | h | h
    · rw [sgn_neg h, sgn_pos (by omega)]
      rfl
    · subst h
      rfl
    · rw [sgn_pos h, sgn_neg (by omega)]
  dsimp only
  rw [e1, e1, Int.neg_mul_neg, Int.neg_mul_neg]
  generalize sgn x.a = s
  generalize sgn x.b = t
  by_cases h1 : s = t ∨ t = 0
  · rw [if_pos h1, if_pos (by omega)]
  · rw [if_neg h1, if_neg (by omega)]
    by_cases h2 : s = 0
    · rw [if_pos h2, if_pos (by omega)]
    · rw [if_neg h2, if_neg (by omega)]
      split <;> rfl
theorem sgnS_range (x : Su) : sgnS x = -1 ∨ sgnS x = 0 ∨ sgnS x = 1 := by
  have h : ∀ n, sgn n = -1 ∨ sgn n = 0 ∨ sgn n = 1 := by
    intro n
    unfold sgn
    split
    · exact .inl rfl
    · split
      · exact .inr (.inr rfl)
      · exact .inr (.inl rfl)
  have h1 := h x.a
  have h2 := h x.b
  rw [sgnS_eq]
  repeat' split
  all_goals assumption
theorem sgnS_zero (x : Su) : sgnS x = 0 ↔ x = ⟨0, 0⟩ := by
  constructor
  · intro h
    rw [sgnS_eq] at h
    have hz : ∀ n, sgn n = 0 → n = 0 := by
      intro n hn
      unfold sgn at hn
      split at hn
      · omega
      · split at hn <;> omega
    have : x.a = 0 ∧ x.b = 0 := by
      split at h
      · rename_i h1
        have ha := hz _ h
        rcases h1 with h1 | h1
        · exact ⟨ha, hz _ (h1 ▸ h)⟩
        · exact ⟨ha, hz _ h1⟩
      · rename_i h1
        split at h
        · rename_i h2
          exact absurd (.inr h) h1
        · split at h
          · rename_i h2 _
            exact absurd h h2
          · exact absurd (.inr h) h1
    exact Su.ext' this.1 this.2
  · rintro rfl
    rfl
theorem sq_abs_le {p q : Int} (h1 : -q ≤ p) (h2 : p ≤ q) : p * p ≤ q * q := by
  rcases Int.le_total 0 p with h | h
  · exact sq_le_sq h h2
  · have := sq_le_sq (p := -p) (q := q) (by omega) (by omega)
    rwa [Int.neg_mul_neg] at this
theorem nn_add23 {a b c d : Int} (ha : 0 ≤ a) (hb : b ≤ 0) (h1 : 3 * (b * b) ≤ a * a) (hc : c ≤ 0) (hd : 0 ≤ d) (h2 : c * c ≤ 3 * (d * d)) : Nn (a + c) (b + d) := by
  have eb : -b * -b = b * b := Int.neg_mul_neg b b
  have ec : -c * -c = c * c := Int.neg_mul_neg c c
  rcases Int.lt_or_le (a + c) 0 with hp | hp
  · rcases Int.lt_or_le (b + d) 0 with hq | hq
    · exfalso
      have k1 := sq_le_sq ha (show a ≤ -c - 1 by omega)
      have k2 := sq_le_sq hd (show d ≤ -b by omega)
      have e : (-c - 1) * (-c - 1) = c * c + 2 * c + 1 := by grind
      rw [eb] at k2
      omega
    · refine .inr (.inr ⟨by omega, hq, ?_⟩)
      rcases Int.lt_or_le (3 * ((b + d) * (b + d))) ((a + c) * (a + c)) with hx | hx
      · exfalso
        have k := up_add' (p := -(a + c)) (q := b + d) (c := a) (d := -b) (by omega) hq ha (by omega) (by rw [Int.neg_mul_neg]; exact hx) (by rw [eb]; exact h1)
        have e1 : b + d + -b = d := by omega
        have e2 : -(a + c) + a = -c := by omega
        rw [e1, e2, ec] at k
        omega
      · exact hx
  · rcases Int.lt_or_le (b + d) 0 with hq | hq
    · refine .inr (.inl ⟨hp, by omega, ?_⟩)
      rcases Int.lt_or_le ((a + c) * (a + c)) (3 * ((b + d) * (b + d))) with hx | hx
      · exfalso
        have k := low_add' (p := a + c) (q := -(b + d)) (c := -c) (d := d) hp (by omega) (by omega) hd (by rw [Int.neg_mul_neg]; exact hx) (by rw [ec]; exact h2)
        have e1 : a + c + -c = a := by omega
        have e2 : -(b + d) + d = -b := by omega
        rw [e1, e2, eb] at k
        omega
      · exact hx
    · exact .inl ⟨hp, hq⟩
theorem nn_add12 {a b c d : Int} (ha : 0 ≤ a) (hb : 0 ≤ b) (hc : 0 ≤ c) (_ : d ≤ 0) (h2 : 3 * (d * d) ≤ c * c) : Nn (a + c) (b + d) := by
  rcases Int.lt_or_le (b + d) 0 with hq | hq
  · refine .inr (.inl ⟨by omega, by omega, ?_⟩)
    have k1 := sq_abs_le (p := b + d) (q := -d) (by omega) (by omega)
    have k2 := sq_le_sq hc (show c ≤ a + c by omega)
    rw [Int.neg_mul_neg] at k1
    omega
  · exact .inl ⟨by omega, hq⟩
theorem nn_add13 {a b c d : Int} (ha : 0 ≤ a) (hb : 0 ≤ b) (hc : c ≤ 0) (hd : 0 ≤ d) (h2 : c * c ≤ 3 * (d * d)) : Nn (a + c) (b + d) := by
  rcases Int.lt_or_le (a + c) 0 with hp | hp
  · refine .inr (.inr ⟨by omega, by omega, ?_⟩)
    have k1 := sq_abs_le (p := a + c) (q := -c) (by omega) (by omega)
    have k2 := sq_le_sq hd (show d ≤ b + d by omega)
    rw [Int.neg_mul_neg] at k1
    omega
  · exact .inl ⟨hp, by omega⟩
theorem nn_add {a b c d : Int} (h1 : Nn a b) (h2 : Nn c d) : Nn (a + c) (b + d) := by
  rcases h1 with ⟨a1, b1⟩ | ⟨a1, b1, k1⟩ | ⟨a1, b1, k1⟩
  · rcases h2 with ⟨c1, d1⟩ | ⟨c1, d1, k2⟩ | ⟨c1, d1, k2⟩
    · exact .inl ⟨by omega, by omega⟩
    · exact nn_add12 a1 b1 c1 d1 k2
    · exact nn_add13 a1 b1 c1 d1 k2
  · rcases h2 with ⟨c1, d1⟩ | ⟨c1, d1, k2⟩ | ⟨c1, d1, k2⟩
    · rw [Int.add_comm a, Int.add_comm b]
      exact nn_add12 c1 d1 a1 b1 k1
    · refine .inr (.inl ⟨by omega, by omega, ?_⟩)
      have k := up_add (p := a) (q := -b) (c := c) (d := -d) a1 (by omega) c1 (by omega) (by rw [Int.neg_mul_neg]; exact k1) (by rw [Int.neg_mul_neg]; exact k2)
      have e : -b + -d = -(b + d) := by omega
      rwa [e, Int.neg_mul_neg] at k
    · exact nn_add23 a1 b1 k1 c1 d1 k2
  · rcases h2 with ⟨c1, d1⟩ | ⟨c1, d1, k2⟩ | ⟨c1, d1, k2⟩
    · rw [Int.add_comm a, Int.add_comm b]
      exact nn_add13 c1 d1 a1 b1 k1
    · rw [Int.add_comm a, Int.add_comm b]
      exact nn_add23 c1 d1 k2 a1 b1 k1
    · refine .inr (.inr ⟨by omega, by omega, ?_⟩)
      have k := low_add (p := -a) (q := b) (c := -c) (d := d) (by omega) b1 (by omega) d1 (by rw [Int.neg_mul_neg]; exact k1) (by rw [Int.neg_mul_neg]; exact k2)
      have e : -a + -c = -(a + c) := by omega
      rwa [e, Int.neg_mul_neg] at k
theorem nn_smul {a b k : Int} (hk : 0 ≤ k) (h : Nn a b) : Nn (k * a) (k * b) := by
  have e : ∀ n : Int, k * n * (k * n) = k * k * (n * n) := by intro n; grind
  have hkk := Int.mul_nonneg hk hk
  rcases h with ⟨a1, b1⟩ | ⟨a1, b1, k1⟩ | ⟨a1, b1, k1⟩
  · exact .inl ⟨Int.mul_nonneg hk a1, Int.mul_nonneg hk b1⟩
  · refine .inr (.inl ⟨Int.mul_nonneg hk a1, Int.mul_nonpos_of_nonneg_of_nonpos hk b1, ?_⟩)
    rw [e, e]
    have := Int.mul_le_mul_of_nonneg_left k1 hkk
    grind
  · refine .inr (.inr ⟨Int.mul_nonpos_of_nonneg_of_nonpos hk a1, Int.mul_nonneg hk b1, ?_⟩)
    rw [e, e]
    have := Int.mul_le_mul_of_nonneg_left k1 hkk
    grind
/-- The sign of a sum. -/
theorem sgnS_add {x y : Su} (hx : 0 ≤ sgnS x) (hy : 0 ≤ sgnS y) : 0 ≤ sgnS (x.add y) := (nn_iff _).2 (nn_add ((nn_iff x).1 hx) ((nn_iff y).1 hy))
theorem sgnS_neg' (x : Su) : sgnS ⟨-x.a, -x.b⟩ = -sgnS x := sgnS_neg x
theorem sgnS_add_pos {x y : Su} (hx : 0 < sgnS x) (hy : 0 ≤ sgnS y) : 0 < sgnS (x.add y) := by
  have h := sgnS_add (Int.le_of_lt hx) hy
  rcases Int.lt_or_le 0 (sgnS (x.add y)) with h1 | h1
  · exact h1
  · exfalso
    have h0 : sgnS (x.add y) = 0 := by omega
    rw [sgnS_zero] at h0
    have ea : x.a + y.a = 0 := congrArg Su.a h0
    have eb : x.b + y.b = 0 := congrArg Su.b h0
    have : (⟨-x.a, -x.b⟩ : Su) = y := Su.ext' (by dsimp only; omega) (by dsimp only; omega)
    have h2 := sgnS_neg x
    rw [this] at h2
    omega
theorem sgnS_smul {x : Su} {k : Int} (hk : 0 < k) : sgnS ⟨k * x.a, k * x.b⟩ = sgnS x := by
  have key : ∀ y : Su, 0 ≤ sgnS y → 0 ≤ sgnS ⟨k * y.a, k * y.b⟩ := fun y hy => (nn_iff _).2 (nn_smul (Int.le_of_lt hk) ((nn_iff y).1 hy))
  have hz : sgnS ⟨k * x.a, k * x.b⟩ = 0 → sgnS x = 0 := by
    rw [sgnS_zero, sgnS_zero]
    intro h
    have ea : k * x.a = 0 := congrArg Su.a h
    have eb : k * x.b = 0 := congrArg Su.b h
    have za : x.a = 0 := (Int.mul_eq_zero.1 ea).resolve_left (by omega)
    have zb : x.b = 0 := (Int.mul_eq_zero.1 eb).resolve_left (by omega)
    exact Su.ext' za zb
  have hz' : sgnS x = 0 → sgnS ⟨k * x.a, k * x.b⟩ = 0 := by
    rw [sgnS_zero, sgnS_zero]
    rintro rfl
    simp
  have h1 := key x
  have h2 := key ⟨-x.a, -x.b⟩
  rw [sgnS_neg] at h2
  dsimp only at h2
  rw [Int.mul_neg, Int.mul_neg, sgnS_neg ⟨k * x.a, k * x.b⟩] at h2
  have r1 := sgnS_range x
  have r2 := sgnS_range ⟨k * x.a, k * x.b⟩
  omega
/-- The product of two numbers that are not negative. -/
theorem nn_mul {a b c d : Int} (h1 : Nn a b) (h2 : Nn c d) : Nn (a * c + 3 * (b * d)) (a * d + b * c) := by
  -- the norm is multiplicative
  have key : (a * c + 3 * (b * d)) * (a * c + 3 * (b * d)) - 3 * ((a * d + b * c) * (a * d + b * c)) = (a * a - 3 * (b * b)) * (c * c - 3 * (d * d)) := by grind
  rcases h1 with ⟨a1, b1⟩ | ⟨a1, b1, k1⟩ | ⟨a1, b1, k1⟩
  · rcases h2 with ⟨c1, d1⟩ | ⟨c1, d1, k2⟩ | ⟨c1, d1, k2⟩
    · have p1 := Int.mul_nonneg a1 c1
      have p2 := Int.mul_nonneg b1 d1
      have p3 := Int.mul_nonneg a1 d1
      have p4 := Int.mul_nonneg b1 c1
      exact .inl ⟨by omega, by omega⟩
    · -- c ≥ |d| sqrt 3: both factors: a * (c - |d| r) + b r * (c - |d| r)
      have q1 := nn_smul a1 (show Nn c d from .inr (.inl ⟨c1, d1, k2⟩))
      have q2 : Nn (3 * (b * d)) (b * c) := by
        refine .inr (.inr ⟨?_, Int.mul_nonneg b1 c1, ?_⟩)
        · have := Int.mul_nonpos_of_nonneg_of_nonpos b1 d1
          omega
        · have := Int.mul_le_mul_of_nonneg_left k2 (Int.mul_nonneg b1 b1)
          grind
      have := nn_add q1 q2
      exact this
    · have q1 := nn_smul a1 (show Nn c d from .inr (.inr ⟨c1, d1, k2⟩))
      have q2 : Nn (3 * (b * d)) (b * c) := by
        refine .inr (.inl ⟨?_, Int.mul_nonpos_of_nonneg_of_nonpos b1 c1, ?_⟩)
        · have := Int.mul_nonneg b1 d1
          omega
        · have := Int.mul_le_mul_of_nonneg_left k2 (Int.mul_nonneg b1 b1)
          grind
      exact nn_add q1 q2
  · rcases h2 with ⟨c1, d1⟩ | ⟨c1, d1, k2⟩ | ⟨c1, d1, k2⟩
    · have q1 := nn_smul c1 (show Nn a b from .inr (.inl ⟨a1, b1, k1⟩))
      have q2 : Nn (3 * (b * d)) (a * d) := by
        refine .inr (.inr ⟨?_, Int.mul_nonneg a1 d1, ?_⟩)
        · have := Int.mul_nonpos_of_nonneg_of_nonpos d1 b1
          rw [Int.mul_comm] at this
          omega
        · have := Int.mul_le_mul_of_nonneg_left k1 (Int.mul_nonneg d1 d1)
          grind
      have := nn_add q1 q2
      rw [Int.mul_comm c a, Int.mul_comm c b, Int.add_comm (b * c)] at this
      exact this
    · have p1 := Int.mul_nonneg a1 c1
      have p2 := Int.mul_nonneg_of_nonpos_of_nonpos b1 d1
      have p3 := Int.mul_nonpos_of_nonneg_of_nonpos a1 d1
      have p4 := Int.mul_nonpos_of_nonpos_of_nonneg b1 c1
      refine .inr (.inl ⟨by omega, by omega, ?_⟩)
      have := Int.mul_nonneg (show 0 ≤ a * a - 3 * (b * b) by omega) (show 0 ≤ c * c - 3 * (d * d) by omega)
      omega
    · have p1 := Int.mul_nonpos_of_nonneg_of_nonpos a1 c1
      have p2 := Int.mul_nonpos_of_nonpos_of_nonneg b1 d1
      have p3 := Int.mul_nonneg a1 d1
      have p4 := Int.mul_nonneg_of_nonpos_of_nonpos b1 c1
      refine .inr (.inr ⟨by omega, by omega, ?_⟩)
      have := Int.mul_nonpos_of_nonneg_of_nonpos (show 0 ≤ a * a - 3 * (b * b) by omega) (show c * c - 3 * (d * d) ≤ 0 by omega)
      omega
  · rcases h2 with ⟨c1, d1⟩ | ⟨c1, d1, k2⟩ | ⟨c1, d1, k2⟩
    · have q1 := nn_smul c1 (show Nn a b from .inr (.inr ⟨a1, b1, k1⟩))
      have q2 : Nn (3 * (b * d)) (a * d) := by
        refine .inr (.inl ⟨?_, Int.mul_nonpos_of_nonpos_of_nonneg a1 d1, ?_⟩)
        · have := Int.mul_nonneg b1 d1
          omega
        · have := Int.mul_le_mul_of_nonneg_left k1 (Int.mul_nonneg d1 d1)
          grind
      have := nn_add q1 q2
      rw [Int.mul_comm c a, Int.mul_comm c b, Int.add_comm (b * c)] at this
      exact this
    · have p1 := Int.mul_nonpos_of_nonpos_of_nonneg a1 c1
      have p2 := Int.mul_nonpos_of_nonneg_of_nonpos b1 d1
      have p3 := Int.mul_nonneg_of_nonpos_of_nonpos a1 d1
      have p4 := Int.mul_nonneg b1 c1
      refine .inr (.inr ⟨by omega, by omega, ?_⟩)
      have := Int.mul_nonpos_of_nonpos_of_nonneg (show a * a - 3 * (b * b) ≤ 0 by omega) (show 0 ≤ c * c - 3 * (d * d) by omega)
      omega
    · have p1 := Int.mul_nonneg_of_nonpos_of_nonpos a1 c1
      have p2 := Int.mul_nonneg b1 d1
      have p3 := Int.mul_nonpos_of_nonpos_of_nonneg a1 d1
      have p4 := Int.mul_nonpos_of_nonneg_of_nonpos b1 c1
      refine .inr (.inl ⟨by omega, by omega, ?_⟩)
      have := Int.mul_nonneg_of_nonpos_of_nonpos (show a * a - 3 * (b * b) ≤ 0 by omega) (show c * c - 3 * (d * d) ≤ 0 by omega)
      omega
theorem sgnS_mul_nn {x y : Su} (hx : 0 ≤ sgnS x) (hy : 0 ≤ sgnS y) : 0 ≤ sgnS (x.mul y) := by
  have h := nn_mul ((nn_iff x).1 hx) ((nn_iff y).1 hy)
  rw [nn_iff]
  unfold Su.mul
  dsimp only
  rw [Int.mul_assoc]
  exact h
theorem sgnS_mul (x y : Su) : sgnS (x.mul y) = sgnS x * sgnS y := by
  have hz : sgnS (x.mul y) = 0 → sgnS x = 0 ∨ sgnS y = 0 := by
    rw [sgnS_zero, sgnS_zero, sgnS_zero]
    intro h
    have ha : x.a * y.a + 3 * x.b * y.b = 0 := congrArg Su.a h
    have hb : x.a * y.b + x.b * y.a = 0 := congrArg Su.b h
    have hn : (x.a * x.a - 3 * (x.b * x.b)) * (y.a * y.a - 3 * (y.b * y.b)) = 0 := by
      have : (x.a * x.a - 3 * (x.b * x.b)) * (y.a * y.a - 3 * (y.b * y.b)) = (x.a * y.a + 3 * x.b * y.b) * (x.a * y.a + 3 * x.b * y.b) - 3 * ((x.a * y.b + x.b * y.a) * (x.a * y.b + x.b * y.a)) := by grind
      rw [this, ha, hb]
      rfl
    rcases Int.mul_eq_zero.1 hn with h1 | h1
    · obtain ⟨e1, e2⟩ := sq3 x.a x.b (by omega)
      exact .inl (Su.ext' e1 e2)
    · obtain ⟨e1, e2⟩ := sq3 y.a y.b (by omega)
      exact .inr (Su.ext' e1 e2)
  have hz1 : sgnS x = 0 → sgnS (x.mul y) = 0 := by
    rw [sgnS_zero, sgnS_zero]
    rintro rfl
    simp [Su.mul]
  have hz2 : sgnS y = 0 → sgnS (x.mul y) = 0 := by
    rw [sgnS_zero, sgnS_zero]
    rintro rfl
    simp [Su.mul]
  have n1 : (Su.mk (-x.a) (-x.b)).mul y = ⟨-(x.mul y).a, -(x.mul y).b⟩ := by apply Su.ext' <;> simp only [Su.mul] <;> grind
  have n2 : x.mul (Su.mk (-y.a) (-y.b)) = ⟨-(x.mul y).a, -(x.mul y).b⟩ := by apply Su.ext' <;> simp only [Su.mul] <;> grind
  have n3 : (Su.mk (-x.a) (-x.b)).mul (Su.mk (-y.a) (-y.b)) = x.mul y := by apply Su.ext' <;> simp only [Su.mul] <;> grind
  have k1 := sgnS_mul_nn (x := x) (y := y)
  have k2 := sgnS_mul_nn (x := ⟨-x.a, -x.b⟩) (y := y)
  have k3 := sgnS_mul_nn (x := x) (y := ⟨-y.a, -y.b⟩)
  have k4 := sgnS_mul_nn (x := ⟨-x.a, -x.b⟩) (y := ⟨-y.a, -y.b⟩)
  rw [n1, sgnS_neg, sgnS_neg] at k2
  rw [n2, sgnS_neg, sgnS_neg] at k3
  rw [n3, sgnS_neg, sgnS_neg] at k4
  have rz := sgnS_range (x.mul y)
  have rx := sgnS_range x
  have ry := sgnS_range y
  clear n1 n2 n3
  generalize sgnS (x.mul y) = m at *
  generalize sgnS x = p at *
  generalize sgnS y = q at *
  rcases rx with rfl | rfl | rfl <;> rcases ry with rfl | rfl | rfl <;> omega
theorem sgnS_mono {a a' b : Int} (h : a ≤ a') (hn : 0 ≤ sgnS ⟨a, b⟩) : 0 ≤ sgnS ⟨a', b⟩ := by
  have h1 : 0 ≤ sgnS ⟨a' - a, 0⟩ := (nn_iff _).2 (.inl ⟨by dsimp only; omega, Int.le_refl _⟩)
  have := sgnS_add hn h1
  have e : (Su.mk a b).add ⟨a' - a, 0⟩ = ⟨a', b⟩ := by apply Su.ext' <;> simp only [Su.add] <;> omega
  rwa [e] at this
end Go.Sub
namespace Go.Sub
def scmpR (x y : Su) : Int × Int := if wi4 1152921504606846976 x.a x.b y.a y.b then (sgnS (x.sub y), 0) else (0, 1)
/-- A fundamental has at least a peak value. -/
def aboveB (c : Cy) (p : Int) : Bool := decide (0 ≤ sgnS (c.norm.sub ⟨36 * p * p, 0⟩))
end Go.Sub
namespace Go.Proofs.YtfdpnephjpcnbaaDoor
open Go.RowKit Go.Sub

set_option maxHeartbeats 1000000 in
theorem scmp_any (a b a' b' : Int) (w : World) :
    Calls Tryd.prog 34 #[.agg #[.int .i64 a, .int .i64 b], .agg #[.int .i64 a', .int .i64 b']] w fun e w' => e = .returned (.tuple #[.int .i64 (scmpR ⟨a, b⟩ ⟨a', b'⟩).1, .int .i64 (scmpR ⟨a, b⟩ ⟨a', b'⟩).2]) ∧ Q w w' := by
  by_cases h : wi4 1152921504606846976 a b a' b' = true
  · obtain ⟨l1, l2, l3, l4, m1, m2, m3, m4⟩ := (wi4_iff _ _ _ _ _).1 h
    have hR : scmpR ⟨a, b⟩ ⟨a', b'⟩ = (sgnS ⟨a - a', b - b'⟩, 0) := by simp [scmpR, h, Su.sub]
    rw [hR]
    clear hR
    go_enter Tryd.func34, Tryd.ntmps34
    go_wp2_with (first | (go_at_call 61; refine (swithin4 _ a b a' b' 1152921504606846976 _ (by omega) (by omega) (by simp [go_sem]) (by simp [go_sem]) (by simp [go_sem]) (by simp [go_sem])).mono ?_; rintro e w' ⟨rfl, rfl⟩) | (go_at_call 62; refine (sgnS_any _ _ _ (by omega) (by omega) (by omega) (by omega)).mono ?_; rintro e w' ⟨rfl, kj, rfl⟩))
    go_ret2
    refine ⟨rfl, ?_⟩
    repeat' (first | exact Q.refl _ | refine Q.alloc ?_ _ | refine Q.jk ?_ _ | refine Q.drew ?_)
  · have h : wi4 1152921504606846976 a b a' b' = false := by simpa using h
    have hR : scmpR ⟨a, b⟩ ⟨a', b'⟩ = (0, 1) := by simp [scmpR, h]
    rw [hR]
    clear hR
    go_enter Tryd.func34, Tryd.ntmps34
    go_wp2_with (go_at_call 61; refine (swithin4 _ a b a' b' 1152921504606846976 _ (by omega) (by omega) (by simp [go_sem]) (by simp [go_sem]) (by simp [go_sem]) (by simp [go_sem])).mono ?_; rintro e w' ⟨rfl, rfl⟩)
    go_ret2
    refine ⟨rfl, ?_⟩
    repeat' (first | exact Q.refl _ | refine Q.alloc ?_ _ | refine Q.jk ?_ _ | refine Q.drew ?_)
theorem scmp_c (x y : Su) (w : World) (hx : x.In 1000000000000000000) (hy : y.In 1000000000000000000) :
    Calls Tryd.prog 34 #[.agg #[.int .i64 x.a, .int .i64 x.b], .agg #[.int .i64 y.a, .int .i64 y.b]] w fun e w' => e = .returned (.tuple #[.int .i64 (sgnS (x.sub y)), .int .i64 0]) ∧ Q w w' := by
  have h := scmp_any x.a x.b y.a y.b w
  have h1 : wi4 1152921504606846976 x.a x.b y.a y.b = true := (wi4_iff _ _ _ _ _).2 (by unfold Su.In at *; omega)
  have e : scmpR x y = (sgnS (x.sub y), 0) := by simp [scmpR, h1]
  rw [show scmpR ⟨x.a, x.b⟩ ⟨y.a, y.b⟩ = _ from e] at h
  exact h

set_option maxHeartbeats 1000000 in
theorem phwithin_any (a b c d l : Int) (w : World) (h0 : 0 ≤ l) (h1 : l ≤ 1000000000000000000) :
    Calls Tryd.prog 44 #[.agg #[.int .i64 a, .int .i64 b, .int .i64 c, .int .i64 d], .int .i64 l] w fun e w' => e = .returned (.bool (wiB ⟨a, b, c, d⟩ l)) ∧ Q w w' := by
  go_enter Tryd.func44, Tryd.ntmps44
  go_wp2
  refine wp_loop_rounds 5 ?_
  repeat any_goals (rw [rounds_succ]; go_wp2)
  all_goals go_ret
  all_goals
    refine ⟨?_, (Q.refl _).alloc _⟩
    simp [wiB, brkB, *]
    try omega

set_option maxHeartbeats 1000000 in
theorem phabove_c (c : Cy) (p : Int) (w : World) (hc : c.In 16777216) (h0 : 0 ≤ p) (h1 : p ≤ 16383) :
    Calls Tryd.prog 17 #[.agg #[.int .i64 c.a, .int .i64 c.b, .int .i64 c.c, .int .i64 c.d], .int .i64 p] w fun e w' => e = .returned (.tuple #[.bool (aboveB c p), .int .i64 0]) ∧ Q w w' := by
  have hw : wiB ⟨c.a, c.b, c.c, c.d⟩ 16777216 = true := wiB_of hc
  have hn := norm_in hc
  have hp := bd_mul (show -16383 ≤ p by omega) h1 (show -16383 ≤ p by omega) h1
  have hp2 : (Su.mk (36 * p * p) 0).In 10000000000 := by unfold Su.In; dsimp only; rw [Int.mul_assoc]; omega
  have q1 : -10000000000 ≤ 36 * p * p := hp2.1
  have q2 : 36 * p * p ≤ 10000000000 := hp2.2.1
  clear hp
  go_enter Tryd.func17, Tryd.ntmps17
  go_wp2_with (first | (go_at_call 44; refine (phwithin_any _ _ _ _ _ _ (by decide) (by decide)).mono ?_; rintro e w' ⟨rfl, kj, rfl⟩) | (go_at_call 33; refine (norm_c _ _ (Cy.In.mono (by with_reducible assumption) (by decide))).mono ?_; rintro e w' ⟨rfl, kj, rfl⟩) | (go_at_call 34; refine (scmp_c _ ⟨36 * p * p, 0⟩ _ (Su.In.mono (by with_reducible assumption) (by decide)) (Su.In.mono (by with_reducible assumption) (by decide))).mono ?_; rintro e w' ⟨rfl, kj, rfl⟩))
  go_ret2
  refine ⟨rfl, ?_⟩
  repeat' (first | exact Q.refl _ | refine Q.alloc ?_ _ | refine Q.jk ?_ _ | refine Q.drew ?_)
end Go.Proofs.YtfdpnephjpcnbaaDoor
