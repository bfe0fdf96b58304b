
/- The plain laws of the distance function: loops, directions, zones. No program in sight. -/
import Derived.Test.YtomodppdolfinaaCyT
import Derived.Test.YtomodppdolfinaaVs
namespace Go.Sub
/-- The phasors of the phases, and the differences AB, BC, CA. -/
def sixC (x y z : Cy) : Nat → Cy
  | 0 => x
  | 1 => y
  | 2 => z
  | 3 => x.sub y
  | 4 => y.sub z
  | _ => z.sub x
/-- The compensation. -/
def extC (x y z : Cy) (r i : Int) : Cy := (Cy.mk r 0 0 i).mul ((x.add y).add z)
/-- The current of a loop. -/
def loopI (x y z : Cy) (r i : Int) (n : Nat) : Cy := if n < 3 then ((sixC x y z n).sc 100).add (extC x y z r i) else (sixC x y z n).sc 100
/-- The voltage of a loop. -/
def loopV (x y z : Cy) (n : Nat) : Cy := (sixC x y z n).sc 100
def dirI (p i : Cy) : Int := sgnS (p.mul (i.turn 2).conj).real
structure Zn where
  on : Bool
  fwd : Bool
  x : Int
  r : Int
  l : Int
  d : Int
def Zn.s (z : Zn) : Int := if z.fwd then 1 else -1
def insB (v i : Cy) (z : Zn) : Bool :=
  !(i.norm.eqB ⟨0, 0⟩) && decide (versS (v.mul i.conj).imag z.s i.norm (2 * z.x) ≤ 0) && decide (versS (v.mul i.conj).real z.s i.norm (2 * z.r) ≤ 0) && decide (0 ≤ versS (v.mul i.conj).real z.s i.norm (-2 * z.l))
def seesB (v i p : Cy) (z : Zn) : Bool := decide (dirI p i = z.s) && insB v i z
/-- What a zone sees in the first n loops. -/
def pickB (V I P : Nat → Cy) (S : Nat → Bool) (z : Zn) (n : Nat) : Bool := z.on && (List.range n).any fun k => S k && seesB (V k) (I k) (P k) z

theorem tn_cases {n : Nat} (hn : n < 12) : n = 0 ∨ n = 1 ∨ n = 2 ∨ n = 3 ∨ n = 4 ∨ n = 5 ∨ n = 6 ∨ n = 7 ∨ n = 8 ∨ n = 9 ∨ n = 10 ∨ n = 11 := by omega
theorem turn_mul_conj (x y : Cy) (k : Int) : (x.turn k).mul (y.turn k).conj = x.mul y.conj := by
  unfold Cy.turn
  have hn : (k % 12).toNat < 12 := by omega
  generalize (k % 12).toNat = n at hn
  rcases tn_cases hn with rfl | rfl | rfl | rfl | rfl | rfl | rfl | rfl | rfl | rfl | rfl | rfl <;>
    (apply Cy.ext' <;> simp only [Cy.tn, Cy.conj, Cy.mul] <;> grind)
theorem turn_add (x y : Cy) (k : Int) : (x.turn k).add (y.turn k) = (x.add y).turn k := by
  unfold Cy.turn
  have hn : (k % 12).toNat < 12 := by omega
  generalize (k % 12).toNat = n at hn
  rcases tn_cases hn with rfl | rfl | rfl | rfl | rfl | rfl | rfl | rfl | rfl | rfl | rfl | rfl <;>
    (apply Cy.ext' <;> simp only [Cy.tn, Cy.add] <;> omega)
theorem turn_sub (x y : Cy) (k : Int) : (x.turn k).sub (y.turn k) = (x.sub y).turn k := by
  unfold Cy.turn
  have hn : (k % 12).toNat < 12 := by omega
  generalize (k % 12).toNat = n at hn
  rcases tn_cases hn with rfl | rfl | rfl | rfl | rfl | rfl | rfl | rfl | rfl | rfl | rfl | rfl <;>
    (apply Cy.ext' <;> simp only [Cy.tn, Cy.sub] <;> omega)
theorem turn_scl (x : Cy) (m k : Int) : (x.turn k).sc m = (x.sc m).turn k := by
  unfold Cy.turn
  have hn : (k % 12).toNat < 12 := by omega
  generalize (k % 12).toNat = n at hn
  rcases tn_cases hn with rfl | rfl | rfl | rfl | rfl | rfl | rfl | rfl | rfl | rfl | rfl | rfl <;>
    (apply Cy.ext' <;> simp only [Cy.tn, Cy.sc] <;> grind)
theorem six_turn (x y z : Cy) (k : Int) (n : Nat) : sixC (x.turn k) (y.turn k) (z.turn k) n = (sixC x y z n).turn k := by
  unfold sixC
  split <;> first | rfl | exact turn_sub _ _ k
theorem ext_turn (x y z : Cy) (r i k : Int) : extC (x.turn k) (y.turn k) (z.turn k) r i = (extC x y z r i).turn k := by
  unfold extC
  rw [turn_add, turn_add, ← Cy.mul_root, ← Cy.mul_root, Cy.mul_assoc]
theorem loopI_turn (x y z : Cy) (r i k : Int) (n : Nat) : loopI (x.turn k) (y.turn k) (z.turn k) r i n = (loopI x y z r i n).turn k := by
  unfold loopI
  rw [six_turn, ext_turn, turn_scl, turn_add]
  split <;> rfl
theorem loopV_turn (x y z : Cy) (k : Int) (n : Nat) : loopV (x.turn k) (y.turn k) (z.turn k) n = (loopV x y z n).turn k := by
  unfold loopV
  rw [six_turn, turn_scl]
theorem dir_turn (p i : Cy) (k : Int) : dirI (p.turn k) (i.turn k) = dirI p i := by
  unfold dirI
  rw [Cy.turn_turn, Int.add_comm, ← Cy.turn_turn, turn_mul_conj]
theorem ins_turn (v i : Cy) (z : Zn) (k : Int) : insB (v.turn k) (i.turn k) z = insB v i z := by
  unfold insB
  rw [norm_turn, turn_mul_conj]
theorem sees_turn (v i p : Cy) (z : Zn) (k : Int) : seesB (v.turn k) (i.turn k) (p.turn k) z = seesB v i p z := by
  unfold seesB
  rw [dir_turn, ins_turn]
theorem above_turn (c : Cy) (p k : Int) : aboveB (c.turn k) p = aboveB c p := by
  unfold aboveB
  rw [norm_turn]
/-- All of a case turned. -/
theorem pick_turn (v1 v2 v3 i1 i2 i3 p1 p2 p3 : Cy) (m r i k : Int) (z : Zn) (n : Nat) :
    pickB (loopV (v1.turn k) (v2.turn k) (v3.turn k)) (loopI (i1.turn k) (i2.turn k) (i3.turn k) r i) (sixC (p1.turn k) (p2.turn k) (p3.turn k)) (fun j => aboveB (sixC (i1.turn k) (i2.turn k) (i3.turn k) j) m) z n =
    pickB (loopV v1 v2 v3) (loopI i1 i2 i3 r i) (sixC p1 p2 p3) (fun j => aboveB (sixC i1 i2 i3 j) m) z n := by
  unfold pickB
  congr 2
  funext j
  dsimp only
  rw [six_turn, above_turn, loopV_turn, loopI_turn, six_turn, sees_turn]
/-- The phases renamed. -/
theorem pick_rot (v1 v2 v3 i1 i2 i3 p1 p2 p3 : Cy) (m r i : Int) (z : Zn) :
    pickB (loopV v2 v3 v1) (loopI i2 i3 i1 r i) (sixC p2 p3 p1) (fun j => aboveB (sixC i2 i3 i1 j) m) z 6 =
    pickB (loopV v1 v2 v3) (loopI i1 i2 i3 r i) (sixC p1 p2 p3) (fun j => aboveB (sixC i1 i2 i3 j) m) z 6 := by
  have e : extC i2 i3 i1 r i = extC i1 i2 i3 r i := by
    unfold extC
    congr 1
    apply Cy.ext' <;> simp only [Cy.add] <;> omega
  have l0 : loopI i2 i3 i1 r i 0 = loopI i1 i2 i3 r i 1 := by
    show ((sixC i2 i3 i1 0).sc 100).add (extC i2 i3 i1 r i) = ((sixC i1 i2 i3 1).sc 100).add (extC i1 i2 i3 r i)
    rw [e]
    rfl
  have t0 : (aboveB (sixC i2 i3 i1 0) m && seesB (loopV v2 v3 v1 0) (loopI i2 i3 i1 r i 0) (sixC p2 p3 p1 0) z) = (aboveB (sixC i1 i2 i3 1) m && seesB (loopV v1 v2 v3 1) (loopI i1 i2 i3 r i 1) (sixC p1 p2 p3 1) z) := by rw [l0]; rfl
  have l1 : loopI i2 i3 i1 r i 1 = loopI i1 i2 i3 r i 2 := by
    show ((sixC i2 i3 i1 1).sc 100).add (extC i2 i3 i1 r i) = ((sixC i1 i2 i3 2).sc 100).add (extC i1 i2 i3 r i)
    rw [e]
    rfl
  have t1 : (aboveB (sixC i2 i3 i1 1) m && seesB (loopV v2 v3 v1 1) (loopI i2 i3 i1 r i 1) (sixC p2 p3 p1 1) z) = (aboveB (sixC i1 i2 i3 2) m && seesB (loopV v1 v2 v3 2) (loopI i1 i2 i3 r i 2) (sixC p1 p2 p3 2) z) := by rw [l1]; rfl
  have l2 : loopI i2 i3 i1 r i 2 = loopI i1 i2 i3 r i 0 := by
    show ((sixC i2 i3 i1 2).sc 100).add (extC i2 i3 i1 r i) = ((sixC i1 i2 i3 0).sc 100).add (extC i1 i2 i3 r i)
    rw [e]
    rfl
  have t2 : (aboveB (sixC i2 i3 i1 2) m && seesB (loopV v2 v3 v1 2) (loopI i2 i3 i1 r i 2) (sixC p2 p3 p1 2) z) = (aboveB (sixC i1 i2 i3 0) m && seesB (loopV v1 v2 v3 0) (loopI i1 i2 i3 r i 0) (sixC p1 p2 p3 0) z) := by rw [l2]; rfl
  have l3 : loopI i2 i3 i1 r i 3 = loopI i1 i2 i3 r i 4 := rfl
  have t3 : (aboveB (sixC i2 i3 i1 3) m && seesB (loopV v2 v3 v1 3) (loopI i2 i3 i1 r i 3) (sixC p2 p3 p1 3) z) = (aboveB (sixC i1 i2 i3 4) m && seesB (loopV v1 v2 v3 4) (loopI i1 i2 i3 r i 4) (sixC p1 p2 p3 4) z) := by rw [l3]; rfl
  have l4 : loopI i2 i3 i1 r i 4 = loopI i1 i2 i3 r i 5 := rfl
  have t4 : (aboveB (sixC i2 i3 i1 4) m && seesB (loopV v2 v3 v1 4) (loopI i2 i3 i1 r i 4) (sixC p2 p3 p1 4) z) = (aboveB (sixC i1 i2 i3 5) m && seesB (loopV v1 v2 v3 5) (loopI i1 i2 i3 r i 5) (sixC p1 p2 p3 5) z) := by rw [l4]; rfl
  have l5 : loopI i2 i3 i1 r i 5 = loopI i1 i2 i3 r i 3 := rfl
  have t5 : (aboveB (sixC i2 i3 i1 5) m && seesB (loopV v2 v3 v1 5) (loopI i2 i3 i1 r i 5) (sixC p2 p3 p1 5) z) = (aboveB (sixC i1 i2 i3 3) m && seesB (loopV v1 v2 v3 3) (loopI i1 i2 i3 r i 3) (sixC p1 p2 p3 3) z) := by rw [l5]; rfl
  have e6 : ∀ f : Nat → Bool, (List.range 6).any f = (f 0 || (f 1 || (f 2 || (f 3 || (f 4 || f 5))))) := by
    intro f
    simp only [show List.range 6 = [0, 1, 2, 3, 4, 5] from rfl, List.any_cons, List.any_nil, Bool.or_false]
  have key : ∀ b1 b2 b3 b4 b5 b6 : Bool, (b2 || (b3 || (b1 || (b5 || (b6 || b4))))) = (b1 || (b2 || (b3 || (b4 || (b5 || b6))))) := by decide
  unfold pickB
  refine congrArg (z.on && ·) ?_
  rw [e6, e6]
  with_reducible dsimp only
  rw [t0, t1, t2, t3, t4, t5]
  with_reducible exact key _ _ _ _ _ _
theorem turn6 (x : Cy) : x.turn 6 = x.neg := rfl
theorem dir_neg (p i : Cy) : dirI p (i.turn 6) = -dirI p i := by
  unfold dirI
  rw [← sgnS_neg]
  congr 1
  apply Su.ext' <;> simp only [Cy.turn, Cy.tn, Cy.conj, Cy.mul, Cy.real, Int.reduceMod, Int.reduceToNat] <;> grind
def Zn.rev (z : Zn) : Zn := if z.on then { z with fwd := !z.fwd } else z
theorem ins_neg (v i : Cy) (z : Zn) (hz : z.on = true) : insB v (i.turn 6) z.rev = insB v i z := by
  have e1 : ∀ (x d : Su) (k : Int), versS ⟨-x.a, -x.b⟩ z.rev.s d k = versS x z.s d k := by
    intro x d k
    unfold versS
    have : z.rev.s = -z.s := by simp only [Zn.rev, hz, if_true, Zn.s]; cases z.fwd <;> rfl
    rw [this]
    simp only [Int.neg_mul_neg]
  have e2 : (v.mul (i.turn 6).conj).imag = ⟨-(v.mul i.conj).imag.a, -(v.mul i.conj).imag.b⟩ := by
    apply Su.ext' <;> simp only [Cy.turn, Cy.tn, Cy.conj, Cy.mul, Cy.imag, Int.reduceMod, Int.reduceToNat] <;> grind
  have e3 : (v.mul (i.turn 6).conj).real = ⟨-(v.mul i.conj).real.a, -(v.mul i.conj).real.b⟩ := by
    apply Su.ext' <;> simp only [Cy.turn, Cy.tn, Cy.conj, Cy.mul, Cy.real, Int.reduceMod, Int.reduceToNat] <;> grind
  have e4 : z.rev.x = z.x ∧ z.rev.r = z.r ∧ z.rev.l = z.l := by unfold Zn.rev; split <;> exact ⟨rfl, rfl, rfl⟩
  unfold insB
  rw [norm_turn, e2, e3, e1, e1, e1, e4.1, e4.2.1, e4.2.2]
theorem sees_neg (v i p : Cy) (z : Zn) (hz : z.on = true) : seesB v (i.turn 6) p z.rev = seesB v i p z := by
  have h : z.rev.s = -z.s := by simp only [Zn.rev, hz, if_true, Zn.s]; cases z.fwd <;> rfl
  unfold seesB
  rw [dir_neg, ins_neg v i z hz, h]
  congr 1
  rw [Bool.eq_iff_iff]
  simp only [decide_eq_true_eq]
  omega
/-- All currents negated, and the zone reversed. -/
theorem pick_neg (v1 v2 v3 i1 i2 i3 p1 p2 p3 : Cy) (m r i : Int) (z : Zn) (n : Nat) :
    pickB (loopV v1 v2 v3) (loopI (i1.turn 6) (i2.turn 6) (i3.turn 6) r i) (sixC p1 p2 p3) (fun j => aboveB (sixC (i1.turn 6) (i2.turn 6) (i3.turn 6) j) m) z.rev n =
    pickB (loopV v1 v2 v3) (loopI i1 i2 i3 r i) (sixC p1 p2 p3) (fun j => aboveB (sixC i1 i2 i3 j) m) z n := by
  have h0 : z.rev.on = z.on := by unfold Zn.rev; split <;> rfl
  cases hz : z.on
  · unfold pickB
    rw [h0, hz]
    rfl
  · unfold pickB
    rw [h0]
    congr 2
    funext j
    dsimp only
    rw [six_turn, above_turn, loopI_turn, sees_neg _ _ _ _ hz]
theorem vers_mono {x d : Su} {s k k' : Int} (hd : 0 ≤ sgnS d) (hk : k ≤ k') (h : versS x s d k ≤ 0) : versS x s d k' ≤ 0 := by
  unfold versS at *
  have h1 := sgnS_neg ⟨s * x.a - k * d.a, s * x.b - k * d.b⟩
  have h2 := sgnS_neg ⟨s * x.a - k' * d.a, s * x.b - k' * d.b⟩
  dsimp only at h1 h2
  have h3 : 0 ≤ sgnS ⟨(k' - k) * d.a, (k' - k) * d.b⟩ := (nn_iff _).2 (nn_smul (by omega) ((nn_iff d).1 hd))
  have h4 := sgnS_add (show 0 ≤ sgnS ⟨-(s * x.a - k * d.a), -(s * x.b - k * d.b)⟩ by omega) h3
  have e : Su.add ⟨-(s * x.a - k * d.a), -(s * x.b - k * d.b)⟩ ⟨(k' - k) * d.a, (k' - k) * d.b⟩ = ⟨-(s * x.a - k' * d.a), -(s * x.b - k' * d.b)⟩ := by
    apply Su.ext' <;> simp only [Su.add] <;> grind
  rw [e] at h4
  omega
theorem vers_mono' {x d : Su} {s k k' : Int} (hd : 0 ≤ sgnS d) (hk : k' ≤ k) (h : 0 ≤ versS x s d k) : 0 ≤ versS x s d k' := by
  unfold versS at *
  have h3 : 0 ≤ sgnS ⟨(k - k') * d.a, (k - k') * d.b⟩ := (nn_iff _).2 (nn_smul (by omega) ((nn_iff d).1 hd))
  have h4 := sgnS_add h h3
  have e : Su.add ⟨s * x.a - k * d.a, s * x.b - k * d.b⟩ ⟨(k - k') * d.a, (k - k') * d.b⟩ = ⟨s * x.a - k' * d.a, s * x.b - k' * d.b⟩ := by
    apply Su.ext' <;> simp only [Su.add] <;> grind
  rw [e] at h4
  exact h4
theorem norm_nn (x : Cy) : 0 ≤ sgnS x.norm := by
  by_cases h : x = ⟨0, 0, 0, 0⟩
  · rw [sgn_norm0 x h]; omega
  · rw [sgn_norm x h]; omega
theorem norm_eq0 (x : Cy) : x.norm.eqB ⟨0, 0⟩ = true ↔ x = ⟨0, 0, 0, 0⟩ := by
  rw [Su.eqB_iff]
  constructor
  · intro h
    by_cases h0 : x = ⟨0, 0, 0, 0⟩
    · exact h0
    · have := sgn_norm x h0
      rw [h] at this
      exact absurd this (by decide)
  · rintro rfl; rfl
/-- A zone that is larger in all directions. -/
def Zn.le (z z' : Zn) : Prop := z.on = z'.on ∧ z.fwd = z'.fwd ∧ z.x ≤ z'.x ∧ z.r ≤ z'.r ∧ z.l ≤ z'.l
theorem ins_mono {v i : Cy} {z z' : Zn} (hz : z.le z') (h : insB v i z = true) : insB v i z' = true := by
  obtain ⟨_, h1, h2, h3, h4⟩ := hz
  have hs : z.s = z'.s := by unfold Zn.s; rw [h1]
  unfold insB at *
  rw [← hs]
  simp only [Bool.and_eq_true, decide_eq_true_eq] at h ⊢
  obtain ⟨⟨⟨h5, h6⟩, h7⟩, h8⟩ := h
  exact ⟨⟨⟨h5, vers_mono (norm_nn i) (by omega) h6⟩, vers_mono (norm_nn i) (by omega) h7⟩, vers_mono' (norm_nn i) (by omega) h8⟩
theorem sees_mono {v i p : Cy} {z z' : Zn} (hz : z.le z') (h : seesB v i p z = true) : seesB v i p z' = true := by
  have hs : z.s = z'.s := by unfold Zn.s; rw [hz.2.1]
  unfold seesB at *
  rw [← hs]
  rw [Bool.and_eq_true] at h ⊢
  exact ⟨h.1, ins_mono hz h.2⟩
theorem above_mono {c : Cy} {p p' : Int} (h0 : 0 ≤ p') (hp : p' ≤ p) (h : aboveB c p = true) : aboveB c p' = true := by
  unfold aboveB at *
  rw [decide_eq_true_eq] at h ⊢
  have h1 := sq_le_sq h0 hp
  refine sgnS_mono (a := (c.norm.sub ⟨36 * p * p, 0⟩).a) ?_ h
  simp only [Su.sub]
  rw [Int.mul_assoc, Int.mul_assoc]
  omega
theorem pick_mono {V I P : Nat → Cy} {C : Nat → Cy} {m m' : Int} {z z' : Zn} {n : Nat} (hz : z.le z') (h0 : 0 ≤ m') (hm : m' ≤ m) (h : pickB V I P (fun j => aboveB (C j) m) z n = true) : pickB V I P (fun j => aboveB (C j) m') z' n = true := by
  unfold pickB at *
  rw [← hz.1]
  simp only [Bool.and_eq_true, List.any_eq_true] at h ⊢
  obtain ⟨h1, k, hk, h2, h3⟩ := h
  exact ⟨h1, k, hk, above_mono h0 hm h2, sees_mono hz h3⟩
/-- A loop whose voltage is its current times r + jx. -/
theorem ins_imp (i : Cy) (r x : Int) (z : Zn) (hf : z.fwd = true) : insB (i.mul ⟨r, 0, 0, x⟩) i z = (!(Cy.eqB i ⟨0, 0, 0, 0⟩) && decide (x ≤ z.x) && decide (r ≤ z.r) && decide (-z.l ≤ r)) := by
  by_cases h : i = ⟨0, 0, 0, 0⟩
  · have e1 : i.norm.eqB ⟨0, 0⟩ = true := (norm_eq0 i).2 h
    have e2 : Cy.eqB i ⟨0, 0, 0, 0⟩ = true := (Cy.eqB_iff _ _).2 h
    unfold insB
    rw [e1, e2]
    rfl
  · have hn := sgn_norm i h
    have e1 : i.norm.eqB ⟨0, 0⟩ = false := by
      rw [Bool.eq_false_iff]; intro h1; exact h ((norm_eq0 i).1 h1)
    have e2 : Cy.eqB i ⟨0, 0, 0, 0⟩ = false := by
      rw [Bool.eq_false_iff]; intro h1; exact h ((Cy.eqB_iff _ _).1 h1)
    have e3 : ((i.mul ⟨r, 0, 0, x⟩).mul i.conj).imag = ⟨2 * x * i.norm.a, 2 * x * i.norm.b⟩ := by
      apply Su.ext' <;> simp only [Cy.conj, Cy.mul, Cy.imag, Cy.norm] <;> grind
    have e4 : ((i.mul ⟨r, 0, 0, x⟩).mul i.conj).real = ⟨2 * r * i.norm.a, 2 * r * i.norm.b⟩ := by
      apply Su.ext' <;> simp only [Cy.conj, Cy.mul, Cy.real, Cy.norm] <;> grind
    have hs : z.s = 1 := by unfold Zn.s; rw [hf]; rfl
    have e5 : ∀ n k : Int, versS ⟨n * i.norm.a, n * i.norm.b⟩ 1 i.norm k = sgn (n - k) := by
      intro n k
      have e : versS ⟨n * i.norm.a, n * i.norm.b⟩ 1 i.norm k = sgnS ⟨(n - k) * i.norm.a, (n - k) * i.norm.b⟩ := by
        unfold versS
        congr 1
        apply Su.ext' <;> simp only [] <;> grind
      rw [e]
      rcases Int.lt_trichotomy (n - k) 0 with h1 | h1 | h1
      · have h2 := sgnS_neg ⟨(n - k) * i.norm.a, (n - k) * i.norm.b⟩
        have e6 : Su.mk (-((n - k) * i.norm.a)) (-((n - k) * i.norm.b)) = ⟨(k - n) * i.norm.a, (k - n) * i.norm.b⟩ := by
          apply Su.ext' <;> simp only [] <;> grind
        dsimp only at h2
        rw [e6, sgnS_smul (show 0 < k - n by omega), hn] at h2
        rw [sgn_neg h1]
        omega
      · rw [h1, Int.zero_mul, Int.zero_mul]
        rfl
      · rw [sgnS_smul h1, hn, sgn_pos h1]
    have e7 : ∀ n : Int, (sgn n ≤ 0 ↔ n ≤ 0) ∧ (0 ≤ sgn n ↔ 0 ≤ n) := by
      intro n
      unfold sgn
      split
      · omega
      · split <;> omega
    unfold insB
    rw [e1, e2, e3, e4, hs, e5, e5, e5]
    congr 1
    · congr 1
      · congr 1
        rw [Bool.eq_iff_iff]
        simp only [decide_eq_true_eq, (e7 _).1]
        omega
      · rw [Bool.eq_iff_iff]
        simp only [decide_eq_true_eq, (e7 _).1]
        omega
    · rw [Bool.eq_iff_iff]
      simp only [decide_eq_true_eq, (e7 _).2]
      omega
theorem dir_own (p : Cy) (n : Int) (hn : 0 < n) : dirI p ((p.turn (-2)).sc n) = if Cy.eqB p ⟨0, 0, 0, 0⟩ then 0 else 1 := by
  have e : (p.mul (((p.turn (-2)).sc n).turn 2).conj).real = ⟨(2 * n) * p.norm.a, (2 * n) * p.norm.b⟩ := by
    apply Su.ext' <;> simp only [Cy.turn, Cy.tn, Cy.sc, Cy.conj, Cy.mul, Cy.real, Cy.norm, Int.reduceMod, Int.reduceToNat, Int.reduceNeg] <;> grind
  unfold dirI
  rw [e, sgnS_smul (show 0 < 2 * n by omega)]
  by_cases h : p = ⟨0, 0, 0, 0⟩
  · rw [sgn_norm0 p h, (Cy.eqB_iff _ _).2 h]; rfl
  · rw [sgn_norm p h, if_neg (fun h1 => h ((Cy.eqB_iff _ _).1 h1))]
theorem dir_side (p : Cy) (n : Int) : dirI p (((p.turn (-2)).sc n).turn 3) = 0 := by
  have e : (p.mul ((((p.turn (-2)).sc n).turn 3).turn 2).conj).real = ⟨0, 0⟩ := by
    apply Su.ext' <;> simp only [Cy.turn, Cy.tn, Cy.sc, Cy.conj, Cy.mul, Cy.real, Int.reduceMod, Int.reduceToNat, Int.reduceNeg] <;> grind
  unfold dirI
  rw [e]
  rfl
theorem dir_none (i : Cy) : dirI ⟨0, 0, 0, 0⟩ i = 0 := by
  have e : ((Cy.mk 0 0 0 0).mul (i.turn 2).conj).real = ⟨0, 0⟩ := by
    apply Su.ext' <;> simp [Cy.mul, Cy.real]
  unfold dirI
  rw [e]
  rfl
/-- The compensation, as the reference reckons it. -/
theorem ext_ref (x y z : Cy) (r i : Int) : extC x y z r i = (((x.add y).add z).sc r).add ((((x.add y).add z).turn 3).sc i) := by
  unfold extC
  apply Cy.ext' <;> simp only [Cy.turn, Cy.tn, Cy.sc, Cy.mul, Cy.add, Int.reduceMod, Int.reduceToNat] <;> grind
theorem ext_none (x y : Cy) (r i : Int) : extC x y ((Cy.mk 0 0 0 0).sub (x.add y)) r i = ⟨0, 0, 0, 0⟩ := by
  have e : (x.add y).add ((Cy.mk 0 0 0 0).sub (x.add y)) = ⟨0, 0, 0, 0⟩ := by
    apply Cy.ext' <;> simp only [Cy.add, Cy.sub] <;> omega
  unfold extC
  rw [e]
  apply Cy.ext' <;> simp [Cy.mul]
theorem six_in {x y z : Cy} {l : Int} (hx : x.In l) (hy : y.In l) (hz : z.In l) (n : Nat) : (sixC x y z n).In (2 * l) := by
  have h0 : 0 ≤ l := by unfold Cy.In at hx; omega
  unfold sixC
  split
  · exact hx.mono (by omega)
  · exact hy.mono (by omega)
  · exact hz.mono (by omega)
  · exact (Cy.sub_in hx hy).mono (by omega)
  · exact (Cy.sub_in hy hz).mono (by omega)
  · exact (Cy.sub_in hz hx).mono (by omega)
theorem ext_in {x y z : Cy} {r i : Int} (hx : x.In 65536) (hy : y.In 65536) (hz : z.In 65536) (r0 : -200 ≤ r) (r1 : r ≤ 200) (i0 : -200 ≤ i) (i1 : i ≤ 200) : (extC x y z r i).In 117964800 := by
  have h := Cy.add_in (Cy.add_in hx hy) hz
  unfold extC
  generalize (x.add y).add z = s at h
  obtain ⟨s1, s2, s3, s4, s5, s6, s7, s8⟩ := h
  simp only [Int.reduceAdd] at s1 s2 s3 s4 s5 s6 s7 s8
  have a1 := bd_mul r0 r1 s1 s2
  have a2 := bd_mul r0 r1 s3 s4
  have a3 := bd_mul r0 r1 s5 s6
  have a4 := bd_mul r0 r1 s7 s8
  have b1 := bd_mul i0 i1 s1 s2
  have b2 := bd_mul i0 i1 s3 s4
  have b3 := bd_mul i0 i1 s5 s6
  have b4 := bd_mul i0 i1 s7 s8
  unfold Cy.In Cy.mul
  simp only [Int.zero_mul]
  omega
end Go.Sub
