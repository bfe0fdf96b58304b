
/- What apart and Versus of package surd return where the products are small. -/
import Derived.Test.YtcjflafjmdfanaaGreatDoorBq01
import Derived.Test.YtcjflafjmdfanaaGreatDoorBq10
import Derived.ProofKit
import Derived.OpenShut
import Derived.Lib.LaidTab
import Derived.Lib.SmallJoins
import Derived.Carry
import Derived.Deep.DeepHandedRow
import Derived.MakeChecks
import Derived.Outline
import Derived.IntWalk
set_option linter.unusedSimpArgs false
set_option linter.unusedVariables false
/- What Scale of package cyclo returns. -/
namespace Go.Sub
def scaleR (x : Cy) (k : Int) : R4 := if wiB x 576460752303423488 && !(brkB 576460752303423488 k) then limR ⟨x.a * k, x.b * k, x.c * k, x.d * k⟩ else ⟨zeroC, 1⟩
theorem sscale_cases (a b k : Int) (h1 : -576460752303423488 ≤ a) (h2 : a ≤ 576460752303423488) (h3 : -576460752303423488 ≤ b) (h4 : b ≤ 576460752303423488) (h5 : -576460752303423488 ≤ k) (h6 : k ≤ 576460752303423488) :
    sscaleR ⟨a, b⟩ k = ⟨⟨a * k, b * k⟩, 0⟩ ∨ (sscaleR ⟨a, b⟩ k = ⟨⟨0, 0⟩, 2⟩ ∧ ¬ (-576460752303423488 ≤ a * k ∧ a * k ≤ 576460752303423488 ∧ -576460752303423488 ≤ b * k ∧ b * k ≤ 576460752303423488)) := by
  have h : wi3 1152921504606846976 a b k = true := (wi3_iff _ _ _ _).2 (by omega)
  cases e : wi2 1152921504606846976 (a * k) (b * k)
  · right
    refine ⟨by simp [sscaleR, h, limS, e, zeroS], fun hh => ?_⟩
    have : wi2 1152921504606846976 (a * k) (b * k) = true := (wi2_iff _ _ _).2 (by omega)
    rw [e] at this
    cases this
  · left
    simp [sscaleR, h, limS, e]
theorem limR_no (a b c d : Int) (h : ¬ (-576460752303423488 ≤ a ∧ a ≤ 576460752303423488 ∧ -576460752303423488 ≤ b ∧ b ≤ 576460752303423488) ∨ ¬ (-576460752303423488 ≤ c ∧ c ≤ 576460752303423488 ∧ -576460752303423488 ≤ d ∧ d ≤ 576460752303423488)) : limR ⟨a, b, c, d⟩ = ⟨zeroC, 2⟩ := by
  cases e : wiB ⟨a, b, c, d⟩ 576460752303423488
  · simp [limR, e]
  · have := wiB_in e
    unfold Cy.In at this
    dsimp only at this
    omega
end Go.Sub
namespace Go.Proofs.YtcjflafjmdfanaaGreatDoor
open Go.RowKit Go.Sub

set_option maxHeartbeats 1000000 in
theorem scale_ok (a b c d k : Int) (w : World) (h : wiB ⟨a, b, c, d⟩ 576460752303423488 = true) (hk : brkB 576460752303423488 k = false) (h1 : sscaleR ⟨a, b⟩ k = ⟨⟨a * k, b * k⟩, 0⟩) (h2 : sscaleR ⟨c, d⟩ k = ⟨⟨c * k, d * k⟩, 0⟩) :
    Calls Tryz.prog 99 #[.agg #[.int .i64 a, .int .i64 b, .int .i64 c, .int .i64 d], .int .i64 k] w fun e w' => e = .returned (.tuple #[.agg #[.int .i64 (limR ⟨a * k, b * k, c * k, d * k⟩).v.a, .int .i64 (limR ⟨a * k, b * k, c * k, d * k⟩).v.b, .int .i64 (limR ⟨a * k, b * k, c * k, d * k⟩).v.c, .int .i64 (limR ⟨a * k, b * k, c * k, d * k⟩).v.d], .int .i64 (limR ⟨a * k, b * k, c * k, d * k⟩).e]) ∧ Q w w' := by
  go_enter Tryz.func99, Tryz.ntmps99
  go_wp2_with (first | (go_at_call 122; refine (within_any _ _ _ _ _ _ (by omega) (by omega)).mono ?_; rintro e w' ⟨rfl, kj, rfl⟩) | (go_at_call 123; refine (broken_any _ _ _ (by omega) (by omega)).mono ?_; rintro e w' ⟨rfl, rfl⟩) | (go_at_call 124; refine (sscale_any _ _ _ _).mono ?_; rintro e w' ⟨rfl, kj, rfl⟩) | (go_at_call 125; refine (limited_any _ _ _ _ _).mono ?_; rintro e w' ⟨rfl, kj, rfl⟩))
  refine bodyPost_ret (v := .tuple #[.agg #[.int .i64 (limR ⟨a * k, b * k, c * k, d * k⟩).v.a, .int .i64 (limR ⟨a * k, b * k, c * k, d * k⟩).v.b, .int .i64 (limR ⟨a * k, b * k, c * k, d * k⟩).v.c, .int .i64 (limR ⟨a * k, b * k, c * k, d * k⟩).v.d], .int .i64 (limR ⟨a * k, b * k, c * k, d * k⟩).e]) (by simp [results, Tryz.results99, go_sem]) rfl ⟨rfl, ?_⟩
  repeat' (first | exact Q.refl _ | refine Q.alloc ?_ _ | refine Q.jk ?_ _ | refine Q.drew ?_)

set_option maxHeartbeats 1000000 in
theorem scale_no1 (a b c d k : Int) (w : World) (h : wiB ⟨a, b, c, d⟩ 576460752303423488 = true) (hk : brkB 576460752303423488 k = false) (h1 : sscaleR ⟨a, b⟩ k = ⟨⟨0, 0⟩, 2⟩) :
    Calls Tryz.prog 99 #[.agg #[.int .i64 a, .int .i64 b, .int .i64 c, .int .i64 d], .int .i64 k] w fun e w' => e = .returned (.tuple #[.agg #[.int .i64 (R4.mk zeroC 2).v.a, .int .i64 (R4.mk zeroC 2).v.b, .int .i64 (R4.mk zeroC 2).v.c, .int .i64 (R4.mk zeroC 2).v.d], .int .i64 (R4.mk zeroC 2).e]) ∧ Q w w' := by
  go_enter Tryz.func99, Tryz.ntmps99
  go_wp2_with (first | (go_at_call 122; refine (within_any _ _ _ _ _ _ (by omega) (by omega)).mono ?_; rintro e w' ⟨rfl, kj, rfl⟩) | (go_at_call 123; refine (broken_any _ _ _ (by omega) (by omega)).mono ?_; rintro e w' ⟨rfl, rfl⟩) | (go_at_call 124; refine (sscale_any _ _ _ _).mono ?_; rintro e w' ⟨rfl, kj, rfl⟩) | (go_at_call 125; refine (limited_any _ _ _ _ _).mono ?_; rintro e w' ⟨rfl, kj, rfl⟩))
  refine bodyPost_ret (v := .tuple #[.agg #[.int .i64 (R4.mk zeroC 2).v.a, .int .i64 (R4.mk zeroC 2).v.b, .int .i64 (R4.mk zeroC 2).v.c, .int .i64 (R4.mk zeroC 2).v.d], .int .i64 (R4.mk zeroC 2).e]) (by simp [results, Tryz.results99, go_sem, zeroC]) rfl ⟨rfl, ?_⟩
  repeat' (first | exact Q.refl _ | refine Q.alloc ?_ _ | refine Q.jk ?_ _ | refine Q.drew ?_)

set_option maxHeartbeats 1000000 in
theorem scale_no2 (a b c d k : Int) (w : World) (h : wiB ⟨a, b, c, d⟩ 576460752303423488 = true) (hk : brkB 576460752303423488 k = false) (h1 : sscaleR ⟨a, b⟩ k = ⟨⟨a * k, b * k⟩, 0⟩) (h2 : sscaleR ⟨c, d⟩ k = ⟨⟨0, 0⟩, 2⟩) :
    Calls Tryz.prog 99 #[.agg #[.int .i64 a, .int .i64 b, .int .i64 c, .int .i64 d], .int .i64 k] w fun e w' => e = .returned (.tuple #[.agg #[.int .i64 (R4.mk zeroC 2).v.a, .int .i64 (R4.mk zeroC 2).v.b, .int .i64 (R4.mk zeroC 2).v.c, .int .i64 (R4.mk zeroC 2).v.d], .int .i64 (R4.mk zeroC 2).e]) ∧ Q w w' := by
  go_enter Tryz.func99, Tryz.ntmps99
  go_wp2_with (first | (go_at_call 122; refine (within_any _ _ _ _ _ _ (by omega) (by omega)).mono ?_; rintro e w' ⟨rfl, kj, rfl⟩) | (go_at_call 123; refine (broken_any _ _ _ (by omega) (by omega)).mono ?_; rintro e w' ⟨rfl, rfl⟩) | (go_at_call 124; refine (sscale_any _ _ _ _).mono ?_; rintro e w' ⟨rfl, kj, rfl⟩) | (go_at_call 125; refine (limited_any _ _ _ _ _).mono ?_; rintro e w' ⟨rfl, kj, rfl⟩))
  refine bodyPost_ret (v := .tuple #[.agg #[.int .i64 (R4.mk zeroC 2).v.a, .int .i64 (R4.mk zeroC 2).v.b, .int .i64 (R4.mk zeroC 2).v.c, .int .i64 (R4.mk zeroC 2).v.d], .int .i64 (R4.mk zeroC 2).e]) (by simp [results, Tryz.results99, go_sem, zeroC]) rfl ⟨rfl, ?_⟩
  repeat' (first | exact Q.refl _ | refine Q.alloc ?_ _ | refine Q.jk ?_ _ | refine Q.drew ?_)

set_option maxHeartbeats 1000000 in
theorem scale_any (a b c d k : Int) (w : World) :
    Calls Tryz.prog 99 #[.agg #[.int .i64 a, .int .i64 b, .int .i64 c, .int .i64 d], .int .i64 k] w fun e w' => e = .returned (.tuple #[.agg #[.int .i64 (scaleR ⟨a, b, c, d⟩ k).v.a, .int .i64 (scaleR ⟨a, b, c, d⟩ k).v.b, .int .i64 (scaleR ⟨a, b, c, d⟩ k).v.c, .int .i64 (scaleR ⟨a, b, c, d⟩ k).v.d], .int .i64 (scaleR ⟨a, b, c, d⟩ k).e]) ∧ Q w w' := by
  by_cases h : wiB ⟨a, b, c, d⟩ 576460752303423488 = true
  · by_cases hk : brkB 576460752303423488 k = false
    · have hR : scaleR ⟨a, b, c, d⟩ k = limR ⟨a * k, b * k, c * k, d * k⟩ := by simp [scaleR, h, hk]
      rw [hR]
      obtain ⟨l1, l2, l3, l4, l5, l6, l7, l8⟩ := wiB_in h
      dsimp only at l1 l2 l3 l4 l5 l6 l7 l8
      have hk' : -576460752303423488 ≤ k ∧ k ≤ 576460752303423488 := by simp [brkB] at hk; omega
      rcases sscale_cases a b k l1 l2 l3 l4 hk'.1 hk'.2 with h1 | ⟨h1, n1⟩
      · rcases sscale_cases c d k l5 l6 l7 l8 hk'.1 hk'.2 with h2 | ⟨h2, n2⟩
        · exact scale_ok a b c d k w h hk h1 h2
        · rw [limR_no _ _ _ _ (Or.inr n2)]
          exact scale_no2 a b c d k w h hk h1 h2
      · rw [limR_no _ _ _ _ (Or.inl n1)]
        exact scale_no1 a b c d k w h hk h1
    · have hk : brkB 576460752303423488 k = true := by simpa using hk
      go_enter Tryz.func99, Tryz.ntmps99
      go_wp2_with (first | (go_at_call 122; refine (within_any _ _ _ _ _ _ (by omega) (by omega)).mono ?_; rintro e w' ⟨rfl, kj, rfl⟩) | (go_at_call 123; refine (broken_any _ _ _ (by omega) (by omega)).mono ?_; rintro e w' ⟨rfl, rfl⟩))
      refine bodyPost_ret (v := .tuple #[.agg #[.int .i64 (R4.mk zeroC 1).v.a, .int .i64 (R4.mk zeroC 1).v.b, .int .i64 (R4.mk zeroC 1).v.c, .int .i64 (R4.mk zeroC 1).v.d], .int .i64 (R4.mk zeroC 1).e]) (by simp [results, Tryz.results99, go_sem, zeroC]) rfl ⟨by simp [scaleR, h, hk], ?_⟩
      repeat' (first | exact Q.refl _ | refine Q.alloc ?_ _ | refine Q.jk ?_ _ | refine Q.drew ?_)
  · have h : wiB ⟨a, b, c, d⟩ 576460752303423488 = false := by simpa using h
    go_enter Tryz.func99, Tryz.ntmps99
    go_wp2_with (first | (go_at_call 122; refine (within_any _ _ _ _ _ _ (by omega) (by omega)).mono ?_; rintro e w' ⟨rfl, kj, rfl⟩) | (go_at_call 123; refine (broken_any _ _ _ (by omega) (by omega)).mono ?_; rintro e w' ⟨rfl, rfl⟩))
    refine bodyPost_ret (v := .tuple #[.agg #[.int .i64 (R4.mk zeroC 1).v.a, .int .i64 (R4.mk zeroC 1).v.b, .int .i64 (R4.mk zeroC 1).v.c, .int .i64 (R4.mk zeroC 1).v.d], .int .i64 (R4.mk zeroC 1).e]) (by simp [results, Tryz.results99, go_sem, zeroC]) rfl ⟨by simp [scaleR, h], ?_⟩
    repeat' (first | exact Q.refl _ | refine Q.alloc ?_ _ | refine Q.jk ?_ _ | refine Q.drew ?_)
end Go.Proofs.YtcjflafjmdfanaaGreatDoor
/- Harmonics of windows: plain arithmetic. No program in sight. -/
namespace Go.Sub
/-- The sum of the first n terms. -/
def sumC (y : Nat → Cy) : Nat → Cy
  | 0 => ⟨0, 0, 0, 0⟩
  | n + 1 => (sumC y n).add (y n)
theorem sumC_in {y : Nat → Cy} {l : Int} (n : Nat) (h : ∀ k, k < n → (y k).In l) : (sumC y n).In (n * l) := by
  induction n with
  | zero => unfold Cy.In sumC; simp
  | succ n ih =>
    have h1 := Cy.add_in (ih fun k hk => h k (by omega)) (h n (by omega))
    refine Cy.In.mono h1 ?_
    have : ((n + 1 : Nat) : Int) * l = n * l + l := by rw [Int.natCast_add, Int.add_mul]; simp
    omega
def Cy.scl (x : Cy) (k : Int) : Cy := ⟨x.a * k, x.b * k, x.c * k, x.d * k⟩
/-- The term k of harmonic h. -/
def hterm (x : Nat → Int) (h : Int) (k : Nat) : Cy := (rootC (-h * k)).scl (x k)
def harm (x : Nat → Int) (h : Int) : Cy := sumC (hterm x h) 12
theorem hterm_in {x : Nat → Int} {h l : Int} {k : Nat} (h1 : -l ≤ x k) (h2 : x k ≤ l) : (hterm x h k).In (2 * l) := by
  obtain ⟨r1, r2, r3, r4, r5, r6, r7, r8⟩ := rootC_in (-h * k)
  have p1 := bd_mul r1 r2 h1 h2
  have p2 := bd_mul r3 r4 h1 h2
  have p3 := bd_mul r5 r6 h1 h2
  have p4 := bd_mul r7 r8 h1 h2
  unfold Cy.In hterm Cy.scl
  dsimp only
  omega
def WinOK (x : Nat → Int) (l : Int) : Prop := ∀ k, k < 12 → -l ≤ x k ∧ x k ≤ l
theorem harm_in {x : Nat → Int} {l : Int} (h : Int) (hx : WinOK x l) : (harm x h).In (24 * l) :=
  Cy.In.mono (sumC_in (l := 2 * l) 12 fun k hk => hterm_in (hx k hk).1 (hx k hk).2) (by omega)
theorem rootC_congr {j k : Int} (h : j % 12 = k % 12) : rootC j = rootC k := by unfold rootC; rw [h]
theorem neg_tmod (h : Int) (k : Nat) : (-(h.tmod 12) * k) % 12 = (-h * k) % 12 := by
  have e : h = 12 * h.tdiv 12 + h.tmod 12 := (Int.mul_tdiv_add_tmod h 12).symm
  generalize h.tdiv 12 = q at e
  generalize h.tmod 12 = r at e ⊢
  subst e
  have : -(12 * q + r) * (k : Int) = -r * k + 12 * (-(q * k)) := by grind
  rw [this, Int.add_mul_emod_self_left]
theorem hterm_tmod (x : Nat → Int) (h : Int) (k : Nat) : hterm x (h.tmod 12) k = hterm x h k := by
  unfold hterm
  rw [rootC_congr (neg_tmod h k)]
theorem harm_tmod (x : Nat → Int) (h : Int) : harm x (h.tmod 12) = harm x h := by
  have : ∀ n, sumC (hterm x (h.tmod 12)) n = sumC (hterm x h) n := by
    intro n
    induction n with
    | zero => rfl
    | succ n ih => unfold sumC; rw [ih, hterm_tmod]
  exact this 12
theorem scaleR_ok {x : Cy} {k : Int} (hx : x.In 1000000) (hk : -1000000000 ≤ k ∧ k ≤ 1000000000) : scaleR x k = ⟨x.scl k, 0⟩ := by
  obtain ⟨r1, r2, r3, r4, r5, r6, r7, r8⟩ := hx
  have p1 := bd_mul r1 r2 hk.1 hk.2
  have p2 := bd_mul r3 r4 hk.1 hk.2
  have p3 := bd_mul r5 r6 hk.1 hk.2
  have p4 := bd_mul r7 r8 hk.1 hk.2
  have h1 : wiB x 576460752303423488 = true := wiB_of ⟨by omega, by omega, by omega, by omega, by omega, by omega, by omega, by omega⟩
  have h2 : brkB 576460752303423488 k = false := by
    simp only [brkB, Bool.or_eq_false_iff, decide_eq_false_iff_not]
    omega
  have h3 : wiB ⟨x.a * k, x.b * k, x.c * k, x.d * k⟩ 576460752303423488 = true := wiB_of ⟨by dsimp only; omega, by dsimp only; omega, by dsimp only; omega, by dsimp only; omega, by dsimp only; omega, by dsimp only; omega, by dsimp only; omega, by dsimp only; omega⟩
  simp [scaleR, limR, h1, h2, h3, Cy.scl]
def enrg (x : Nat → Int) : Nat → Int
  | 0 => 0
  | n + 1 => enrg x n + x n * x n
end Go.Sub
/- Helpers of the frame of a law's proof, of no program: arrays of integers opened; a call that leaves all that was there meets the specification 'true, and the arguments read as they did'. -/
namespace Go
open Go.ChangeShapes Go.WideShapes Go.ChangeAt Go.RowKit
section
variable {H : Type} {enc : TypeId × Value → H} {P : Program} {w : World} {base : Nat} {spare : Nat → Bool} {held : Bool}

/-- An array of ints, opened. -/
theorem trod_arr_ints {fuel : Nat} {t e : TypeId} {n : Nat} {cs : List Value} {x : DataW H × List MemPlace} (ht : P.underlying t = some (.array n e)) (he : P.underlying e = some (.int .i64)) (hce : P.cellsOf e = 1) (hct : P.cellsOf t = n)
    (h : DataW.trod enc P w base spare held fuel t cs = some x) :
    ∃ ks : List Int, ks.length = n ∧ cs = ks.map (Value.int .i64) ∧ x = (.agg (ks.map fun k => .lit (.int .i64 k)), []) ∧ ∀ k ∈ ks, (Lit.int .i64 k).wf = true := by
  obtain ⟨xs, m, rfl, rfl, hl, hxs, hel⟩ := DataW.trod_array ht h
  rw [hct] at hl
  rw [hce] at hel
  have one : ∀ i, i < n → ∃ k, cs[i]? = some (.int .i64 k) ∧ xs[i]? = some (.lit (.int .i64 k), []) ∧ (Lit.int .i64 k).wf = true := by
    intro i hi
    have h1 := hel i hi
    obtain ⟨y, hy⟩ : ∃ y, xs[i]? = some y := ⟨_, List.getElem?_eq_getElem (by omega)⟩
    rw [hy] at h1
    obtain ⟨k, hk, rfl, hw⟩ := DataW.trod_int he h1
    refine ⟨k, ?_, hy, hw⟩
    have := congrArg (·[0]?) hk
    simpa [List.getElem?_take, List.getElem?_drop] using this
  refine ⟨cs.map intOf, by simp [hl], ?_, ?_, ?_⟩
  · apply List.ext_getElem?
    intro i
    by_cases hi : i < n
    · obtain ⟨k, h1, _, _⟩ := one i hi
      simp [h1, intOf]
    · rw [List.getElem?_eq_none (by omega), List.getElem?_eq_none (by simp; omega)]
  · have e1 : xs.map (·.1) = (cs.map intOf).map fun k => (DataW.lit (.int .i64 k) : DataW H) := by
      apply List.ext_getElem?
      intro i
      by_cases hi : i < n
      · obtain ⟨k, h1, h2, _⟩ := one i hi
        simp [h1, h2, intOf]
      · rw [List.getElem?_eq_none (by simp; omega), List.getElem?_eq_none (by simp; omega)]
    have e2 : xs.flatMap (·.2) = [] := by
      rw [List.flatMap_eq_nil_iff]
      intro y hy
      obtain ⟨i, hi, rfl⟩ := List.getElem_of_mem hy
      obtain ⟨k, _, h2, _⟩ := one i (by omega)
      rw [List.getElem?_eq_getElem hi] at h2
      rw [Option.some.inj h2]
    rw [e1, e2]
  · intro k hk
    obtain ⟨v, hv, rfl⟩ := List.mem_map.1 hk
    obtain ⟨i, hi, rfl⟩ := List.getElem_of_mem hv
    obtain ⟨k, h1, _, hw⟩ := one i (by omega)
    rw [List.getElem?_eq_getElem hi] at h1
    rw [Option.some.inj h1]
    exact hw

/-- All arguments read behind the call as they did before. -/
theorem trodAll_stays {W W' : World} (hl : laidOutB P = true) (hb : Below W.heap.size W W') : ∀ {ts : List TypeId} {vs : List Value} {ds : List (DataW H)} {ps : List MemPlace} {sp : Nat → Bool},
    (∀ t ∈ ts, P.readableRec t = true ∧ t < P.types.size) → DataW.TrodAll enc P W 0 (fun _ => true) true ts vs ds ps → (∀ x ∈ ps, x.block < W.heap.size) → (∀ x ∈ ps, sp x.block = true) →
    DataW.TrodAll enc P W' 0 sp true ts vs ds ps
  | [], [], [], _, _, _, h, _, _ => h
  | t :: ts, v :: vs, d :: ds, ps, sp, ht, h, hlt, hsp => by
    obtain ⟨p, q, h0, h1, rfl⟩ := h
    refine ⟨p, q, ?_, trodAll_stays hl hb (fun t' ht' => ht t' (List.mem_cons_of_mem _ ht')) h1 (fun x hx => hlt x (List.mem_append_right _ hx)) (fun x hx => hsp x (List.mem_append_right _ hx)), rfl⟩
    have := ht t (List.mem_cons_self ..)
    exact WideElems.Trod_stays hl this.1 this.2 h0 (fun x hx => hb.same (hlt x (List.mem_append_left _ hx))) (fun x hx => hsp x (List.mem_append_left _ hx))
  | [], _ :: _, _, _, _, _, h, _, _ => by exact h.elim
  | _ :: _, [], _, _, _, _, h, _, _ => by exact h.elim
  | [], [], _ :: _, _, _, _, h, _, _ => by exact h.elim
  | _ :: _, _ :: _, [], _, _, _, h, _, _ => by exact h.elim

/-- THE END OF A LAW's PROOF: it returned true and left all that was there. -/
theorem law_post {f : Func} {s : ChangeSpec} {W W' : World} {args : Array Value} {ds : List (DataW H)} {before : List MemPlace} {tb : TypeId}
    (hl : laidOutB P = true) (hts : ∀ t ∈ f.params.toList, P.readableRec t = true ∧ t < P.types.size) (hr : f.resultTypes = #[tb]) (hbool : P.underlying tb = some .bool) (hvars : s.vars = [])
    (hfn : ∀ ds' : List (DataW H), ds'.length = f.params.size → s.fn H ds' = { results := [.lit (.bool true)], args := ds' })
    (hW : DataW.Whole enc P f.params.toList s.vars false W args.toList ds [] before) (hb : Below W.heap.size W W') (hlen : ds.length = f.params.size) :
    s.post enc P f false true false false W args (.bool true) W' := by
  have hlt : ∀ p ∈ before, p.block < W.heap.size := fun p hp => hW.lt p hp
  have hW' := hW
  obtain ⟨p, q, hA, hV, rfl, hz, hn⟩ := hW
  rw [hvars] at hV
  obtain ⟨_, rfl⟩ := trodVars_none hV
  simp only [List.append_nil] at hlt hz hn hW'
  have efn := hfn ds hlen
  have hold : ∀ x ∈ p, (fun b => decide (b < W.heap.size)) x.block = true := fun x hx => by simpa using hlt x hx
  have hargs : ∀ sp : Nat → Bool, (∀ x ∈ p, sp x.block = true) → DataW.TrodAll enc P W' 0 sp true f.params.toList args.toList ds p := fun sp hsp => trodAll_stays hl hb hts hA hlt hsp
  have hres : ∀ (b : Nat) (sp : Nat → Bool) (hd : Bool), DataW.TrodAll enc P W' b sp hd f.resultTypes.toList ((Value.bool true).resultList f.resultTypes.size) [.lit (.bool true)] [] := by
    intro b sp hd
    rw [hr]
    exact trodAll_cons_mk (shut_bool hbool _) trodAll_mk0
  refine ⟨ds, [], p, [], p, [], hW', ?_, ?_, ?_, ?_, fun h => by cases h⟩
  · rw [List.append_nil, efn]; exact hres _ _ _
  · rw [List.append_nil, efn]; exact hargs _ hold
  · rw [List.append_nil, efn, hvars]; rfl
  · exact World.keptBut_mono (fun x hx => ⟨hx, by simpa using hx⟩) (hb.frame (· ∈ p))
end
end Go
/- The table of package cyclo, as the rows list it, lies in its cells; a world for the witnesses. -/
namespace Go
open Go.RowKit
/-- An array of arrays of ints that reads as the table holds the table's numbers. -/
theorem cells_of_tab2 {H : Type} {enc : TypeId × Value → H} {P : Program} {w : World} {base : Nat} {sp : Nat → Bool} {held : Bool} {fuel : Nat} {t e f : TypeId} {n m : Nat} {cs : List Value} {zss : List (List Int)} {p : List MemPlace}
    (ht : P.underlying t = some (.array n e)) (he : P.underlying e = some (.array m f)) (hf : P.underlying f = some (.int .i64)) (hcf : P.cellsOf f = 1) (hce : P.cellsOf e = m)
    (h : DataW.trod enc P w base sp held fuel t cs = some (.agg (zss.map fun zs => .agg (zs.map fun z => .lit (.int .i64 z))), p)) (i j : Nat) (hi : i < n) (hj : j < m) :
    cs[i * m + j]? = some (.int .i64 ((zss.getD i []).getD j 0)) := by
  obtain ⟨xs, k, rfl, hx, hl, hxs, hel⟩ := DataW.trod_array ht h
  have h1 := hel i hi
  obtain ⟨y, hy⟩ : ∃ y, xs[i]? = some y := ⟨_, List.getElem?_eq_getElem (by omega)⟩
  rw [hy, hce] at h1
  obtain ⟨ks, hkl, hcs, rfl, _⟩ := trod_arr_ints he hf hcf hce h1
  simp only [Prod.mk.injEq, DataW.agg.injEq] at hx
  have h2 := congrArg (·[i]?) hx.1
  simp only [List.getElem?_map, hy, Option.map_some, Option.map_eq_some_iff, DataW.agg.injEq] at h2
  obtain ⟨zs, hz, hzs⟩ := h2
  have hk : ks = zs := by
    have hinj : Function.Injective (fun k : Int => (DataW.lit (.int .i64 k) : DataW H)) := fun a b h => by simpa using h
    exact (List.map_inj_right (fun _ _ h => hinj h)).1 hzs.symm
  subst hk
  have h3 := congrArg (·[j]?) hcs
  simp only [List.getElem?_take, List.getElem?_drop, hj, if_true, List.getElem?_map] at h3
  rw [h3]
  simp [List.getD, hz, List.getElem?_eq_getElem (show j < ks.length by omega)]
end Go
namespace Go.Proofs.YtcjflafjmdfanaaGreatDoor
open Go.RowKit Go.Sub
theorem gRoots : Tryz.prog.globalNamed "substation/cyclo.roots" = some 0 := by kernel_rfl
theorem gRootsType : (Tryz.prog.globals[0]?).map (·.type) = some 205 := by kernel_rfl
theorem cellsInt : Tryz.prog.cellsOf 3 = 1 := by kernel_rfl
theorem cellsCyc : Tryz.prog.cellsOf 141 = 4 := by kernel_rfl
theorem roots_of_laid {W : World} (h : laidMetH Tryz.prog [("substation/cyclo.roots", Rows.laid_substation_cyclo_roots)] W) : RootsOK W := by
  rw [MakeChecks.laidMetH_plain _ _ _ (by kernel_rfl)] at h
  obtain ⟨ps, ⟨g', t', cs, fuel, p, q, hg', ht', hvar, hd, _, _⟩, _⟩ := h
  obtain rfl := Option.some.inj (gRoots.symm.trans hg')
  obtain rfl := Option.some.inj (gRootsType.symm.trans ht')
  have hc : ∀ i j, i < 6 → j < 4 → cs.toList[i * 4 + j]? = some (.int .i64 (([[1, 0, 0, 0], [0, 1, 0, 0], [0, 0, 1, 0], [0, 0, 0, 1], [-1, 0, 1, 0], [0, -1, 0, 1]] : List (List Int)).getD i [] |>.getD j 0)) :=
    fun i j hi hj => cells_of_tab2 (zss := [[1, 0, 0, 0], [0, 1, 0, 0], [0, 0, 1, 0], [0, 0, 0, 1], [-1, 0, 1, 0], [0, -1, 0, 1]]) Tryz.underlying205 Tryz.underlying141 Tryz.underlying3 cellsInt cellsCyc hd i j hi hj
  have hcell : ∀ i, i < 24 → W.cell? ⟨0, i, none⟩ = some (.int .i64 (rootTab.getD i 0)) := by
    intro i hi
    rw [World.var?_cell gRoots hvar i]
    have := hc (i / 4) (i % 4) (by omega) (by omega)
    rw [show i / 4 * 4 + i % 4 = i by omega] at this
    have e : (([[1, 0, 0, 0], [0, 1, 0, 0], [0, 0, 1, 0], [0, 0, 0, 1], [-1, 0, 1, 0], [0, -1, 0, 1]] : List (List Int)).getD (i / 4) [] |>.getD (i % 4) 0) = rootTab.getD i 0 := by
      have : ∀ i : Fin 24, (([[1, 0, 0, 0], [0, 1, 0, 0], [0, 0, 1, 0], [0, 0, 0, 1], [-1, 0, 1, 0], [0, -1, 0, 1]] : List (List Int)).getD (i.val / 4) [] |>.getD (i.val % 4) 0) = rootTab.getD i.val 0 := by decide
      exact this ⟨i, hi⟩
    rw [e] at this
    simpa using this
  refine ⟨?_, hcell⟩
  have h0 := hcell 0 (by omega)
  rcases Nat.lt_or_ge 0 W.heap.size with h | h
  · exact h
  · simp [World.cell?, Array.getElem?_eq_none h] at h0

theorem own : ownKnob Tryz.prog.godebug = none := by kernel_rfl
/-- A world for the witness: the settled one, the table in its block. -/
noncomputable def laidWorld (os : Os) : World :=
  { World.holding Tryz.prog os ⟨#[], #[], []⟩ with heap := (World.holding Tryz.prog os ⟨#[], #[], []⟩).heap.modify 0 fun
      | .cells _ t frozen => .cells #[.int .i64 1, .int .i64 0, .int .i64 0, .int .i64 0, .int .i64 0, .int .i64 1, .int .i64 0, .int .i64 0, .int .i64 0, .int .i64 0, .int .i64 1, .int .i64 0, .int .i64 0, .int .i64 0, .int .i64 0, .int .i64 1, .int .i64 (-1), .int .i64 0, .int .i64 1, .int .i64 0, .int .i64 0, .int .i64 (-1), .int .i64 0, .int .i64 1] t frozen
      | o => o }
theorem laidOut : laidOutB Tryz.prog = true := by kernel_rfl
end Go.Proofs.YtcjflafjmdfanaaGreatDoor
/- What Check, Harmonic, All and Energy of package phasor return for windows that are in their range. -/
namespace Go.Proofs.YtcjflafjmdfanaaGreatDoor
open Go.RowKit Go.Sub
theorem old_at {w : World} {b i : Nat} {v : Value} (h : w.cell? ⟨b, i, none⟩ = some v) : Old b w := ⟨World.block_lt_of_cell? w ⟨b, i, none⟩ h⟩
/-- The window x lies in block b from o on. -/
def Win (w : World) (b o : Nat) (x : Nat → Int) : Prop := ∀ k, k < 12 → w.cell? ⟨b, o + k, none⟩ = some (.int .i64 (x k))
theorem Win.old {w : World} {b o : Nat} {x : Nat → Int} (h : Win w b o x) : Old b w := old_at (h 0 (by omega))
theorem Win.q {w w' : World} {b o : Nat} {x : Nat → Int} (h : Win w b o x) (hq : Q w w') : Win w' b o x := by
  intro k hk
  haveI := h.old
  obtain ⟨kk, rfl⟩ := hq
  rw [World.cell?_jk]
  exact h k hk

set_option maxHeartbeats 1000000 in
theorem phcheck_c (b o c : Nat) (x : Nat → Int) (w : World) (hw : Win w b o x) (hx : WinOK x 16383) :
    Calls Tryz.prog 33 #[.slice (some ⟨b, o, none⟩) 12 c] w fun e w' => e = .returned (.int .i64 0) ∧ w = w' := by
  go_enter Tryz.func33, Tryz.ntmps33
  go_wp2
  go_loop [10] (fun i => ∃ k : Nat, k ≤ 12 ∧ i = .int .i64 k) (fun i => 12 - (intOf i).toNat)
  case atStart => exact ⟨0, by omega, rfl⟩
  case round =>
    obtain ⟨k, hk, rfl⟩ := hrel
    by_cases hlt : k < 12
    · have hc := hw k hlt
      obtain ⟨h1, h2⟩ := hx k hlt
      clear hw hx
      go_wp2
      go_round
      case rel => exact ⟨k + 1, by omega, by go_num⟩
      case measure => simp [intOf]; omega
    · clear hw hx
      go_wp2
      go_ret
      exact ⟨rfl, rfl⟩

/-- A term of a sum: what the function value gives for k. -/
def Term (F : FuncId) (cap : Array Value) (y : Nat → Cy) (w : World) : Prop :=
  ∀ (k : Nat) (w' : World), k < 12 → Q w w' → Calls Tryz.prog F (#[.int .i64 (k : Int)] ++ cap) w' fun e w'' => e = .returned (.tuple #[.agg #[.int .i64 (y k).a, .int .i64 (y k).b, .int .i64 (y k).c, .int .i64 (y k).d], .int .i64 0]) ∧ Q w' w''
set_option maxHeartbeats 2000000 in
theorem phsum_c (F : FuncId) (cap : Array Value) (y : Nat → Cy) (w : World) (hF : ∀ (args : Array Value) (w : World), (callFunc F args).run Tryz.prog w = .ok (.enter F args) w) (ht : Term F cap y w) (hy : ∀ k, k < 12 → (y k).In 1000000000000000) :
    Calls Tryz.prog 97 #[.func (.func F) #[] cap] w fun e w' => e = .returned (.tuple #[.agg #[.int .i64 (sumC y 12).a, .int .i64 (sumC y 12).b, .int .i64 (sumC y 12).c, .int .i64 (sumC y 12).d], .int .i64 0]) ∧ Q w w' := by
  go_enter Tryz.func97, Tryz.ntmps97
  go_wp2
  go_loopw [8] (fun i wr => ∃ k : Nat, k ≤ 12 ∧ i = .int .i64 k ∧ Q ((w.alloc (.cells #[.int .i64 0, .int .i64 0, .int .i64 0, .int .i64 0] 141)).alloc (.cells #[.int .i64 (sumC y k).a, .int .i64 (sumC y k).b, .int .i64 (sumC y k).c, .int .i64 (sumC y k).d] 141)) wr) (fun i _ => 12 - (intOf i).toNat)
  case atStart => exact ⟨0, by omega, rfl, Q.refl _⟩
  case round =>
    obtain ⟨k, hk, rfl, kw, rfl⟩ := hrel
    by_cases hlt : k < 12
    · have hyk := hy k hlt
      have hsk := sumC_in (l := 1000000000000000) k fun j hj => hy j (by omega)
      have hs2 := hsk.mono (show (k : Int) * 1000000000000000 ≤ 50000000000000000 by omega)
      clear hsk
      have HT := fun w' => ht k w' hlt
      have HH := Lib.hid HT
      clear HT hy ht
      go_wp2_with (first | (refine (HH.out _ (by repeat' (first | exact Q.refl _ | refine Q.alloc ?_ _ | refine Q.jk ?_ _ | refine Q.drew ?_))).mono ?_; rintro e w' ⟨rfl, kj, rfl⟩) | (go_at_call 121; refine (add_c _ _ _ (Cy.In.mono (by assumption) (by decide)) (Cy.In.mono (by assumption) (by decide))).mono ?_; rintro e w' ⟨rfl, kj, rfl⟩))
      go_roundw
      case rel =>
        refine ⟨k + 1, by omega, by go_num, ?_⟩
        repeat' (first | exact Q.refl _ | refine Q.alloc ?_ _ | refine Q.jk ?_ _ | refine Q.drew ?_)
      case measure => simp [intOf]; omega
    · obtain rfl : k = 12 := by omega
      clear hy ht
      go_wp2
      refine bodyPost_ret (v := .tuple #[.agg #[.int .i64 (sumC y 12).a, .int .i64 (sumC y 12).b, .int .i64 (sumC y 12).c, .int .i64 (sumC y 12).d], .int .i64 0]) (by simp [results, Tryz.results97, go_sem]) rfl ⟨rfl, ?_⟩
      repeat' (first | exact Q.refl _ | refine Q.alloc ?_ _ | refine Q.jk ?_ _ | refine Q.drew ?_)

theorem scale_c (x : Cy) (k : Int) (w : World) (hx : x.In 1000000) (hk : -1000000000 ≤ k ∧ k ≤ 1000000000) :
    Calls Tryz.prog 99 #[.agg #[.int .i64 x.a, .int .i64 x.b, .int .i64 x.c, .int .i64 x.d], .int .i64 k] w fun e w' => e = .returned (.tuple #[.agg #[.int .i64 (x.scl k).a, .int .i64 (x.scl k).b, .int .i64 (x.scl k).c, .int .i64 (x.scl k).d], .int .i64 0]) ∧ Q w w' := by
  have h := scale_any x.a x.b x.c x.d k w
  rw [scaleR_ok hx hk] at h
  exact h

set_option maxHeartbeats 2000000 in
theorem phterm_c (k : Nat) (h : Int) (bh bx b o c : Nat) (x : Nat → Int) (w : World) (hr : RootsOK w) (hk : k < 12) (ch : w.cell? ⟨bh, 0, none⟩ = some (.int .i64 h)) (cx : w.cell? ⟨bx, 0, none⟩ = some (.slice (some ⟨b, o, none⟩) 12 c))
    (ck : w.cell? ⟨b, o + k, none⟩ = some (.int .i64 (x k))) (h1 : -16383 ≤ x k) (h2 : x k ≤ 16383) (hh1 : -12 ≤ h) (hh2 : h ≤ 12) :
    Calls Tryz.prog 98 #[.int .i64 (k : Int), .pointer (some ⟨bh, 0, none⟩), .pointer (some ⟨bx, 0, none⟩)] w fun e w' => e = .returned (.tuple #[.agg #[.int .i64 (hterm x h k).a, .int .i64 (hterm x h k).b, .int .i64 (hterm x h k).c, .int .i64 (hterm x h k).d], .int .i64 0]) ∧ Q w w' := by
  haveI := old_at ch
  haveI := old_at cx
  haveI := old_at ck
  have kk : (0 : Int) ≤ (k : Int) := by omega
  have kk2 : (k : Int) < 12 := by omega
  have hm := bd_mul hh1 hh2 (show -12 ≤ (k : Int) by omega) (show (k : Int) ≤ 12 by omega)
  have hm1 : -1000 ≤ -h * (k : Int) := by rw [Int.neg_mul]; omega
  have hm2 : -h * (k : Int) ≤ 1000 := by rw [Int.neg_mul]; omega
  clear hm
  have hri := rootC_in (-h * k)
  go_enter Tryz.func98, Tryz.ntmps98
  go_wp2
  try simp only [List.append]
  refine wp_region_tail 12 (by kernel_rfl) (by kernel_rfl) ?_
  simp only [List.take_succ_cons, List.take_zero, List.drop_succ_cons, List.drop_zero]
  repeat (go_big_quiet_step ((first | (go_at_call 100; exact Calls.jk_of (root_any _ _ (by repeat' (first | with_reducible exact hr | refine RootsOK.alloc ?_ _ | refine RootsOK.jk ?_ _ | refine RootsOK.drew ?_)))) | (go_at_call 99; exact Calls.jk_of (scale_c _ _ _ (Cy.In.mono (by assumption) (by decide)) (by omega))))))
  refine wpQuiet_nil ?_
  intro _ hw'
  obtain ⟨kq, rfl⟩ := hw'
  go_wp2
  refine bodyPost_ret (v := .tuple #[.agg #[.int .i64 (hterm x h k).a, .int .i64 (hterm x h k).b, .int .i64 (hterm x h k).c, .int .i64 (hterm x h k).d], .int .i64 0]) (by simp [results, Tryz.results98, go_sem, hterm]) rfl ⟨rfl, ?_⟩
  repeat' (first | exact Q.refl _ | refine Q.alloc ?_ _ | refine Q.jk ?_ _ | refine Q.drew ?_)

set_option maxHeartbeats 2000000 in
theorem phharm_c (h : Int) (b o c : Nat) (x : Nat → Int) (w : World) (hr : RootsOK w) (hw : Win w b o x) (hx : WinOK x 16383) :
    Calls Tryz.prog 68 #[.slice (some ⟨b, o, none⟩) 12 c, .int .i64 h] w fun e w' => e = .returned (.tuple #[.agg #[.int .i64 (harm x h).a, .int .i64 (harm x h).b, .int .i64 (harm x h).c, .int .i64 (harm x h).d], .int .i64 0]) ∧ Q w w' := by
  rw [← harm_tmod]
  have tb := tmod_bd h 12 (by decide)
  haveI := hw.old
  have HW := Lib.hid hw
  have HX := Lib.hid hx
  have hty : ∀ k, k < 12 → (hterm x (h.tmod 12) k).In 1000000000000000 := fun k hk => (hterm_in (hx k hk).1 (hx k hk).2).mono (by decide)
  have HT := Lib.hid hty
  clear hw hx hty
  go_enter Tryz.func68, Tryz.ntmps68
  go_wp2_with (go_at_call 33; refine (phcheck_c _ _ _ x _ (HW.out.q (by repeat' (first | exact Q.refl _ | refine Q.alloc ?_ _ | refine Q.jk ?_ _ | refine Q.drew ?_))) HX.out).mono ?_; rintro e w' ⟨rfl, rfl⟩)
  go_at_call 97
  refine (phsum_c _ _ (hterm x (h.tmod 12)) _ (fun _ _ => by kernel_rfl) ?_ HT.out).mono ?_
  · rintro k w' hk ⟨kw, rfl⟩
    refine phterm_c k (h.tmod 12) _ _ b o c x _ (by repeat' (first | with_reducible exact hr | refine RootsOK.alloc ?_ _ | refine RootsOK.jk ?_ _ | refine RootsOK.drew ?_)) hk (by simp [go_sem]) (by simp [go_sem]) ?_ (HX.out k hk).1 (HX.out k hk).2 (by omega) (by omega)
    have := HW.out k hk
    simp only [World.cell?_jk, World.cell?_alloc_old']
    exact this
  · rintro e w' ⟨rfl, kj, rfl⟩
    go_wp2
    refine bodyPost_ret (v := .tuple #[.agg #[.int .i64 (harm x (h.tmod 12)).a, .int .i64 (harm x (h.tmod 12)).b, .int .i64 (harm x (h.tmod 12)).c, .int .i64 (harm x (h.tmod 12)).d], .int .i64 0]) (by simp [results, Tryz.results68, go_sem, harm]) rfl ⟨rfl, ?_⟩
    repeat' (first | exact Q.refl _ | refine Q.alloc ?_ _ | refine Q.jk ?_ _ | refine Q.drew ?_)

/-- The cells of twelve numbers of which k are there. -/
def cells48 (y : Nat → Cy) (k : Nat) : Array Value :=
  ((List.range 12).flatMap fun h => if h < k then [.int .i64 (y h).a, .int .i64 (y h).b, .int .i64 (y h).c, .int .i64 (y h).d] else [.int .i64 0, .int .i64 0, .int .i64 0, .int .i64 0]).toArray
@[go_sem] theorem cells48_size (y : Nat → Cy) (k : Nat) : (cells48 y k).size = 48 := by
  unfold cells48
  simp only [List.range_succ, List.range_zero, List.nil_append, List.flatMap_append, List.flatMap_cons, List.flatMap_nil, List.append_nil, List.size_toArray, List.length_append]
  have e : ∀ h : Nat, (if h < k then [Value.int .i64 (y h).a, .int .i64 (y h).b, .int .i64 (y h).c, .int .i64 (y h).d] else [.int .i64 0, .int .i64 0, .int .i64 0, .int .i64 0]).length = 4 := by
    intro h; split <;> rfl
  simp only [e]
instance cells48_one (y : Nat → Cy) (k : Nat) : Ones (cells48 y k) := by
  refine ⟨?_⟩
  apply Array.all_eq_true_iff_forall_mem.2
  intro v hv
  unfold cells48 at hv
  simp only [List.mem_toArray, List.mem_flatMap] at hv
  obtain ⟨h, _, hv⟩ := hv
  split at hv <;> simp at hv <;> rcases hv with rfl | rfl | rfl | rfl <;> rfl
end Go.Proofs.YtcjflafjmdfanaaGreatDoor
/- The helpers of the laws of phasor: within, Window and known. -/
namespace Go.Sub
/-- n numbers as cells. -/
def cellsI (x : Nat → Int) (n : Nat) : Array Value := ((List.range n).map fun k => Value.int .i64 (x k)).toArray
@[go_sem] theorem cellsI_size (x : Nat → Int) (n : Nat) : (cellsI x n).size = n := by simp [cellsI]
theorem cellsI_at (x : Nat → Int) (n k : Nat) (h : k < n) : (cellsI x n)[k]? = some (.int .i64 (x k)) := by simp [cellsI, h]
def winV (n : Int) : Int := n % 32767 - 16383
end Go.Sub
namespace Go.Proofs.YtcjflafjmdfanaaGreatDoor
open Go.RowKit Go.Sub

@[go_sem ↓ high] theorem lv12 (a : Addr) : loadVar 69 a = bigLoad 69 a := rfl
theorem info12 : (Tryz.prog.info? 69).map (·.size) = some 12 := by kernel_rfl
@[go_sem] theorem run_load12 {w : World} {n : Nat} {cs : Array Value} {t : TypeId} {fr : Nat × Nat} [h : Blk w n (.cells cs t fr)] (hs : cs.size = 12) :
    (bigLoad 69 ⟨n, 0, none⟩).run Tryz.prog w = .ok (.agg cs) w := run_bigLoad Tryz.underlying69 rfl (by rw [hs]; exact info12)

/-- A window is returned. -/
def RetWin (w : World) (x : Nat → Int) (e : Ending) (w' : World) : Prop := ∃ g c, e = .returned (.slice (some ⟨g, 0, none⟩) 12 c) ∧ Q w w' ∧ Win w' g 0 x
theorem RowI.Win {W0 w : World} {v : Value} {x : Nat → Int} (h : RowI W0 w v ((List.range 12).map x)) : ∃ g c, v = .slice (some ⟨g, 0, none⟩) 12 c ∧ Win w g 0 x := by
  obtain ⟨g, c, hv, _, hc⟩ := h.win (by simp)
  refine ⟨g, c, by simpa using hv, fun k hk => ?_⟩
  have := hc k (by simpa using hk)
  simpa [List.getD, hk] using this
def kwin (k : Nat) : Int := ([2, 1, 1, 0, -1, -1, -2, -1, -1, 0, 1, 1] : List Int).getD k 0
end Go.Proofs.YtcjflafjmdfanaaGreatDoor
/- Squared magnitudes: plain laws. No program in sight. -/
namespace Go.Sub
theorem norm_in {x : Cy} {l : Int} (h : x.In l) : x.norm.In (6 * (l * l)) := by
  have p := prods_of h h
  obtain ⟨h1, h2, h3, h4, h5, h6, h7, h8, h9, h10, h11, h12, h13, h14, h15, h16⟩ := p
  unfold Su.In Cy.norm
  dsimp only
  omega
/-- The square root of 3 is no fraction. -/
theorem sq3_nat (n : Nat) : ∀ a b : Nat, a < n → a * a = 3 * (b * b) → a = 0 := by
  induction n with
  | zero => intro a b h; omega
  | succ n ih =>
    intro a b ha h
    have h3 : a % 3 = 0 := by
      have h1 : a * a % 3 = 0 := by rw [h]; omega
      rw [Nat.mul_mod] at h1
      have : a % 3 = 0 ∨ a % 3 = 1 ∨ a % 3 = 2 := by omega
      rcases this with e | e | e <;> rw [e] at h1 <;> simp_all
    obtain ⟨c, rfl⟩ : ∃ c, a = 3 * c := ⟨a / 3, by omega⟩
    have h4 : b * b = 3 * (c * c) := by
      have : 3 * c * (3 * c) = 9 * (c * c) := by grind
      omega
    rcases Nat.eq_zero_or_pos c with rfl | hc
    · rfl
    · have hb : b < 3 * c := by
        rcases Nat.lt_or_ge b (3 * c) with h | h
        · exact h
        · have := Nat.mul_le_mul h h
          have e : 3 * c * (3 * c) = 9 * (c * c) := by grind
          have : 0 < c * c := Nat.mul_pos hc hc
          omega
      have hb0 := ih b c (by omega) h4
      subst hb0
      have : 0 < c * c := Nat.mul_pos hc hc
      omega
theorem sq3 (a b : Int) (h : a * a = 3 * (b * b)) : a = 0 ∧ b = 0 := by
  have h1 : a.natAbs * a.natAbs = 3 * (b.natAbs * b.natAbs) := by
    have := congrArg Int.natAbs h
    simpa [Int.natAbs_mul] using this
  have ha := sq3_nat (a.natAbs + 1) a.natAbs b.natAbs (by omega) h1
  have ha' : a = 0 := Int.natAbs_eq_zero.1 ha
  subst ha'
  have : b * b = 0 := by omega
  exact ⟨rfl, by rcases Int.mul_eq_zero.1 this with h | h <;> exact h⟩
theorem mag_sq (n : Int) : mag n * mag n = n * n := by
  unfold mag
  split
  · exact Int.neg_mul_neg n n
  · rfl
end Go.Sub
/- Plain laws of harmonics. No program in sight. -/
namespace Go.Sub
theorem sumC_congr {y z : Nat → Cy} (n : Nat) (h : ∀ k, k < n → y k = z k) : sumC y n = sumC z n := by
  induction n with
  | zero => rfl
  | succ n ih =>
    show (sumC y n).add (y n) = (sumC z n).add (z n)
    rw [ih fun k hk => h k (by omega), h n (by omega)]
def Cy.ng (x : Cy) : Cy := ⟨-x.a, -x.b, -x.c, -x.d⟩
def sumS (y : Nat → Su) : Nat → Su
  | 0 => ⟨0, 0⟩
  | n + 1 => (sumS y n).add (y n)
/-- Six terms: the transform of six numbers. -/
def dft6 (u : Nat → Int) (h : Int) : Cy := sumC (fun m => (rootC (-(2 * h) * m)).scl (u m)) 6
end Go.Sub
/- The order of the numbers a + b * sqrt(3). No program in sight. -/
namespace Go.Sub
/-- a + b * sqrt(3) is not negative. -/
def Nn (a b : Int) : Prop := (0 ≤ a ∧ 0 ≤ b) ∨ (0 ≤ a ∧ b ≤ 0 ∧ 3 * (b * b) ≤ a * a) ∨ (a ≤ 0 ∧ 0 ≤ b ∧ a * a ≤ 3 * (b * b))
/-- The sign, by cases. -/
theorem sgnS_eq (x : Su) : sgnS x = if sgn x.a = sgn x.b ∨ sgn x.b = 0 then sgn x.a else if sgn x.a = 0 then sgn x.b else if 3 * (x.b * x.b) < x.a * x.a then sgn x.a else sgn x.b := by
  have e1 := mag_sq x.a
  have e2 := mag_sq x.b
  have e3 : 3 * mag x.b * mag x.b = 3 * (x.b * x.b) := by rw [Int.mul_assoc, e2]
  unfold sgnS
  rw [e1, e3]
end Go.Sub
/- Contracts of package surd within the limits. -/
namespace Go.Sub
theorem saddR_ok {x y : Su} (hx : x.In 100000000000000000) (hy : y.In 100000000000000000) : saddR x y = ⟨x.add y, 0⟩ := by
  unfold Su.In at hx hy
  have h1 : wi4 1152921504606846976 x.a x.b y.a y.b = true := (wi4_iff _ _ _ _ _).2 (by omega)
  have h2 : wi2 1152921504606846976 (x.add y).a (x.add y).b = true := (wi2_iff _ _ _).2 (by simp only [Su.add]; omega)
  simp [saddR, limS, h1, h2]
theorem Su.In.mono {x : Su} {l m : Int} (h : x.In l) (hm : l ≤ m) : x.In m := by unfold Su.In at *; omega
end Go.Sub
namespace Go.Proofs.YtcjflafjmdfanaaGreatDoor
open Go.RowKit Go.Sub
theorem sadd_c (x y : Su) (w : World) (hx : x.In 100000000000000000) (hy : y.In 100000000000000000) :
    Calls Tryz.prog 132 #[.agg #[.int .i64 x.a, .int .i64 x.b], .agg #[.int .i64 y.a, .int .i64 y.b]] w fun e w' => e = .returned (.tuple #[.agg #[.int .i64 (x.add y).a, .int .i64 (x.add y).b], .int .i64 0]) ∧ Q w w' := by
  have h := sadd_any x.a x.b y.a y.b w
  rw [saddR_ok hx hy] at h
  exact h
end Go.Proofs.YtcjflafjmdfanaaGreatDoor
/- What Compare of package surd, and within and Above of package phasor, return. -/
namespace Go.Sub
def scmpR (x y : Su) : Int × Int := if wi4 1152921504606846976 x.a x.b y.a y.b then (sgnS (x.sub y), 0) else (0, 1)
/-- A fundamental has at least a peak value. -/
def aboveB (c : Cy) (p : Int) : Bool := decide (0 ≤ sgnS (c.norm.sub ⟨36 * p * p, 0⟩))
end Go.Sub
namespace Go.Proofs.YtcjflafjmdfanaaGreatDoor
open Go.RowKit Go.Sub

set_option maxHeartbeats 1000000 in
theorem scmp_any (a b a' b' : Int) (w : World) :
    Calls Tryz.prog 104 #[.agg #[.int .i64 a, .int .i64 b], .agg #[.int .i64 a', .int .i64 b']] w fun e w' => e = .returned (.tuple #[.int .i64 (scmpR ⟨a, b⟩ ⟨a', b'⟩).1, .int .i64 (scmpR ⟨a, b⟩ ⟨a', b'⟩).2]) ∧ Q w w' := by
  by_cases h : wi4 1152921504606846976 a b a' b' = true
  · obtain ⟨l1, l2, l3, l4, m1, m2, m3, m4⟩ := (wi4_iff _ _ _ _ _).1 h
    have hR : scmpR ⟨a, b⟩ ⟨a', b'⟩ = (sgnS ⟨a - a', b - b'⟩, 0) := by simp [scmpR, h, Su.sub]
    rw [hR]
    clear hR
    go_enter Tryz.func104, Tryz.ntmps104
    go_wp2_with (first | (go_at_call 133; refine (swithin4 _ a b a' b' 1152921504606846976 _ (by omega) (by omega) (by simp [go_sem]) (by simp [go_sem]) (by simp [go_sem]) (by simp [go_sem])).mono ?_; rintro e w' ⟨rfl, rfl⟩) | (go_at_call 134; refine (sgnS_any _ _ _ (by omega) (by omega) (by omega) (by omega)).mono ?_; rintro e w' ⟨rfl, kj, rfl⟩))
    go_ret2
    refine ⟨rfl, ?_⟩
    repeat' (first | exact Q.refl _ | refine Q.alloc ?_ _ | refine Q.jk ?_ _ | refine Q.drew ?_)
  · have h : wi4 1152921504606846976 a b a' b' = false := by simpa using h
    have hR : scmpR ⟨a, b⟩ ⟨a', b'⟩ = (0, 1) := by simp [scmpR, h]
    rw [hR]
    clear hR
    go_enter Tryz.func104, Tryz.ntmps104
    go_wp2_with (go_at_call 133; refine (swithin4 _ a b a' b' 1152921504606846976 _ (by omega) (by omega) (by simp [go_sem]) (by simp [go_sem]) (by simp [go_sem]) (by simp [go_sem])).mono ?_; rintro e w' ⟨rfl, rfl⟩)
    go_ret2
    refine ⟨rfl, ?_⟩
    repeat' (first | exact Q.refl _ | refine Q.alloc ?_ _ | refine Q.jk ?_ _ | refine Q.drew ?_)
theorem scmp_c (x y : Su) (w : World) (hx : x.In 1000000000000000000) (hy : y.In 1000000000000000000) :
    Calls Tryz.prog 104 #[.agg #[.int .i64 x.a, .int .i64 x.b], .agg #[.int .i64 y.a, .int .i64 y.b]] w fun e w' => e = .returned (.tuple #[.int .i64 (sgnS (x.sub y)), .int .i64 0]) ∧ Q w w' := by
  have h := scmp_any x.a x.b y.a y.b w
  have h1 : wi4 1152921504606846976 x.a x.b y.a y.b = true := (wi4_iff _ _ _ _ _).2 (by unfold Su.In at *; omega)
  have e : scmpR x y = (sgnS (x.sub y), 0) := by simp [scmpR, h1]
  rw [show scmpR ⟨x.a, x.b⟩ ⟨y.a, y.b⟩ = _ from e] at h
  exact h

end Go.Proofs.YtcjflafjmdfanaaGreatDoor
/- What Check and Back of package phasor return for any window and any harmonics. -/
namespace Go.Sub
/-- The error of a window of twelve numbers. -/
def chkE (x : Nat → Int) : Int := if (List.range 12).all (fun k => !brkB 16383 (x k)) then 0 else 2
theorem chkE_bad {x : Nat → Int} {k : Nat} (hk : k < 12) (h : brkB 16383 (x k) = true) : chkE x = 2 := by
  unfold chkE
  rw [if_neg]
  intro h1
  have := List.all_eq_true.1 h1 k (List.mem_range.2 hk)
  rw [h] at this
  cases this
theorem chkE_good {x : Nat → Int} (h : ∀ k, k < 12 → brkB 16383 (x k) = false) : chkE x = 0 := by
  unfold chkE
  rw [if_pos]
  apply List.all_eq_true.2
  intro k hk
  rw [h k (List.mem_range.1 hk)]
  rfl
/-- What the harmonics give at instant k, times 12. -/
def bk (c : Nat → Cy) (k : Nat) : Cy := sumC (fun h => (c h).turn ((h : Int) * k)) 12
def bkOK (c : Nat → Cy) (k : Nat) : Bool := Cy.eqB (bk c k) ⟨(bk c k).a, 0, 0, 0⟩ && (bk c k).a.tmod 12 == 0
def bkX (c : Nat → Cy) (k : Nat) : Int := (bk c k).a.tdiv 12
def backE (c : Nat → Cy) : Int :=
  if (List.range 12).all (fun h => wiB (c h) 1099511627776) then if (List.range 12).all (bkOK c) then chkE (bkX c) else 16 else 1
end Go.Sub
namespace Go.Proofs.YtcjflafjmdfanaaGreatDoor
open Go.RowKit Go.Sub

set_option maxHeartbeats 1000000 in
theorem phcheck_any (b o c : Nat) (x : Nat → Int) (w : World) (hw : Win w b o x) :
    Calls Tryz.prog 33 #[.slice (some ⟨b, o, none⟩) 12 c] w fun e w' => e = .returned (.int .i64 (chkE x)) ∧ w = w' := by
  go_enter Tryz.func33, Tryz.ntmps33
  go_wp2
  go_loop [10] (fun i => ∃ k : Nat, k ≤ 12 ∧ i = .int .i64 k ∧ ∀ j, j < k → brkB 16383 (x j) = false) (fun i => 12 - (intOf i).toNat)
  case atStart => exact ⟨0, by omega, rfl, fun j hj => absurd hj (Nat.not_lt_zero j)⟩
  case round =>
    obtain ⟨k, hk, rfl, hin⟩ := hrel
    have HI := Lib.hid hin
    clear hin
    by_cases hlt : k < 12
    · have hc := hw k hlt
      clear hw
      by_cases h1 : x k < -16383
      · have E := Lib.hid (chkE_bad (x := x) hlt (by simp [brkB, h1]))
        go_wp2
        go_ret
        exact ⟨by rw [E.out]; rfl, rfl⟩
      · by_cases h2 : 16383 < x k
        · have E := Lib.hid (chkE_bad (x := x) hlt (by simp [brkB, h2]))
          go_wp2
          go_ret
          exact ⟨by rw [E.out]; rfl, rfl⟩
        · go_wp2
          go_round
          case rel =>
            refine ⟨k + 1, by omega, by go_num, fun j hj => ?_⟩
            rcases Nat.lt_or_ge j k with h | h
            · exact HI.out j h
            · obtain rfl : j = k := by omega
              simp [brkB]
              omega
          case measure => simp [intOf]; omega
    · obtain rfl : k = 12 := by omega
      have E := Lib.hid (chkE_good (x := x) HI.out)
      clear hw
      go_wp2
      go_ret
      exact ⟨by rw [E.out]; rfl, rfl⟩

@[go_sem] theorem make12 (w : World) : (Instr.makeSlice 61 (.int .i64 12) (.int .i64 12)).run Tryz.prog w = .ok (.slice (some ⟨w.heap.size, 0, none⟩) 12 12) (w.alloc (.cells #[.int .i64 0, .int .i64 0, .int .i64 0, .int .i64 0, .int .i64 0, .int .i64 0, .int .i64 0, .int .i64 0, .int .i64 0, .int .i64 0, .int .i64 0, .int .i64 0] 3)) := by kernel_rfl
/-- Back's result: a window, or none and an error. -/
def RetBack (w : World) (c : Nat → Cy) (e : Ending) (w' : World) : Prop :=
  Q w w' ∧ ((backE c = 0 ∧ ∃ g cp, e = .returned (.tuple #[.slice (some ⟨g, 0, none⟩) 12 cp, .int .i64 0]) ∧ Win w' g 0 (bkX c)) ∨ (backE c ≠ 0 ∧ e = .returned (.tuple #[.slice none 0 0, .int .i64 (backE c)])))
def AllIn (c : Nat → Cy) (k : Nat) : Prop := ∀ j, j < k → wiB (c j) 1099511627776 = true
def AllOK (c : Nat → Cy) (k : Nat) : Prop := ∀ j, j < k → bkOK c j = true
end Go.Proofs.YtcjflafjmdfanaaGreatDoor
/- What Within, result and conj of the reference return. -/
namespace Go.Proofs.YtcjflafjmdfanaaGreatDoor
open Go.RowKit Go.Sub

end Go.Proofs.YtcjflafjmdfanaaGreatDoor
/- What Add, Sub, Conj, Real, Imag and Norm of the reference return. -/
namespace Go.Proofs.YtcjflafjmdfanaaGreatDoor
open Go.RowKit Go.Sub

end Go.Proofs.YtcjflafjmdfanaaGreatDoor
/- What reduced, product, Mul, Root and Turn of the reference return. -/
namespace Go.Sub
theorem Prods.mono {x y : Cy} {B B' : Int} (h : Prods x y B) (hb : B ≤ B') : Prods x y B' := by
  obtain ⟨h1, h2, h3, h4, h5, h6, h7, h8, h9, h10, h11, h12, h13, h14, h15, h16⟩ := h
  constructor <;> omega
end Go.Sub
namespace Go.Proofs.YtcjflafjmdfanaaGreatDoor
open Go.RowKit Go.Sub

end Go.Proofs.YtcjflafjmdfanaaGreatDoor
/- What Check and Back of the reference of phasor return. -/
namespace Go.Proofs.YtcjflafjmdfanaaGreatDoor
open Go.RowKit Go.Sub

end Go.Proofs.YtcjflafjmdfanaaGreatDoor
/- What Harmonic, All and Energy of the reference of phasor return for windows in their range. -/
namespace Go.Proofs.YtcjflafjmdfanaaGreatDoor
open Go.RowKit Go.Sub

theorem chkE_ok {x : Nat → Int} (hx : WinOK x 16383) : chkE x = 0 := chkE_good fun k hk => by
  have := hx k hk
  simp [brkB]
  omega
theorem chkE_win {x : Nat → Int} (h : chkE x = 0) : WinOK x 16383 := by
  intro k hk
  cases hb : brkB 16383 (x k)
  · simp [brkB] at hb
    omega
  · rw [chkE_bad hk hb] at h
    cases h
end Go.Proofs.YtcjflafjmdfanaaGreatDoor
/- What the functions of phasor and of its reference return where Check returns an error. -/
namespace Go.Proofs.YtcjflafjmdfanaaGreatDoor
open Go.RowKit Go.Sub
/-- Check returns E for the slice v, in every world behind w. -/
def Fails (F : FuncId) (v : Value) (E : Int) (w : World) : Prop := ∀ w', Q w w' → Calls Tryz.prog F #[v] w' fun e w'' => e = .returned (.int .i64 E) ∧ w' = w''

end Go.Proofs.YtcjflafjmdfanaaGreatDoor
namespace Go.Sub
/-- The sign of j*x - k*y. -/
def versS (x : Su) (j : Int) (y : Su) (k : Int) : Int := sgnS ⟨j * x.a - k * y.a, j * x.b - k * y.b⟩
/-- The products are found with small numbers. -/
def VsSmall (x : Su) (j : Int) (y : Su) (k : Int) : Prop := (-2305843009213693952 ≤ j * x.a ∧ j * x.a ≤ 2305843009213693952) ∧ (-2305843009213693952 ≤ k * y.a ∧ k * y.a ≤ 2305843009213693952) ∧ (-2305843009213693952 ≤ j * x.b ∧ j * x.b ≤ 2305843009213693952) ∧ (-2305843009213693952 ≤ k * y.b ∧ k * y.b ≤ 2305843009213693952)
theorem VsSmall.of {x y : Su} {j k l m : Int} (hx : x.In l) (hy : y.In l) (h1 : -m ≤ j) (h2 : j ≤ m) (h3 : -m ≤ k) (h4 : k ≤ m) (hb : m * l ≤ 2305843009213693952) : VsSmall x j y k := by
  obtain ⟨a1, a2, a3, a4⟩ := hx
  obtain ⟨b1, b2, b3, b4⟩ := hy
  have p1 := bd_mul h1 h2 a1 a2
  have p2 := bd_mul h3 h4 b1 b2
  have p3 := bd_mul h1 h2 a3 a4
  have p4 := bd_mul h3 h4 b3 b4
  unfold VsSmall
  omega
end Go.Sub
namespace Go.Proofs.YtcjflafjmdfanaaGreatDoor
open Go.RowKit Go.Sub
set_option maxHeartbeats 1000000 in
theorem apart_ok (j a k b : Int) (w : World) (j0 : -1152921504606846976 ≤ j) (j1 : j ≤ 1152921504606846976) (a0 : -1152921504606846976 ≤ a) (a1 : a ≤ 1152921504606846976) (k0 : -1152921504606846976 ≤ k) (k1 : k ≤ 1152921504606846976) (b0 : -1152921504606846976 ≤ b) (b1 : b ≤ 1152921504606846976) (p0 : -2305843009213693952 ≤ j * a) (p1 : j * a ≤ 2305843009213693952) (q0 : -2305843009213693952 ≤ k * b) (q1 : k * b ≤ 2305843009213693952) :
    Calls Tryz.prog 135 #[.int .i64 j, .int .i64 a, .int .i64 k, .int .i64 b] w fun e w' => e = .returned (.tuple #[.int .i64 (j * a - k * b), .bool true]) ∧ Q w w' := by
  have hta := fun w => times_ok j a w (by omega) (by omega) (by omega) (by omega) (by omega) (by omega)
  have htb := fun w => times_ok k b w (by omega) (by omega) (by omega) (by omega) (by omega) (by omega)
  have HA := Lib.hid hta
  have HB := Lib.hid htb
  clear hta htb
  have hw : wi2 2305843009213693952 (j * a) (k * b) = true := (wi2_iff _ _ _).2 (by omega)
  go_enter Tryz.func135, Tryz.ntmps135
  go_wp2_with (first | (go_at_call 148; first | ((with_reducible refine (HA.out _).mono ?_); rintro e w' ⟨rfl, rfl⟩) | ((with_reducible refine (HB.out _).mono ?_); rintro e w' ⟨rfl, rfl⟩)) | (go_at_call 133; (with_reducible show Calls _ _ #[_, .slice _ 2 _] _ _); refine (swithin2 _ (j * a) (k * b) 2305843009213693952 _ (by omega) (by omega) (by simp [go_sem]) (by simp [go_sem])).mono ?_; rintro e w' ⟨rfl, rfl⟩))
  go_ret2
  refine ⟨rfl, ?_⟩
  repeat' (first | exact Q.refl _ | refine Q.alloc ?_ _ | refine Q.jk ?_ _ | refine Q.drew ?_)
set_option maxHeartbeats 2000000 in
theorem vers_c (x : Su) (j : Int) (y : Su) (k : Int) (w : World) (hx : x.In 1152921504606846976) (hy : y.In 1152921504606846976) (j0 : -1073741824 ≤ j) (j1 : j ≤ 1073741824) (k0 : -1073741824 ≤ k) (k1 : k ≤ 1073741824) (hs : VsSmall x j y k) :
    Calls Tryz.prog 105 #[.agg #[.int .i64 x.a, .int .i64 x.b], .int .i64 j, .agg #[.int .i64 y.a, .int .i64 y.b], .int .i64 k] w fun e w' => e = .returned (.tuple #[.int .i64 (versS x j y k), .int .i64 0]) ∧ Q w w' := by
  obtain ⟨a1, a2, a3, a4⟩ := hx
  obtain ⟨b1, b2, b3, b4⟩ := hy
  obtain ⟨⟨s1, s2⟩, ⟨s3, s4⟩, ⟨s5, s6⟩, s7, s8⟩ := hs
  have h4 : wi4 1152921504606846976 x.a x.b y.a y.b = true := (wi4_iff _ _ _ _ _).2 (by omega)
  have h2 : wi2 1073741824 j k = true := (wi2_iff _ _ _).2 (by omega)
  have hpa := fun w => apart_ok j x.a k y.a w (by omega) (by omega) (by omega) (by omega) (by omega) (by omega) (by omega) (by omega) s1 s2 s3 s4
  have hpb := fun w => apart_ok j x.b k y.b w (by omega) (by omega) (by omega) (by omega) (by omega) (by omega) (by omega) (by omega) s5 s6 s7 s8
  have HA := Lib.hid hpa
  have HB := Lib.hid hpb
  have HS := Lib.hid (fun w => sgnS_any (j * x.a - k * y.a) (j * x.b - k * y.b) w (by omega) (by omega) (by omega) (by omega))
  clear hpa hpb s1 s2 s3 s4 s5 s6 s7 s8
  unfold versS
  go_enter Tryz.func105, Tryz.ntmps105
  go_wp2_with (first | (go_at_call 133; (with_reducible show Calls _ _ #[_, .slice _ 4 _] _ _); refine (swithin4 _ x.a x.b y.a y.b 1152921504606846976 _ (by omega) (by omega) (by simp [go_sem]) (by simp [go_sem]) (by simp [go_sem]) (by simp [go_sem])).mono ?_; rintro e w' ⟨rfl, rfl⟩) | (go_at_call 133; (with_reducible show Calls _ _ #[_, .slice _ 2 _] _ _); refine (swithin2 _ j k 1073741824 _ (by omega) (by omega) (by simp [go_sem]) (by simp [go_sem])).mono ?_; rintro e w' ⟨rfl, rfl⟩) | (go_at_call 135; first | ((with_reducible refine (HA.out _).mono ?_); rintro e w' ⟨rfl, kj, rfl⟩) | ((with_reducible refine (HB.out _).mono ?_); rintro e w' ⟨rfl, kj, rfl⟩)) | (go_at_call 134; (with_reducible refine (HS.out _).mono ?_); rintro e w' ⟨rfl, kj, rfl⟩))
  go_ret2
  refine ⟨rfl, ?_⟩
  repeat' (first | exact Q.refl _ | refine Q.alloc ?_ _ | refine Q.jk ?_ _ | refine Q.drew ?_)
end Go.Proofs.YtcjflafjmdfanaaGreatDoor
