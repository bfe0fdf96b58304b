
/- OvercurrentPhases: the walk. -/
import Derived.Test.YtkkjifgcjfbcaaaOcC
import Derived.Test.YtkkjifgcjfbcaaaOcE
namespace Go.Sub
theorem pickS_step (b n : Su) : (0 < sgnS (n.sub b) ∧ pickS 1 b n = n) ∨ (sgnS (n.sub b) ≤ 0 ∧ pickS 1 b n = b) := by
  rcases Int.lt_or_le 0 (sgnS (n.sub b)) with h | h
  · refine .inl ⟨h, ?_⟩
    rcases sgnS_range (n.sub b) with h1 | h1 | h1
    · omega
    · omega
    · simp [pickS, h1]
  · refine .inr ⟨h, ?_⟩
    have h1 : (sgnS (n.sub b) == 1) = false := by
      rw [beq_eq_false_iff_ne]
      omega
    simp [pickS, h1]
theorem zero_below {p : Int} (h : 1 ≤ p) : ¬ 0 ≤ sgnS ((Cy.mk 0 0 0 0).norm.sub (peakS p)) := by
  have e : (Cy.mk 0 0 0 0).norm.sub (peakS p) = ⟨-(36 * p * p), 0⟩ := by
    apply Su.ext'
    · show (0 : Int) - 36 * p * p = -(36 * p * p)
      omega
    · rfl
  have hp := Int.mul_le_mul h h (by decide) (by omega)
  rw [e, nn_iff]
  rw [Int.mul_assoc]
  rintro (⟨h1, _⟩ | ⟨h1, _, _⟩ | ⟨_, _, h3⟩)
  · dsimp only at h1
    omega
  · dsimp only at h1
    omega
  · dsimp only at h3
    have h4 := sq_nonneg (-(36 * (p * p)))
    have := sq_zero (show (-(36 * (p * p))) * (-(36 * (p * p))) = 0 by omega)
    omega
theorem one_up (x : Cy) {p : Int} (h : 1 ≤ p) : decide (0 ≤ sgnS ((extS 1 x ⟨0, 0, 0, 0⟩ ⟨0, 0, 0, 0⟩).sub (peakS p))) = decide (0 ≤ sgnS (x.norm.sub (peakS p))) := by
  refine decide_eq_decide.2 ?_
  rw [ge_ext]
  have := zero_below h
  exact ⟨fun h' => h'.elim id (fun h' => h'.elim (fun h => absurd h this) (fun h => absurd h this)), .inl⟩
theorem under_all (x y z : Cy) (p : Int) : decide (sgnS ((extS (-1) x y z).sub (peakS p)) < 0) = !(decide (0 ≤ sgnS (x.norm.sub (peakS p))) && decide (0 ≤ sgnS (y.norm.sub (peakS p))) && decide (0 ≤ sgnS (z.norm.sub (peakS p)))) := by
  rw [Bool.eq_iff_iff]
  simp only [decide_eq_true_eq, lt_ext, Bool.not_eq_true', Bool.and_eq_false_iff, decide_eq_false_iff_not, Int.not_le, or_assoc]
theorem under_rot (x y z : Cy) (p : Int) : decide (sgnS ((extS (-1) z x y).sub (peakS p)) < 0) = decide (sgnS ((extS (-1) x y z).sub (peakS p)) < 0) := by
  refine decide_eq_decide.2 ?_
  rw [lt_ext, lt_ext]
  exact ⟨fun h => h.elim (fun h => .inr (.inr h)) (fun h => h.elim .inl (fun h => .inr (.inl h))), fun h => h.elim (fun h => .inr (.inl h)) (fun h => h.elim (fun h => .inr (.inr h)) .inl)⟩
theorem ext_turn (x y z : Cy) (k : Int) : extS 1 (z.turn k) x y = extS 1 x y z := by
  rw [← ext_rot x y z]
  unfold extS
  rw [norm_turn]
end Go.Sub
namespace Go.Proofs.Ytkkjifgcjfbcaaa
open Go.RowKit Go.Sub
set_option maxRecDepth 100000 in
set_option maxHeartbeats 8000000 in
theorem ocphases_core (x y z : Cy) (p0 k0 : Int) (X Y Z T : Cy) (n1 n2 n3 t1 t2 t3 : Su) (p s1 s2 s3 te ae : Int) (o1 o2 o3 tb ub : Bool) (w : World)
    (SM : Hid (∀ w, Calls Try.prog 44 #[.agg #[.int .i64 x.a, .int .i64 x.b, .int .i64 x.c, .int .i64 x.d, .int .i64 y.a, .int .i64 y.b, .int .i64 y.c, .int .i64 y.d, .int .i64 z.a, .int .i64 z.b, .int .i64 z.c, .int .i64 z.d]] w fun e w' => e = .returned (.agg #[.int .i64 X.a, .int .i64 X.b, .int .i64 X.c, .int .i64 X.d, .int .i64 Y.a, .int .i64 Y.b, .int .i64 Y.c, .int .i64 Y.d, .int .i64 Z.a, .int .i64 Z.b, .int .i64 Z.c, .int .i64 Z.d]) ∧ Q w w'))
    (WT : Hid (∀ w, Calls Try.prog 46 #[.int .i64 p0, .int .i64 16383] w fun e w' => e = .returned (.int .i64 p) ∧ w = w')) (p0' : 0 ≤ p) (p1 : p ≤ 16382)
    (O1 : Hid (∀ w, Calls Try.prog 36 #[.agg #[.int .i64 X.a, .int .i64 X.b, .int .i64 X.c, .int .i64 X.d, .int .i64 0, .int .i64 0, .int .i64 0, .int .i64 0, .int .i64 0, .int .i64 0, .int .i64 0, .int .i64 0], .int .i64 (1 + p)] w fun e w' => e = .returned (.tuple #[.bool o1, .int .i64 0]) ∧ Q w w')) (O2 : Hid (∀ w, Calls Try.prog 36 #[.agg #[.int .i64 Y.a, .int .i64 Y.b, .int .i64 Y.c, .int .i64 Y.d, .int .i64 0, .int .i64 0, .int .i64 0, .int .i64 0, .int .i64 0, .int .i64 0, .int .i64 0, .int .i64 0], .int .i64 (1 + p)] w fun e w' => e = .returned (.tuple #[.bool o2, .int .i64 0]) ∧ Q w w')) (O3 : Hid (∀ w, Calls Try.prog 36 #[.agg #[.int .i64 Z.a, .int .i64 Z.b, .int .i64 Z.c, .int .i64 Z.d, .int .i64 0, .int .i64 0, .int .i64 0, .int .i64 0, .int .i64 0, .int .i64 0, .int .i64 0, .int .i64 0], .int .i64 (1 + p)] w fun e w' => e = .returned (.tuple #[.bool o3, .int .i64 0]) ∧ Q w w'))
    (N1 : Hid (∀ w, Calls Try.prog 48 #[.agg #[.int .i64 X.a, .int .i64 X.b, .int .i64 X.c, .int .i64 X.d]] w fun e w' => e = .returned (.tuple #[.agg #[.int .i64 n1.a, .int .i64 n1.b], .int .i64 0]) ∧ Q w w')) (N2 : Hid (∀ w, Calls Try.prog 48 #[.agg #[.int .i64 Y.a, .int .i64 Y.b, .int .i64 Y.c, .int .i64 Y.d]] w fun e w' => e = .returned (.tuple #[.agg #[.int .i64 n2.a, .int .i64 n2.b], .int .i64 0]) ∧ Q w w')) (N3 : Hid (∀ w, Calls Try.prog 48 #[.agg #[.int .i64 Z.a, .int .i64 Z.b, .int .i64 Z.c, .int .i64 Z.d]] w fun e w' => e = .returned (.tuple #[.agg #[.int .i64 n3.a, .int .i64 n3.b], .int .i64 0]) ∧ Q w w')) (C1 : Hid (∀ w, Calls Try.prog 24 #[.agg #[.int .i64 n1.a, .int .i64 n1.b], .agg #[.int .i64 0, .int .i64 0]] w fun e w' => e = .returned (.tuple #[.int .i64 s1, .int .i64 0]) ∧ Q w w')) (C2 : Hid (∀ w, Calls Try.prog 24 #[.agg #[.int .i64 n2.a, .int .i64 n2.b], .agg #[.int .i64 t1.a, .int .i64 t1.b]] w fun e w' => e = .returned (.tuple #[.int .i64 s2, .int .i64 0]) ∧ Q w w')) (C3 : Hid (∀ w, Calls Try.prog 24 #[.agg #[.int .i64 n3.a, .int .i64 n3.b], .agg #[.int .i64 t2.a, .int .i64 t2.b]] w fun e w' => e = .returned (.tuple #[.int .i64 s3, .int .i64 0]) ∧ Q w w'))
    (H1 : Hid ((0 < s1 ∧ t1 = n1) ∨ (s1 ≤ 0 ∧ t1 = ⟨0, 0⟩))) (H2 : Hid ((0 < s2 ∧ t2 = n2) ∨ (s2 ≤ 0 ∧ t2 = t1))) (H3 : Hid ((0 < s3 ∧ t3 = n3) ∨ (s3 ≤ 0 ∧ t3 = t2)))
    (G1 : Hid (∀ w, Calls Try.prog 34 #[.agg #[.int .i64 X.a, .int .i64 X.b, .int .i64 X.c, .int .i64 X.d, .int .i64 Y.a, .int .i64 Y.b, .int .i64 Y.c, .int .i64 Y.d, .int .i64 Z.a, .int .i64 Z.b, .int .i64 Z.c, .int .i64 Z.d]] w fun e w' => e = .returned (.tuple #[.agg #[.int .i64 t3.a, .int .i64 t3.b], .int .i64 0]) ∧ Q w w')) (G2 : Hid (∀ w, Calls Try.prog 34 #[.agg #[.int .i64 Z.a, .int .i64 Z.b, .int .i64 Z.c, .int .i64 Z.d, .int .i64 X.a, .int .i64 X.b, .int .i64 X.c, .int .i64 X.d, .int .i64 Y.a, .int .i64 Y.b, .int .i64 Y.c, .int .i64 Y.d]] w fun e w' => e = .returned (.tuple #[.agg #[.int .i64 t3.a, .int .i64 t3.b], .int .i64 0]) ∧ Q w w'))
    (U1 : Hid (∀ w, Calls Try.prog 38 #[.agg #[.int .i64 X.a, .int .i64 X.b, .int .i64 X.c, .int .i64 X.d, .int .i64 Y.a, .int .i64 Y.b, .int .i64 Y.c, .int .i64 Y.d, .int .i64 Z.a, .int .i64 Z.b, .int .i64 Z.c, .int .i64 Z.d], .int .i64 (1 + p)] w fun e w' => e = .returned (.tuple #[.bool (!(o1 && o2 && o3)), .int .i64 0]) ∧ Q w w')) (U2 : Hid (∀ w, Calls Try.prog 38 #[.agg #[.int .i64 Z.a, .int .i64 Z.b, .int .i64 Z.c, .int .i64 Z.d, .int .i64 X.a, .int .i64 X.b, .int .i64 X.c, .int .i64 X.d, .int .i64 Y.a, .int .i64 Y.b, .int .i64 Y.c, .int .i64 Y.d], .int .i64 (1 + p)] w fun e w' => e = .returned (.tuple #[.bool (!(o1 && o2 && o3)), .int .i64 0]) ∧ Q w w'))
    (TN : Hid (∀ w, Calls Try.prog 49 #[.agg #[.int .i64 Z.a, .int .i64 Z.b, .int .i64 Z.c, .int .i64 Z.d], .int .i64 (3 * k0.tmod 4)] w fun e w' => e = .returned (.tuple #[.agg #[.int .i64 T.a, .int .i64 T.b, .int .i64 T.c, .int .i64 T.d], .int .i64 te]) ∧ Q w w'))
    (A1 : Hid (∀ w, Calls Try.prog 36 #[.agg #[.int .i64 T.a, .int .i64 T.b, .int .i64 T.c, .int .i64 T.d, .int .i64 X.a, .int .i64 X.b, .int .i64 X.c, .int .i64 X.d, .int .i64 Y.a, .int .i64 Y.b, .int .i64 Y.c, .int .i64 Y.d], .int .i64 (1 + p)] w fun e w' => e = .returned (.tuple #[.bool tb, .int .i64 ae]) ∧ Q w w')) (A2 : Hid (∀ w, Calls Try.prog 36 #[.agg #[.int .i64 X.a, .int .i64 X.b, .int .i64 X.c, .int .i64 X.d, .int .i64 Y.a, .int .i64 Y.b, .int .i64 Y.c, .int .i64 Y.d, .int .i64 Z.a, .int .i64 Z.b, .int .i64 Z.c, .int .i64 Z.d], .int .i64 (1 + p)] w fun e w' => e = .returned (.tuple #[.bool ub, .int .i64 0]) ∧ Q w w')) (HT : Hid ((ae != 0) = true ∨ ((ae != 0) = false ∧ tb = ub))) :
    Calls Try.prog 13 #[.agg #[.int .i64 x.a, .int .i64 x.b, .int .i64 x.c, .int .i64 x.d, .int .i64 y.a, .int .i64 y.b, .int .i64 y.c, .int .i64 y.d, .int .i64 z.a, .int .i64 z.b, .int .i64 z.c, .int .i64 z.d], .int .i64 p0, .int .i64 k0] w fun e w' => e = .returned (.bool true) ∧ Q w w' := by
  have hk := tmod_in k0 (show (0 : Int) < 4 by decide)
  obtain ⟨hk1, hk2⟩ := hk
  go_enter Try.func13, Try.ntmps13
  go_wp2_with (first | (go_at_call 33; refine (known24 _).mono ?_; rintro e w' ⟨rfl, kA, rfl⟩) | (go_at_call 44; refine (SM.out _).mono ?_; rintro e w' ⟨rfl, kB, rfl⟩) | (go_at_call 46; (with_reducible refine (WT.out _).mono ?_); rintro e w' ⟨rfl, rfl⟩))
  go_loopw [8, 10] (fun s8 s10 wr => (s10 = .int .i64 0 ∧ s8 = .bool true ∧ Q (((((w.alloc (.cells #[.int .i64 X.a, .int .i64 X.b, .int .i64 X.c, .int .i64 X.d, .int .i64 Y.a, .int .i64 Y.b, .int .i64 Y.c, .int .i64 Y.d, .int .i64 Z.a, .int .i64 Z.b, .int .i64 Z.c, .int .i64 Z.d] 41)).jk kA).jk kB).alloc (.cells #[.int .i64 0, .int .i64 0, .int .i64 0, .int .i64 0, .int .i64 0, .int .i64 0, .int .i64 0, .int .i64 0, .int .i64 0, .int .i64 0, .int .i64 0, .int .i64 0] 41)).alloc (.cells #[.int .i64 0, .int .i64 0] 23)) wr) ∨ (s10 = .int .i64 1 ∧ s8 = .bool o1 ∧ Q (((((w.alloc (.cells #[.int .i64 X.a, .int .i64 X.b, .int .i64 X.c, .int .i64 X.d, .int .i64 Y.a, .int .i64 Y.b, .int .i64 Y.c, .int .i64 Y.d, .int .i64 Z.a, .int .i64 Z.b, .int .i64 Z.c, .int .i64 Z.d] 41)).jk kA).jk kB).alloc (.cells #[.int .i64 0, .int .i64 0, .int .i64 0, .int .i64 0, .int .i64 X.a, .int .i64 X.b, .int .i64 X.c, .int .i64 X.d, .int .i64 0, .int .i64 0, .int .i64 0, .int .i64 0] 41)).alloc (.cells #[.int .i64 t1.a, .int .i64 t1.b] 23)) wr) ∨ (s10 = .int .i64 2 ∧ s8 = .bool (o1 && o2) ∧ Q (((((w.alloc (.cells #[.int .i64 X.a, .int .i64 X.b, .int .i64 X.c, .int .i64 X.d, .int .i64 Y.a, .int .i64 Y.b, .int .i64 Y.c, .int .i64 Y.d, .int .i64 Z.a, .int .i64 Z.b, .int .i64 Z.c, .int .i64 Z.d] 41)).jk kA).jk kB).alloc (.cells #[.int .i64 0, .int .i64 0, .int .i64 0, .int .i64 0, .int .i64 X.a, .int .i64 X.b, .int .i64 X.c, .int .i64 X.d, .int .i64 Y.a, .int .i64 Y.b, .int .i64 Y.c, .int .i64 Y.d] 41)).alloc (.cells #[.int .i64 t2.a, .int .i64 t2.b] 23)) wr) ∨ (s10 = .int .i64 3 ∧ s8 = .bool (o1 && o2 && o3) ∧ Q (((((w.alloc (.cells #[.int .i64 X.a, .int .i64 X.b, .int .i64 X.c, .int .i64 X.d, .int .i64 Y.a, .int .i64 Y.b, .int .i64 Y.c, .int .i64 Y.d, .int .i64 Z.a, .int .i64 Z.b, .int .i64 Z.c, .int .i64 Z.d] 41)).jk kA).jk kB).alloc (.cells #[.int .i64 Z.a, .int .i64 Z.b, .int .i64 Z.c, .int .i64 Z.d, .int .i64 X.a, .int .i64 X.b, .int .i64 X.c, .int .i64 X.d, .int .i64 Y.a, .int .i64 Y.b, .int .i64 Y.c, .int .i64 Y.d] 41)).alloc (.cells #[.int .i64 t3.a, .int .i64 t3.b] 23)) wr)) (fun _ i _ => 4 - (intOf i).toNat)
  case atStart => exact .inl ⟨rfl, rfl, by repeat' (first | exact Q.refl _ | refine Q.alloc ?_ _ | refine Q.jk ?_ _ | refine Q.drew ?_)⟩
  case round =>
    rcases hrel with ⟨rfl, rfl, kw, rfl⟩ | ⟨rfl, rfl, kw, rfl⟩ | ⟨rfl, rfl, kw, rfl⟩ | ⟨rfl, rfl, kw, rfl⟩
    · rcases H1.out with ⟨hs, ht⟩ | ⟨hs, ht⟩
      · subst ht
        go_wp2_with (first | (go_at_call 33; refine (known24 _).mono ?_; rintro e w' ⟨rfl, kj, rfl⟩) | (go_at_call 44; refine (SM.out _).mono ?_; rintro e w' ⟨rfl, kj, rfl⟩) | (go_at_call 46; (with_reducible refine (WT.out _).mono ?_); rintro e w' ⟨rfl, rfl⟩) | (go_at_call 36; (with_reducible refine (O1.out _).mono ?_); rintro e w' ⟨rfl, kj, rfl⟩) | (go_at_call 36; (with_reducible refine (O2.out _).mono ?_); rintro e w' ⟨rfl, kj, rfl⟩) | (go_at_call 36; (with_reducible refine (O3.out _).mono ?_); rintro e w' ⟨rfl, kj, rfl⟩) | (go_at_call 48; (with_reducible refine (N1.out _).mono ?_); rintro e w' ⟨rfl, kj, rfl⟩) | (go_at_call 48; (with_reducible refine (N2.out _).mono ?_); rintro e w' ⟨rfl, kj, rfl⟩) | (go_at_call 48; (with_reducible refine (N3.out _).mono ?_); rintro e w' ⟨rfl, kj, rfl⟩) | (go_at_call 24; (with_reducible refine (C1.out _).mono ?_); rintro e w' ⟨rfl, kj, rfl⟩) | (go_at_call 24; (with_reducible refine (C2.out _).mono ?_); rintro e w' ⟨rfl, kj, rfl⟩) | (go_at_call 24; (with_reducible refine (C3.out _).mono ?_); rintro e w' ⟨rfl, kj, rfl⟩) | (go_at_call 34; (with_reducible refine (G1.out _).mono ?_); rintro e w' ⟨rfl, kj, rfl⟩) | (go_at_call 34; (with_reducible refine (G2.out _).mono ?_); rintro e w' ⟨rfl, kj, rfl⟩) | (go_at_call 38; (with_reducible refine (U1.out _).mono ?_); rintro e w' ⟨rfl, kj, rfl⟩) | (go_at_call 38; (with_reducible refine (U2.out _).mono ?_); rintro e w' ⟨rfl, kj, rfl⟩) | (go_at_call 49; (with_reducible refine (TN.out _).mono ?_); rintro e w' ⟨rfl, kj, rfl⟩) | (go_at_call 36; (with_reducible refine (A1.out _).mono ?_); rintro e w' ⟨rfl, kj, rfl⟩) | (go_at_call 36; (with_reducible refine (A2.out _).mono ?_); rintro e w' ⟨rfl, kj, rfl⟩))
        go_roundw
        case rel => exact .inr (.inl ⟨rfl, rfl, by repeat' (first | exact Q.refl _ | refine Q.alloc ?_ _ | refine Q.jk ?_ _ | refine Q.drew ?_)⟩)
        case measure => simp [intOf]
      · subst ht
        go_wp2_with (first | (go_at_call 33; refine (known24 _).mono ?_; rintro e w' ⟨rfl, kj, rfl⟩) | (go_at_call 44; refine (SM.out _).mono ?_; rintro e w' ⟨rfl, kj, rfl⟩) | (go_at_call 46; (with_reducible refine (WT.out _).mono ?_); rintro e w' ⟨rfl, rfl⟩) | (go_at_call 36; (with_reducible refine (O1.out _).mono ?_); rintro e w' ⟨rfl, kj, rfl⟩) | (go_at_call 36; (with_reducible refine (O2.out _).mono ?_); rintro e w' ⟨rfl, kj, rfl⟩) | (go_at_call 36; (with_reducible refine (O3.out _).mono ?_); rintro e w' ⟨rfl, kj, rfl⟩) | (go_at_call 48; (with_reducible refine (N1.out _).mono ?_); rintro e w' ⟨rfl, kj, rfl⟩) | (go_at_call 48; (with_reducible refine (N2.out _).mono ?_); rintro e w' ⟨rfl, kj, rfl⟩) | (go_at_call 48; (with_reducible refine (N3.out _).mono ?_); rintro e w' ⟨rfl, kj, rfl⟩) | (go_at_call 24; (with_reducible refine (C1.out _).mono ?_); rintro e w' ⟨rfl, kj, rfl⟩) | (go_at_call 24; (with_reducible refine (C2.out _).mono ?_); rintro e w' ⟨rfl, kj, rfl⟩) | (go_at_call 24; (with_reducible refine (C3.out _).mono ?_); rintro e w' ⟨rfl, kj, rfl⟩) | (go_at_call 34; (with_reducible refine (G1.out _).mono ?_); rintro e w' ⟨rfl, kj, rfl⟩) | (go_at_call 34; (with_reducible refine (G2.out _).mono ?_); rintro e w' ⟨rfl, kj, rfl⟩) | (go_at_call 38; (with_reducible refine (U1.out _).mono ?_); rintro e w' ⟨rfl, kj, rfl⟩) | (go_at_call 38; (with_reducible refine (U2.out _).mono ?_); rintro e w' ⟨rfl, kj, rfl⟩) | (go_at_call 49; (with_reducible refine (TN.out _).mono ?_); rintro e w' ⟨rfl, kj, rfl⟩) | (go_at_call 36; (with_reducible refine (A1.out _).mono ?_); rintro e w' ⟨rfl, kj, rfl⟩) | (go_at_call 36; (with_reducible refine (A2.out _).mono ?_); rintro e w' ⟨rfl, kj, rfl⟩))
        go_roundw
        case rel => exact .inr (.inl ⟨rfl, rfl, by repeat' (first | exact Q.refl _ | refine Q.alloc ?_ _ | refine Q.jk ?_ _ | refine Q.drew ?_)⟩)
        case measure => simp [intOf]
    · rcases H2.out with ⟨hs, ht⟩ | ⟨hs, ht⟩
      · subst ht
        cases o1
        all_goals
          go_wp2_with (first | (go_at_call 33; refine (known24 _).mono ?_; rintro e w' ⟨rfl, kj, rfl⟩) | (go_at_call 44; refine (SM.out _).mono ?_; rintro e w' ⟨rfl, kj, rfl⟩) | (go_at_call 46; (with_reducible refine (WT.out _).mono ?_); rintro e w' ⟨rfl, rfl⟩) | (go_at_call 36; (with_reducible refine (O1.out _).mono ?_); rintro e w' ⟨rfl, kj, rfl⟩) | (go_at_call 36; (with_reducible refine (O2.out _).mono ?_); rintro e w' ⟨rfl, kj, rfl⟩) | (go_at_call 36; (with_reducible refine (O3.out _).mono ?_); rintro e w' ⟨rfl, kj, rfl⟩) | (go_at_call 48; (with_reducible refine (N1.out _).mono ?_); rintro e w' ⟨rfl, kj, rfl⟩) | (go_at_call 48; (with_reducible refine (N2.out _).mono ?_); rintro e w' ⟨rfl, kj, rfl⟩) | (go_at_call 48; (with_reducible refine (N3.out _).mono ?_); rintro e w' ⟨rfl, kj, rfl⟩) | (go_at_call 24; (with_reducible refine (C1.out _).mono ?_); rintro e w' ⟨rfl, kj, rfl⟩) | (go_at_call 24; (with_reducible refine (C2.out _).mono ?_); rintro e w' ⟨rfl, kj, rfl⟩) | (go_at_call 24; (with_reducible refine (C3.out _).mono ?_); rintro e w' ⟨rfl, kj, rfl⟩) | (go_at_call 34; (with_reducible refine (G1.out _).mono ?_); rintro e w' ⟨rfl, kj, rfl⟩) | (go_at_call 34; (with_reducible refine (G2.out _).mono ?_); rintro e w' ⟨rfl, kj, rfl⟩) | (go_at_call 38; (with_reducible refine (U1.out _).mono ?_); rintro e w' ⟨rfl, kj, rfl⟩) | (go_at_call 38; (with_reducible refine (U2.out _).mono ?_); rintro e w' ⟨rfl, kj, rfl⟩) | (go_at_call 49; (with_reducible refine (TN.out _).mono ?_); rintro e w' ⟨rfl, kj, rfl⟩) | (go_at_call 36; (with_reducible refine (A1.out _).mono ?_); rintro e w' ⟨rfl, kj, rfl⟩) | (go_at_call 36; (with_reducible refine (A2.out _).mono ?_); rintro e w' ⟨rfl, kj, rfl⟩))
          go_roundw
          case rel => exact .inr (.inr (.inl ⟨rfl, rfl, by repeat' (first | exact Q.refl _ | refine Q.alloc ?_ _ | refine Q.jk ?_ _ | refine Q.drew ?_)⟩))
          case measure => simp [intOf]
      · subst ht
        cases o1
        all_goals
          go_wp2_with (first | (go_at_call 33; refine (known24 _).mono ?_; rintro e w' ⟨rfl, kj, rfl⟩) | (go_at_call 44; refine (SM.out _).mono ?_; rintro e w' ⟨rfl, kj, rfl⟩) | (go_at_call 46; (with_reducible refine (WT.out _).mono ?_); rintro e w' ⟨rfl, rfl⟩) | (go_at_call 36; (with_reducible refine (O1.out _).mono ?_); rintro e w' ⟨rfl, kj, rfl⟩) | (go_at_call 36; (with_reducible refine (O2.out _).mono ?_); rintro e w' ⟨rfl, kj, rfl⟩) | (go_at_call 36; (with_reducible refine (O3.out _).mono ?_); rintro e w' ⟨rfl, kj, rfl⟩) | (go_at_call 48; (with_reducible refine (N1.out _).mono ?_); rintro e w' ⟨rfl, kj, rfl⟩) | (go_at_call 48; (with_reducible refine (N2.out _).mono ?_); rintro e w' ⟨rfl, kj, rfl⟩) | (go_at_call 48; (with_reducible refine (N3.out _).mono ?_); rintro e w' ⟨rfl, kj, rfl⟩) | (go_at_call 24; (with_reducible refine (C1.out _).mono ?_); rintro e w' ⟨rfl, kj, rfl⟩) | (go_at_call 24; (with_reducible refine (C2.out _).mono ?_); rintro e w' ⟨rfl, kj, rfl⟩) | (go_at_call 24; (with_reducible refine (C3.out _).mono ?_); rintro e w' ⟨rfl, kj, rfl⟩) | (go_at_call 34; (with_reducible refine (G1.out _).mono ?_); rintro e w' ⟨rfl, kj, rfl⟩) | (go_at_call 34; (with_reducible refine (G2.out _).mono ?_); rintro e w' ⟨rfl, kj, rfl⟩) | (go_at_call 38; (with_reducible refine (U1.out _).mono ?_); rintro e w' ⟨rfl, kj, rfl⟩) | (go_at_call 38; (with_reducible refine (U2.out _).mono ?_); rintro e w' ⟨rfl, kj, rfl⟩) | (go_at_call 49; (with_reducible refine (TN.out _).mono ?_); rintro e w' ⟨rfl, kj, rfl⟩) | (go_at_call 36; (with_reducible refine (A1.out _).mono ?_); rintro e w' ⟨rfl, kj, rfl⟩) | (go_at_call 36; (with_reducible refine (A2.out _).mono ?_); rintro e w' ⟨rfl, kj, rfl⟩))
          go_roundw
          case rel => exact .inr (.inr (.inl ⟨rfl, rfl, by repeat' (first | exact Q.refl _ | refine Q.alloc ?_ _ | refine Q.jk ?_ _ | refine Q.drew ?_)⟩))
          case measure => simp [intOf]
    · rcases H3.out with ⟨hs, ht⟩ | ⟨hs, ht⟩
      · subst ht
        obtain ⟨a12, ha⟩ : ∃ a, (o1 && o2) = a := ⟨_, rfl⟩
        have HA12 := Lib.hid ha
        rw [ha]
        cases a12
        all_goals
          go_wp2_with (first | (go_at_call 33; refine (known24 _).mono ?_; rintro e w' ⟨rfl, kj, rfl⟩) | (go_at_call 44; refine (SM.out _).mono ?_; rintro e w' ⟨rfl, kj, rfl⟩) | (go_at_call 46; (with_reducible refine (WT.out _).mono ?_); rintro e w' ⟨rfl, rfl⟩) | (go_at_call 36; (with_reducible refine (O1.out _).mono ?_); rintro e w' ⟨rfl, kj, rfl⟩) | (go_at_call 36; (with_reducible refine (O2.out _).mono ?_); rintro e w' ⟨rfl, kj, rfl⟩) | (go_at_call 36; (with_reducible refine (O3.out _).mono ?_); rintro e w' ⟨rfl, kj, rfl⟩) | (go_at_call 48; (with_reducible refine (N1.out _).mono ?_); rintro e w' ⟨rfl, kj, rfl⟩) | (go_at_call 48; (with_reducible refine (N2.out _).mono ?_); rintro e w' ⟨rfl, kj, rfl⟩) | (go_at_call 48; (with_reducible refine (N3.out _).mono ?_); rintro e w' ⟨rfl, kj, rfl⟩) | (go_at_call 24; (with_reducible refine (C1.out _).mono ?_); rintro e w' ⟨rfl, kj, rfl⟩) | (go_at_call 24; (with_reducible refine (C2.out _).mono ?_); rintro e w' ⟨rfl, kj, rfl⟩) | (go_at_call 24; (with_reducible refine (C3.out _).mono ?_); rintro e w' ⟨rfl, kj, rfl⟩) | (go_at_call 34; (with_reducible refine (G1.out _).mono ?_); rintro e w' ⟨rfl, kj, rfl⟩) | (go_at_call 34; (with_reducible refine (G2.out _).mono ?_); rintro e w' ⟨rfl, kj, rfl⟩) | (go_at_call 38; (with_reducible refine (U1.out _).mono ?_); rintro e w' ⟨rfl, kj, rfl⟩) | (go_at_call 38; (with_reducible refine (U2.out _).mono ?_); rintro e w' ⟨rfl, kj, rfl⟩) | (go_at_call 49; (with_reducible refine (TN.out _).mono ?_); rintro e w' ⟨rfl, kj, rfl⟩) | (go_at_call 36; (with_reducible refine (A1.out _).mono ?_); rintro e w' ⟨rfl, kj, rfl⟩) | (go_at_call 36; (with_reducible refine (A2.out _).mono ?_); rintro e w' ⟨rfl, kj, rfl⟩))
          go_roundw
          case rel => exact .inr (.inr (.inr ⟨rfl, by first | rfl | (rw [HA12.out]; rfl), by repeat' (first | exact Q.refl _ | refine Q.alloc ?_ _ | refine Q.jk ?_ _ | refine Q.drew ?_)⟩))
          case measure => simp [intOf]
      · subst ht
        obtain ⟨a12, ha⟩ : ∃ a, (o1 && o2) = a := ⟨_, rfl⟩
        have HA12 := Lib.hid ha
        rw [ha]
        cases a12
        all_goals
          go_wp2_with (first | (go_at_call 33; refine (known24 _).mono ?_; rintro e w' ⟨rfl, kj, rfl⟩) | (go_at_call 44; refine (SM.out _).mono ?_; rintro e w' ⟨rfl, kj, rfl⟩) | (go_at_call 46; (with_reducible refine (WT.out _).mono ?_); rintro e w' ⟨rfl, rfl⟩) | (go_at_call 36; (with_reducible refine (O1.out _).mono ?_); rintro e w' ⟨rfl, kj, rfl⟩) | (go_at_call 36; (with_reducible refine (O2.out _).mono ?_); rintro e w' ⟨rfl, kj, rfl⟩) | (go_at_call 36; (with_reducible refine (O3.out _).mono ?_); rintro e w' ⟨rfl, kj, rfl⟩) | (go_at_call 48; (with_reducible refine (N1.out _).mono ?_); rintro e w' ⟨rfl, kj, rfl⟩) | (go_at_call 48; (with_reducible refine (N2.out _).mono ?_); rintro e w' ⟨rfl, kj, rfl⟩) | (go_at_call 48; (with_reducible refine (N3.out _).mono ?_); rintro e w' ⟨rfl, kj, rfl⟩) | (go_at_call 24; (with_reducible refine (C1.out _).mono ?_); rintro e w' ⟨rfl, kj, rfl⟩) | (go_at_call 24; (with_reducible refine (C2.out _).mono ?_); rintro e w' ⟨rfl, kj, rfl⟩) | (go_at_call 24; (with_reducible refine (C3.out _).mono ?_); rintro e w' ⟨rfl, kj, rfl⟩) | (go_at_call 34; (with_reducible refine (G1.out _).mono ?_); rintro e w' ⟨rfl, kj, rfl⟩) | (go_at_call 34; (with_reducible refine (G2.out _).mono ?_); rintro e w' ⟨rfl, kj, rfl⟩) | (go_at_call 38; (with_reducible refine (U1.out _).mono ?_); rintro e w' ⟨rfl, kj, rfl⟩) | (go_at_call 38; (with_reducible refine (U2.out _).mono ?_); rintro e w' ⟨rfl, kj, rfl⟩) | (go_at_call 49; (with_reducible refine (TN.out _).mono ?_); rintro e w' ⟨rfl, kj, rfl⟩) | (go_at_call 36; (with_reducible refine (A1.out _).mono ?_); rintro e w' ⟨rfl, kj, rfl⟩) | (go_at_call 36; (with_reducible refine (A2.out _).mono ?_); rintro e w' ⟨rfl, kj, rfl⟩))
          go_roundw
          case rel => exact .inr (.inr (.inr ⟨rfl, by first | rfl | (rw [HA12.out]; rfl), by repeat' (first | exact Q.refl _ | refine Q.alloc ?_ _ | refine Q.jk ?_ _ | refine Q.drew ?_)⟩))
          case measure => simp [intOf]
    · obtain ⟨al, ha⟩ : ∃ a, (o1 && o2 && o3) = a := ⟨_, rfl⟩
      rw [ha] at U1 U2 ⊢
      clear ha
      rcases HT.out with ht | ⟨ht, rfl⟩
      all_goals
        cases al
        all_goals
          go_wp2_with (first | (go_at_call 33; refine (known24 _).mono ?_; rintro e w' ⟨rfl, kj, rfl⟩) | (go_at_call 44; refine (SM.out _).mono ?_; rintro e w' ⟨rfl, kj, rfl⟩) | (go_at_call 46; (with_reducible refine (WT.out _).mono ?_); rintro e w' ⟨rfl, rfl⟩) | (go_at_call 36; (with_reducible refine (O1.out _).mono ?_); rintro e w' ⟨rfl, kj, rfl⟩) | (go_at_call 36; (with_reducible refine (O2.out _).mono ?_); rintro e w' ⟨rfl, kj, rfl⟩) | (go_at_call 36; (with_reducible refine (O3.out _).mono ?_); rintro e w' ⟨rfl, kj, rfl⟩) | (go_at_call 48; (with_reducible refine (N1.out _).mono ?_); rintro e w' ⟨rfl, kj, rfl⟩) | (go_at_call 48; (with_reducible refine (N2.out _).mono ?_); rintro e w' ⟨rfl, kj, rfl⟩) | (go_at_call 48; (with_reducible refine (N3.out _).mono ?_); rintro e w' ⟨rfl, kj, rfl⟩) | (go_at_call 24; (with_reducible refine (C1.out _).mono ?_); rintro e w' ⟨rfl, kj, rfl⟩) | (go_at_call 24; (with_reducible refine (C2.out _).mono ?_); rintro e w' ⟨rfl, kj, rfl⟩) | (go_at_call 24; (with_reducible refine (C3.out _).mono ?_); rintro e w' ⟨rfl, kj, rfl⟩) | (go_at_call 34; (with_reducible refine (G1.out _).mono ?_); rintro e w' ⟨rfl, kj, rfl⟩) | (go_at_call 34; (with_reducible refine (G2.out _).mono ?_); rintro e w' ⟨rfl, kj, rfl⟩) | (go_at_call 38; (with_reducible refine (U1.out _).mono ?_); rintro e w' ⟨rfl, kj, rfl⟩) | (go_at_call 38; (with_reducible refine (U2.out _).mono ?_); rintro e w' ⟨rfl, kj, rfl⟩) | (go_at_call 49; (with_reducible refine (TN.out _).mono ?_); rintro e w' ⟨rfl, kj, rfl⟩) | (go_at_call 36; (with_reducible refine (A1.out _).mono ?_); rintro e w' ⟨rfl, kj, rfl⟩) | (go_at_call 36; (with_reducible refine (A2.out _).mono ?_); rintro e w' ⟨rfl, kj, rfl⟩))
          go_ret
          refine ⟨rfl, ?_⟩
          repeat' (first | exact Q.refl _ | refine Q.alloc ?_ _ | refine Q.jk ?_ _ | refine Q.drew ?_)

theorem ocphases_pre (x y z : Cy) (p0 k0 : Int) (T : Cy) (te ae : Int) (tb : Bool) (w : World)
    (TN : Hid (∀ w, Calls Try.prog 49 #[.agg #[.int .i64 (small3 z).a, .int .i64 (small3 z).b, .int .i64 (small3 z).c, .int .i64 (small3 z).d], .int .i64 (3 * k0.tmod 4)] w fun e w' => e = .returned (.tuple #[.agg #[.int .i64 T.a, .int .i64 T.b, .int .i64 T.c, .int .i64 T.d], .int .i64 te]) ∧ Q w w'))
    (A1 : Hid (∀ w, Calls Try.prog 36 #[.agg #[.int .i64 T.a, .int .i64 T.b, .int .i64 T.c, .int .i64 T.d, .int .i64 (small3 x).a, .int .i64 (small3 x).b, .int .i64 (small3 x).c, .int .i64 (small3 x).d, .int .i64 (small3 y).a, .int .i64 (small3 y).b, .int .i64 (small3 y).c, .int .i64 (small3 y).d], .int .i64 (1 + p0 % 16383)] w fun e w' => e = .returned (.tuple #[.bool tb, .int .i64 ae]) ∧ Q w w')) (HT : Hid ((ae != 0) = true ∨ ((ae != 0) = false ∧ tb = decide (0 ≤ sgnS ((extS 1 (small3 x) (small3 y) (small3 z)).sub (peakS (1 + p0 % 16383))))))) :
    Calls Try.prog 13 #[.agg #[.int .i64 x.a, .int .i64 x.b, .int .i64 x.c, .int .i64 x.d, .int .i64 y.a, .int .i64 y.b, .int .i64 y.c, .int .i64 y.d, .int .i64 z.a, .int .i64 z.b, .int .i64 z.c, .int .i64 z.d], .int .i64 p0, .int .i64 k0] w fun e w' => e = .returned (.bool true) ∧ Q w w' := by
  have hx := small3_in x
  have hy := small3_in y
  have hz := small3_in z
  have g1 : (small3 x).norm.In 1000000000000000000 := (norm_in hx).mono (by decide)
  have g2 : (small3 y).norm.In 1000000000000000000 := (norm_in hy).mono (by decide)
  have g3 : (small3 z).norm.In 1000000000000000000 := (norm_in hz).mono (by decide)
  have g0 : (Su.mk 0 0).In 1000000000000000000 := by unfold Su.In; decide
  have hzero : (Cy.mk 0 0 0 0).In 65536 := by unfold Cy.In; decide
  have hp0 : 1 ≤ 1 + p0 % 16383 := by omega
  have hp1 : 1 + p0 % 16383 ≤ 16383 := by omega
  have one : ∀ v : Cy, v.In 65536 → ∀ w, Calls Try.prog 36 #[.agg #[.int .i64 v.a, .int .i64 v.b, .int .i64 v.c, .int .i64 v.d, .int .i64 0, .int .i64 0, .int .i64 0, .int .i64 0, .int .i64 0, .int .i64 0, .int .i64 0, .int .i64 0], .int .i64 (1 + p0 % 16383)] w fun e w' => e = .returned (.tuple #[.bool (decide (0 ≤ sgnS (v.norm.sub (peakS (1 + p0 % 16383))))), .int .i64 0]) ∧ Q w w' := by
    intro v hv w
    have h := ocabove_c v ⟨0, 0, 0, 0⟩ ⟨0, 0, 0, 0⟩ (1 + p0 % 16383) w hv hzero hzero hp0 hp1
    rw [one_up v hp0] at h
    exact h
  refine ocphases_core x y z p0 k0 (small3 x) (small3 y) (small3 z) T (small3 x).norm (small3 y).norm (small3 z).norm (pickS 1 ⟨0, 0⟩ (small3 x).norm) (pickS 1 (pickS 1 ⟨0, 0⟩ (small3 x).norm) (small3 y).norm) (pickS 1 (pickS 1 (pickS 1 ⟨0, 0⟩ (small3 x).norm) (small3 y).norm) (small3 z).norm)
    (p0 % 16383) (sgnS ((small3 x).norm.sub ⟨0, 0⟩)) (sgnS ((small3 y).norm.sub (pickS 1 ⟨0, 0⟩ (small3 x).norm))) (sgnS ((small3 z).norm.sub (pickS 1 (pickS 1 ⟨0, 0⟩ (small3 x).norm) (small3 y).norm))) te ae
    (decide (0 ≤ sgnS ((small3 x).norm.sub (peakS (1 + p0 % 16383))))) (decide (0 ≤ sgnS ((small3 y).norm.sub (peakS (1 + p0 % 16383))))) (decide (0 ≤ sgnS ((small3 z).norm.sub (peakS (1 + p0 % 16383))))) tb _ w
    (Lib.hid fun w => small3_c x y z w) (Lib.hid fun w => within24_any p0 16383 w (by decide) (by decide)) (by omega) (by omega) (Lib.hid (one _ hx)) (Lib.hid (one _ hy)) (Lib.hid (one _ hz))
    (Lib.hid fun w => norm_c _ w (hx.mono (by decide))) (Lib.hid fun w => norm_c _ w (hy.mono (by decide))) (Lib.hid fun w => norm_c _ w (hz.mono (by decide)))
    (Lib.hid fun w => scmp_c (small3 x).norm ⟨0, 0⟩ w g1 g0) (Lib.hid fun w => scmp_c (small3 y).norm (pickS 1 ⟨0, 0⟩ (small3 x).norm) w g2 (pickS_in g0 g1)) (Lib.hid fun w => scmp_c (small3 z).norm (pickS 1 (pickS 1 ⟨0, 0⟩ (small3 x).norm) (small3 y).norm) w g3 (pickS_in (pickS_in g0 g1) g2))
    (Lib.hid (pickS_step _ _)) (Lib.hid (pickS_step _ _)) (Lib.hid (pickS_step _ _)) (Lib.hid fun w => ?_) (Lib.hid fun w => ?_) (Lib.hid fun w => ?_) (Lib.hid fun w => ?_) TN A1 (Lib.hid fun w => ocabove_c _ _ _ _ w hx hy hz hp0 hp1) HT
  · rw [ext_top]
    exact largest_c _ _ _ w hx hy hz
  · rw [ext_top, ← ext_rot]
    exact largest_c _ _ _ w hz hx hy
  · rw [← under_all]
    exact ocunder_c _ _ _ _ w hx hy hz hp0 hp1
  · rw [← under_all, ← under_rot]
    exact ocunder_c _ _ _ _ w hz hx hy hp0 hp1
theorem ocphases_true (x y z : Cy) (p0 k0 : Int) (w : World) (_ : -9223372036854775808 ≤ p0 ∧ p0 ≤ 9223372036854775807) (_ : -9223372036854775808 ≤ k0 ∧ k0 ≤ 9223372036854775807) :
    Calls Try.prog 13 #[.agg #[.int .i64 x.a, .int .i64 x.b, .int .i64 x.c, .int .i64 x.d, .int .i64 y.a, .int .i64 y.b, .int .i64 y.c, .int .i64 y.d, .int .i64 z.a, .int .i64 z.b, .int .i64 z.c, .int .i64 z.d], .int .i64 p0, .int .i64 k0] w fun e w' => e = .returned (.bool true) ∧ Q w w' := by
  have hx := small3_in x
  have hy := small3_in y
  have hz := small3_in z
  have hp0 : 1 ≤ 1 + p0 % 16383 := by omega
  have hp1 : 1 + p0 % 16383 ≤ 16383 := by omega
  have TN := Lib.hid fun w => turn_c (small3 z) (3 * k0.tmod 4) w (hz.mono (by decide))
  cases hf : fine3 ((small3 z).turn (3 * k0.tmod 4)) (small3 x) (small3 y)
  · exact ocphases_pre x y z p0 k0 _ _ _ _ w TN (Lib.hid fun w => ocabove_no _ _ _ _ w (by rw [hf]; rfl)) (Lib.hid (.inl rfl))
  · obtain ⟨ht, _, _⟩ := fine3_in hf
    refine ocphases_pre x y z p0 k0 _ _ _ _ w TN (Lib.hid fun w => ocabove_c _ _ _ _ w ht hx hy hp0 hp1) (Lib.hid (.inr ⟨rfl, ?_⟩))
    rw [ext_turn]
end Go.Proofs.Ytkkjifgcjfbcaaa
