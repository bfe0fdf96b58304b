
/- SurdMultiplicative: the walk. -/
import Derived.Test.YtkkjifgcjfbcaaaSuN
import Derived.Test.YtkkjifgcjfbcaaaFl
import Derived.Test.YtkkjifgcjfbcaaaCmp
import Derived.IntWalk
namespace Go.Sub
theorem snormR_ok {x : Su} (hx : x.In 268435456) : snormR x = (x.norm, 0) := by
  have : wi2 268435456 x.a x.b = true := (wi2_iff _ _ _).2 (by unfold Su.In at hx; omega)
  simp [snormR, this]
theorem sconjR_ok {x : Su} (hx : x.In 1000000000000) : sconjR x = ⟨x.conj, 0⟩ := by
  have : wi2 1152921504606846976 x.a x.b = true := (wi2_iff _ _ _).2 (by unfold Su.In at hx; omega)
  simp [sconjR, this]
theorem Su.norm_mul (x y : Su) : (x.mul y).norm = x.norm * y.norm := by
  simp only [Su.norm, Su.mul]; grind
theorem Su.mul_conj (x : Su) : x.mul x.conj = ⟨x.norm, 0⟩ := by
  apply Su.ext' <;> simp only [Su.norm, Su.mul, Su.conj] <;> grind
theorem Su.conj_in {x : Su} {l : Int} (hx : x.In l) : x.conj.In l := by
  unfold Su.In Su.conj at *
  dsimp only
  omega
def modS (x : Su) : Su := ⟨x.a.tmod 1000, x.b.tmod 1000⟩
theorem modS_in (x : Su) : (modS x).In 999 := by
  have h1 := tmod_in x.a (show (0 : Int) < 1000 by decide)
  have h2 := tmod_in x.b (show (0 : Int) < 1000 by decide)
  unfold Su.In modS
  dsimp only
  omega
theorem norm_small {x : Su} {l : Int} (hx : x.In l) : -(3 * (l * l)) ≤ x.norm ∧ x.norm ≤ l * l := by
  obtain ⟨h1, h2, h3, h4⟩ := hx
  obtain ⟨⟨p1, p2⟩, p3, p4⟩ := norm_bd h1 h2 h3 h4
  unfold Su.norm
  rw [Int.mul_assoc]
  omega
end Go.Sub
namespace Go.Proofs.Ytkkjifgcjfbcaaa
open Go.RowKit Go.Sub
theorem snorm_c (x : Su) (w : World) (hx : x.In 268435456) :
    Calls Try.prog 21 #[.agg #[.int .i64 x.a, .int .i64 x.b]] w fun e w' => e = .returned (.tuple #[.int .i64 x.norm, .int .i64 0]) ∧ Q w w' := by
  have h := snorm_any x.a x.b w
  rw [show snormR ⟨x.a, x.b⟩ = _ from snormR_ok hx] at h
  exact h
theorem sconj_c (x : Su) (w : World) (hx : x.In 1000000000000) :
    Calls Try.prog 26 #[.agg #[.int .i64 x.a, .int .i64 x.b]] w fun e w' => e = .returned (.tuple #[.agg #[.int .i64 x.conj.a, .int .i64 x.conj.b], .int .i64 0]) ∧ Q w w' := by
  have h := sconj_any x.a x.b w
  rw [show sconjR ⟨x.a, x.b⟩ = _ from sconjR_ok hx] at h
  exact h
theorem sign_c (x : Su) (w : World) (hx : x.In 1000000000000) :
    Calls Try.prog 17 #[.agg #[.int .i64 x.a, .int .i64 x.b]] w fun e w' => e = .returned (.int .i64 (sgnS x)) ∧ Q w w' := by
  obtain ⟨h1, h2, h3, h4⟩ := hx
  exact sgnS_any x.a x.b w (by omega) (by omega) (by omega) (by omega)
set_option maxHeartbeats 2000000 in
theorem mult_core (x y X Y : Su) (w : World) (HX : Hid (smallS x = X)) (HY : Hid (smallS y = Y)) :
    Calls Try.prog 6 #[.agg #[.int .i64 x.a, .int .i64 x.b], .agg #[.int .i64 y.a, .int .i64 y.b]] w fun e w' => e = .returned (.bool true) ∧ Q w w' := by
  have sx : ∀ w, Calls Try.prog 23 #[.agg #[.int .i64 x.a, .int .i64 x.b]] w fun e w' => e = .returned (.agg #[.int .i64 X.a, .int .i64 X.b]) ∧ Q w w' := fun w => by rw [← HX.out]; exact lsmall_any x w
  have Sx := Lib.hid sx
  clear sx
  have sy : ∀ w, Calls Try.prog 23 #[.agg #[.int .i64 y.a, .int .i64 y.b]] w fun e w' => e = .returned (.agg #[.int .i64 Y.a, .int .i64 Y.b]) ∧ Q w w' := fun w => by rw [← HY.out]; exact lsmall_any y w
  have Sy := Lib.hid sy
  clear sy
  clear HX HY
  obtain ⟨U, hU, hUi⟩ : ∃ U, modS X = U ∧ U.In 999 := ⟨_, rfl, modS_in X⟩
  obtain ⟨V, hV, hVi⟩ : ∃ U, modS Y = U ∧ U.In 999 := ⟨_, rfl, modS_in Y⟩
  have EU : Hid (X.a.tmod 1000 = U.a ∧ X.b.tmod 1000 = U.b) := Lib.hid ⟨congrArg Su.a hU, congrArg Su.b hU⟩
  have EV : Hid (Y.a.tmod 1000 = V.a ∧ Y.b.tmod 1000 = V.b) := Lib.hid ⟨congrArg Su.a hV, congrArg Su.b hV⟩
  clear hU hV
  have hP := (su_mul_in hUi hVi).mono (show (4 * (999 * 999) : Int) ≤ 4000000 by decide)
  have hC := Su.conj_in hUi
  obtain ⟨u1, u2⟩ := norm_small hUi
  obtain ⟨v1, v2⟩ := norm_small hVi
  have hn := bd_mul (n := 3000000) (m := 3000000) (show -3000000 ≤ U.norm by omega) (by omega) (show -3000000 ≤ V.norm by omega) (by omega)
  obtain ⟨n1, n2⟩ := hn
  obtain ⟨p1, p2⟩ := bd_mul (n := 1) (m := 1) (a := sgnS U) (b := sgnS V) (by have := sgnS_range U; omega) (by have := sgnS_range U; omega) (by have := sgnS_range V; omega) (by have := sgnS_range V; omega)
  have c1 := Su.norm_mul U V
  have c2 := Su.mul_conj U
  have c3 := sgnS_mul U V
  have C1 := Lib.hid c1
  have C2 := Lib.hid c2
  have C3 := Lib.hid c3
  clear c1 c2 c3
  have sP : ∀ w, Calls Try.prog 17 #[.agg #[.int .i64 (U.mul V).a, .int .i64 (U.mul V).b]] w fun e w' => e = .returned (.int .i64 (sgnS U * sgnS V)) ∧ Q w w' := fun w => by rw [← C3.out]; exact sign_c _ w (Su.In.mono (by with_reducible assumption) (by decide))
  have sU := fun w => sign_c U w (Su.In.mono (by with_reducible assumption) (by decide))
  have sV := fun w => sign_c V w (Su.In.mono (by with_reducible assumption) (by decide))
  have SP := Lib.hid sP
  have SU := Lib.hid sU
  have SV := Lib.hid sV
  clear sP sU sV
  go_enter Try.func6, Try.ntmps6
  go_wp2_with (go_at_call 16; refine (known02 _).mono ?_; rintro e w' ⟨rfl, kj, rfl⟩)
  try simp only [List.append]
  refine wp_region_tail 4 (by kernel_rfl) (by kernel_rfl) ?_
  simp only [List.take_succ_cons, List.take_zero, List.drop_succ_cons, List.drop_zero]
  repeat (go_big_quiet_step ((go_at_call 23; first | with_reducible exact Calls.jk_of (Sx.out _) | with_reducible exact Calls.jk_of (Sy.out _))))
  refine wpQuiet_nil ?_
  intro _ hw'
  obtain ⟨kq, rfl⟩ := hw'
  go_upto_region 6 with (fail)
  rw [EU.out.1, EU.out.2, EV.out.1, EV.out.2]
  go_wp2_with (first | (go_at_call 19; refine (smul_c _ _ _ (Su.In.mono (by with_reducible assumption) (by decide)) (Su.In.mono (by with_reducible assumption) (by decide))).mono ?_; rintro e w' ⟨rfl, kj, rfl⟩) | (go_at_call 21; refine (snorm_c _ _ (Su.In.mono (by with_reducible assumption) (by decide))).mono ?_; rintro e w' ⟨rfl, kj, rfl⟩; try rw [C1.out]) | (go_at_call 26; refine (sconj_c _ _ (Su.In.mono (by with_reducible assumption) (by decide))).mono ?_; rintro e w' ⟨rfl, kj, rfl⟩))
  try rw [C2.out]
  have E1 : IntKind.i64.wrap (sgnS U * sgnS V) = sgnS U * sgnS V := IntWalk.i64_in _ (by omega)
  have E2 : IntKind.i64.wrap (U.norm * V.norm) = U.norm * V.norm := IntWalk.i64_in _ (by omega)
  refine wp_region_jk (by kernel_rfl) (by kernel_rfl) ?_
  repeat (go_big_quiet_step ((first | (go_at_call 17; with_reducible exact Calls.jk_of (SP.out _)) | (go_at_call 17; with_reducible exact Calls.jk_of (SU.out _)) | (go_at_call 17; with_reducible exact Calls.jk_of (SV.out _)))))
  refine wpQuiet_nil ?_
  intro _ hw'
  obtain ⟨kq, rfl⟩ := hw'
  clear E1 E2
  go_wp2
  go_ret
  refine ⟨rfl, ?_⟩
  repeat' (first | exact Q.refl _ | refine Q.alloc ?_ _ | refine Q.jk ?_ _ | refine Q.drew ?_)
theorem mult_true (x y : Su) (w : World) (_ : (-9223372036854775808 ≤ x.a ∧ x.a ≤ 9223372036854775807) ∧ (-9223372036854775808 ≤ x.b ∧ x.b ≤ 9223372036854775807)) (_ : (-9223372036854775808 ≤ y.a ∧ y.a ≤ 9223372036854775807) ∧ (-9223372036854775808 ≤ y.b ∧ y.b ≤ 9223372036854775807)) :
    Calls Try.prog 6 #[.agg #[.int .i64 x.a, .int .i64 x.b], .agg #[.int .i64 y.a, .int .i64 y.b]] w fun e w' => e = .returned (.bool true) ∧ Q w w' :=
  mult_core x y _ _ w (Lib.hid rfl) (Lib.hid rfl)
end Go.Proofs.Ytkkjifgcjfbcaaa
