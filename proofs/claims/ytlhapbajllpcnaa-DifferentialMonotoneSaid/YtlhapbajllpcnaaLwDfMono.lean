
/- DifferentialMonotone: the walk. -/
import Derived.Test.YtlhapbajllpcnaaDfL
namespace Go.Proofs.Ytlhapbajllpcnaa
open Go.RowKit Go.Sub
set_option maxRecDepth 100000 in
set_option maxHeartbeats 4000000 in
theorem dfmono_nil (A : Option Addr) (n cap : Nat) (k1 k2 k3 j : Int) (w : World) (FN : Hid (∀ w', Q w w' → Calls Try.prog 33 #[.slice A n cap] w' (RetNil w')))  :
    Calls Try.prog 11 #[.slice A n cap, .agg #[.int .i64 k1, .int .i64 k2, .int .i64 k3], .int .i64 j] w fun e w' => e = .returned (.bool true) ∧ Q w w' := by
  go_enter Try.func11, Try.ntmps11
  go_wp2_with (first | (go_at_call 32; refine (known23 _).mono ?_; rintro e w' ⟨rfl, kj, rfl⟩) | (go_at_call 33; refine (FN.out _ (by repeat' (first | exact Q.refl _ | refine Q.alloc ?_ _ | refine Q.jk ?_ _ | refine Q.drew ?_))).mono ?_; rintro e w' ⟨A', c', kf, rfl, rfl⟩))
  go_ret
  refine ⟨rfl, ?_⟩
  repeat' (first | exact Q.refl _ | refine Q.alloc ?_ _ | refine Q.jk ?_ _ | refine Q.drew ?_)
set_option maxRecDepth 100000 in
set_option maxHeartbeats 4000000 in
theorem dfmono_core (A : Option Addr) (n cap : Nat) (xs : List Cur) (k1 k2 k3 j a b d u v : Int) (p q : Bool) (w : World) (hl : 1 ≤ xs.length) (hl' : xs.length ≤ 15) (FN : Hid (∀ w', Q w w' → Calls Try.prog 33 #[.slice A n cap] w' (RetCons xs w'))) (ST : Hid (∀ w, Calls Try.prog 34 #[.agg #[.int .i64 k1, .int .i64 k2, .int .i64 k3]] w fun e w' => e = .returned (.tuple #[.int .i64 a, .int .i64 b, .int .i64 d]) ∧ Q w w')) (a0 : 1 ≤ a) (a1 : a ≤ 100000) (b0 : 0 ≤ b) (bd : b ≤ d) (d0 : 1 ≤ d) (d1 : d ≤ 100)
    (W1 : Hid (∀ w, Calls Try.prog 35 #[.int .i64 j, .int .i64 a] w fun e w' => e = .returned (.int .i64 u) ∧ w = w')) (W2 : Hid (∀ w, Calls Try.prog 35 #[.int .i64 j, .int .i64 (b + 1)] w fun e w' => e = .returned (.int .i64 v) ∧ w = w')) (_ : 0 ≤ u) (_ : u < a) (_ : 0 ≤ v) (_ : v ≤ b)
    (O1 : Hid (∀ w g o c, RdC w g o xs → Calls Try.prog 36 #[.slice (some ⟨g, o, none⟩) xs.length c, .int .i64 a, .int .i64 b, .int .i64 d] w fun e w' => e = .returned (.tuple #[.bool p, .int .i64 0]) ∧ Q w w')) (O2 : Hid (∀ w g o c, RdC w g o xs → Calls Try.prog 36 #[.slice (some ⟨g, o, none⟩) xs.length c, .int .i64 (1 + u), .int .i64 v, .int .i64 d] w fun e w' => e = .returned (.tuple #[.bool q, .int .i64 0]) ∧ Q w w')) (hpq : p = true → q = true) :
    Calls Try.prog 11 #[.slice A n cap, .agg #[.int .i64 k1, .int .i64 k2, .int .i64 k3], .int .i64 j] w fun e w' => e = .returned (.bool true) ∧ Q w w' := by
  cases p <;> cases q
  case true.false => exact absurd (hpq rfl) (by decide)
  all_goals
    clear hpq
    go_enter Try.func11, Try.ntmps11
    go_wp2_with (first | (go_at_call 32; refine (known23 _).mono ?_; rintro e w' ⟨rfl, kj, rfl⟩) | (go_at_call 33; refine (FN.out _ (by repeat' (first | exact Q.refl _ | refine Q.alloc ?_ _ | refine Q.jk ?_ _ | refine Q.drew ?_))).mono ?_; rintro e w' ⟨g, cx, kf, rfl, rfl, hgl, hxc, hcm, hrd, hrow⟩; have HX := Lib.hid hrd; have HROW := Lib.hid hrow; clear hrd hrow) | (go_at_call 34; refine (ST.out _).mono ?_; rintro e w' ⟨rfl, kj, rfl⟩) | (go_at_call 36; (with_reducible refine (O1.out _ _ _ _ (by exact HX.out.q (by repeat' (first | exact Q.refl _ | refine Q.alloc ?_ _ | refine Q.jk ?_ _ | refine Q.drew ?_)))).mono ?_); rintro e w' ⟨rfl, kj, rfl⟩) | (go_at_call 36; (with_reducible refine (O2.out _ _ _ _ (by exact HX.out.q (by repeat' (first | exact Q.refl _ | refine Q.alloc ?_ _ | refine Q.jk ?_ _ | refine Q.drew ?_)))).mono ?_); rintro e w' ⟨rfl, kj, rfl⟩) | (go_at_call 35; (with_reducible refine (W1.out _).mono ?_); rintro e w' ⟨rfl, rfl⟩) | (go_at_call 35; (with_reducible refine (W2.out _).mono ?_); rintro e w' ⟨rfl, rfl⟩))
    go_ret
    refine ⟨rfl, ?_⟩
    repeat' (first | exact Q.refl _ | refine Q.alloc ?_ _ | refine Q.jk ?_ _ | refine Q.drew ?_)
theorem dfmono_true (A : Option Addr) (n cap : Nat) (l : List Cur) (k1 k2 k3 j : Int) (w : World) (hn : l.length = n) (hA : CurArg w A l) (hm : n ≤ 9223372036854775807) (_ : -9223372036854775808 ≤ j ∧ j ≤ 9223372036854775807) :
    Calls Try.prog 11 #[.slice A n cap, .agg #[.int .i64 k1, .int .i64 k2, .int .i64 k3], .int .i64 j] w fun e w' => e = .returned (.bool true) ∧ Q w w' := by
  by_cases hx : fineL l = []
  · exact dfmono_nil A n cap k1 k2 k3 j w (Lib.hid fun w' (hq : Q w w') => fine23_nil A n cap l w' hn (fun h => by obtain ⟨g, o, e, hr⟩ := hA h; exact ⟨g, o, e, hr.q hq⟩) hm hx)
  · have hl : 1 ≤ (fineL l).length := by
      cases h : fineL l with
      | nil => exact absurd h hx
      | cons c t => simp
    have hl' := fineL_len l
    have hok := fineL_ok l
    obtain ⟨a, ha⟩ : ∃ a, 1 + k1 % 100000 = a := ⟨_, rfl⟩
    obtain ⟨d, hd⟩ : ∃ d, 1 + k3 % 100 = d := ⟨_, rfl⟩
    obtain ⟨b, hb⟩ : ∃ b, k2 % (d + 1) = b := ⟨_, rfl⟩
    have hb0 : 0 ≤ b := by rw [← hb]; exact Int.emod_nonneg _ (by omega)
    have hb1 : b < d + 1 := by rw [← hb]; exact Int.emod_lt_of_pos _ (by omega)
    have hu0 : 0 ≤ j % a := Int.emod_nonneg _ (by omega)
    have hu1 : j % a < a := Int.emod_lt_of_pos _ (by omega)
    have hv0 : 0 ≤ j % (b + 1) := Int.emod_nonneg _ (by omega)
    have hv1 : j % (b + 1) < b + 1 := Int.emod_lt_of_pos _ (by omega)
    refine dfmono_core A n cap (fineL l) k1 k2 k3 j a b d (j % a) (j % (b + 1)) (opB (fineL l) a b d) (opB (fineL l) (1 + j % a) (j % (b + 1)) d) w hl hl' (Lib.hid fun w' (hq : Q w w') => fine23_cons A n cap l w' hn (fun h => by obtain ⟨g, o, e, hr⟩ := hA h; exact ⟨g, o, e, hr.q hq⟩) hm hx)
      (Lib.hid fun w => ?_) (by omega) (by omega) hb0 (by omega) (by omega) (by omega) (Lib.hid fun w => within23_any _ _ w (by omega) (by omega)) (Lib.hid fun w => within23_any _ _ w (by omega) (by omega)) hu0 hu1 hv0 (by omega)
      (Lib.hid fun w g o c hr => doperate_c g o c _ _ _ _ w hl (by omega) hr hok (by omega) (by omega) (by omega) (by omega) (by omega) (by omega))
      (Lib.hid fun w g o c hr => doperate_c g o c _ _ _ _ w hl (by omega) hr hok (by omega) (by omega) (by omega) (by omega) (by omega) (by omega))
      (fun h => opB_mono (by omega) (by omega) (by omega) (by omega) h)
    have h := settings23_any k1 k2 k3 w
    rw [ha, hd, hb] at h
    exact h
end Go.Proofs.Ytlhapbajllpcnaa
