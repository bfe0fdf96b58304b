
/- What Check and Back of the reference of phasor return. -/
import Derived.Test.YtomodppdolfinaaDoorPhK
import Derived.Test.YtomodppdolfinaaDoorRfW2
import Derived.Test.YtomodppdolfinaaDoorRfW3
namespace Go.Proofs.YtomodppdolfinaaDoor
open Go.RowKit Go.Sub

set_option maxHeartbeats 1000000 in
theorem rcheck_any (b o c : Nat) (x : Nat → Int) (w : World) (hw : Win w b o x) :
    Calls Tryd.prog 45 #[.slice (some ⟨b, o, none⟩) 12 c] w fun e w' => e = .returned (.int .i64 (chkE x)) ∧ w = w' := by
  go_enter Tryd.func45, Tryd.ntmps45
  go_wp2
  go_loop [3] (fun i => ∃ k : Nat, k ≤ 12 ∧ i = .int .i64 k ∧ ∀ j, j < k → brkB 16383 (x j) = false) (fun i => 12 - (intOf i).toNat)
  case atStart => exact ⟨0, by omega, rfl, fun j hj => absurd hj (Nat.not_lt_zero j)⟩
  case round =>
    obtain ⟨k, hk, rfl, hin⟩ := hrel
    have HI := Lib.hid hin
    clear hin
    by_cases hlt : k < 12
    · have hc := hw k hlt
      clear hw
      have kk : (0 : Int) ≤ (k : Int) := by omega
      have kk2 : (k : Int) < 12 := by omega
      by_cases h1 : x k < -16383
      · have E := Lib.hid (chkE_bad (x := x) hlt (by simp [brkB, h1]))
        go_wp2
        go_ret
        exact ⟨by rw [E.out]; rfl, rfl⟩
      · by_cases h2 : 16383 < x k
        · have E := Lib.hid (chkE_bad (x := x) hlt (by simp [brkB, h2]))
          go_wp2
          go_ret
          exact ⟨by rw [E.out]; rfl, rfl⟩
        · go_wp2
          go_round
          case rel =>
            refine ⟨k + 1, by omega, by go_num, fun j hj => ?_⟩
            rcases Nat.lt_or_ge j k with h | h
            · exact HI.out j h
            · obtain rfl : j = k := by omega
              simp [brkB]
              omega
          case measure => simp [intOf]; omega
    · obtain rfl : k = 12 := by omega
      have E := Lib.hid (chkE_good (x := x) HI.out)
      clear hw
      go_wp2
      go_ret
      exact ⟨by rw [E.out]; rfl, rfl⟩

theorem bkOK_iff (c : Nat → Cy) (k : Nat) : bkOK c k = true ↔ (bk c k).b = 0 ∧ (bk c k).c = 0 ∧ (bk c k).d = 0 ∧ (bk c k).a.tmod 12 = 0 := by
  unfold bkOK
  rw [Bool.and_eq_true, Cy.eqB_iff]
  constructor
  · rintro ⟨h1, h2⟩
    have e2 : (bk c k).b = 0 := congrArg Cy.b h1
    have e3 : (bk c k).c = 0 := congrArg Cy.c h1
    have e4 : (bk c k).d = 0 := congrArg Cy.d h1
    exact ⟨e2, e3, e4, by simpa using h2⟩
  · rintro ⟨h1, h2, h3, h4⟩
    exact ⟨Cy.ext' rfl h1 h2 h3, by simpa using h4⟩
theorem bkOK_yes {c : Nat → Cy} {k : Nat} (h1 : (bk c k).b = 0) (h2 : (bk c k).c = 0) (h3 : (bk c k).d = 0) (h4 : (bk c k).a.tmod 12 = 0) : bkOK c k = true := (bkOK_iff c k).2 ⟨h1, h2, h3, h4⟩
theorem bkOK_no {c : Nat → Cy} {k : Nat} (h : ¬ ((bk c k).b = 0 ∧ (bk c k).c = 0 ∧ (bk c k).d = 0 ∧ (bk c k).a.tmod 12 = 0)) : bkOK c k = false := by
  cases e : bkOK c k
  · rfl
  · exact absurd ((bkOK_iff c k).1 e) h

theorem radd_c (x y : Cy) (w : World) (hx : x.In 100000000000000000) (hy : y.In 100000000000000000) :
    Calls Tryd.prog 12 #[.agg #[.int .i64 x.a, .int .i64 x.b, .int .i64 x.c, .int .i64 x.d], .agg #[.int .i64 y.a, .int .i64 y.b, .int .i64 y.c, .int .i64 y.d]] w fun e w' => e = .returned (.tuple #[.agg #[.int .i64 (x.add y).a, .int .i64 (x.add y).b, .int .i64 (x.add y).c, .int .i64 (x.add y).d], .int .i64 0]) ∧ Q w w' := by
  have h := radd_any x.a x.b x.c x.d y.a y.b y.c y.d w
  rw [addR_ok hx hy] at h
  exact h
end Go.Proofs.YtomodppdolfinaaDoor
