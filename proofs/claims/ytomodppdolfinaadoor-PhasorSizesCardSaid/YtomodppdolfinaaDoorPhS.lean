
/- What Harmonic, All and Energy of the reference of phasor return for windows in their range. -/
import Derived.Test.YtomodppdolfinaaDoorPhR
import Derived.IntWalk
namespace Go.Proofs.YtomodppdolfinaaDoor
open Go.RowKit Go.Sub

theorem hstep (x : Nat → Int) (h : Int) (k : Nat) : (sumC (hterm x h) k).a + x k * (rootC (-(h * k))).a = (sumC (hterm x h) (k + 1)).a ∧ (sumC (hterm x h) k).b + x k * (rootC (-(h * k))).b = (sumC (hterm x h) (k + 1)).b ∧
    (sumC (hterm x h) k).c + x k * (rootC (-(h * k))).c = (sumC (hterm x h) (k + 1)).c ∧ (sumC (hterm x h) k).d + x k * (rootC (-(h * k))).d = (sumC (hterm x h) (k + 1)).d := by
  rw [← Int.neg_mul]
  refine ⟨?_, ?_, ?_, ?_⟩ <;> simp only [sumC, Cy.add, hterm, Cy.scl, Int.mul_comm (x k)]
set_option maxHeartbeats 4000000 in
theorem rharm0_c (h : Int) (b o c : Nat) (x : Nat → Int) (w : World) (hw : Win w b o x) (hx : WinOK x 16383) :
    Calls Tryd.prog 47 #[.slice (some ⟨b, o, none⟩) 12 c, .int .i64 h] w fun e w' => e = .returned (.agg #[.int .i64 (harm x h).a, .int .i64 (harm x h).b, .int .i64 (harm x h).c, .int .i64 (harm x h).d]) ∧ Q w w' := by
  rw [← harm_tmod]
  have tb := tmod_bd h 12 (by decide)
  haveI := hw.old
  have HW := Lib.hid hw
  have HX := Lib.hid hx
  clear hw hx
  obtain ⟨t, ht⟩ : ∃ t, h.tmod 12 = t := ⟨_, rfl⟩
  rw [ht] at tb ⊢
  go_enter Tryd.func47, Tryd.ntmps47
  go_wp2
  go_loopw [6] (fun i wr => ∃ k : Nat, k ≤ 12 ∧ i = .int .i64 k ∧ Q ((w.alloc (.cells #[.int .i64 0, .int .i64 0, .int .i64 0, .int .i64 0] 23)).alloc (.cells #[.int .i64 (sumC (hterm x t) k).a, .int .i64 (sumC (hterm x t) k).b, .int .i64 (sumC (hterm x t) k).c, .int .i64 (sumC (hterm x t) k).d] 23)) wr) (fun i _ => 12 - (intOf i).toNat)
  case atStart => exact ⟨0, by omega, rfl, Q.refl _⟩
  case round =>
    obtain ⟨k, hk, rfl, kw, rfl⟩ := hrel
    by_cases hlt : k < 12
    · have hc := HW.out k hlt
      obtain ⟨h1, h2⟩ := HX.out k hlt
      obtain ⟨s1, s2, s3, s4⟩ := hstep x t k
      have kk : (0 : Int) ≤ (k : Int) := by omega
      have kk2 : (k : Int) < 12 := by omega
      have bm := bd_mul (n := 12) (m := 12) (a := t) (b := (k : Int)) (by omega) (by omega) (by omega) (by omega)
      have bm1 : -1000 ≤ t * (k : Int) := by omega
      have bm2 : t * (k : Int) ≤ 1000 := by omega
      clear bm
      obtain ⟨r1, r2, r3, r4, r5, r6, r7, r8⟩ := rootC_in (-(t * k))
      have p1 := bd_mul h1 h2 r1 r2
      have p2 := bd_mul h1 h2 r3 r4
      have p3 := bd_mul h1 h2 r5 r6
      have p4 := bd_mul h1 h2 r7 r8
      have hi3 := sumC_in (y := hterm x t) (l := 2 * 16383) k fun j hj => hterm_in (HX.out j (by omega)).1 (HX.out j (by omega)).2
      have hi4 := hi3.mono (show (k : Int) * (2 * 16383) ≤ 1000000 by omega)
      clear hi3
      obtain ⟨q1, q2, q3, q4, q5, q6, q7, q8⟩ := hi4
      go_wp2_with (go_at_call 13; refine (rroot_any _ _).mono ?_; rintro e w' ⟨rfl, kj, rfl⟩)
      refine wp_loop_rounds 5 ?_
      rw [rounds_succ]; go_wp2
      try simp only [List.append]
      refine wp_region_tail 13 (by kernel_rfl) (by kernel_rfl) ?_
      simp only [List.take_succ_cons, List.take_zero, List.drop_succ_cons, List.drop_zero]
      repeat (go_big_quiet_step (fail))
      refine wpQuiet_nil ?_
      intro _ hw'
      obtain ⟨kq, rfl⟩ := hw'
      go_wp2
      rw [rounds_succ]; go_wp2
      try simp only [List.append]
      refine wp_region_tail 13 (by kernel_rfl) (by kernel_rfl) ?_
      simp only [List.take_succ_cons, List.take_zero, List.drop_succ_cons, List.drop_zero]
      repeat (go_big_quiet_step (fail))
      refine wpQuiet_nil ?_
      intro _ hw'
      obtain ⟨kq, rfl⟩ := hw'
      go_wp2
      rw [rounds_succ]; go_wp2
      try simp only [List.append]
      refine wp_region_tail 13 (by kernel_rfl) (by kernel_rfl) ?_
      simp only [List.take_succ_cons, List.take_zero, List.drop_succ_cons, List.drop_zero]
      repeat (go_big_quiet_step (fail))
      refine wpQuiet_nil ?_
      intro _ hw'
      obtain ⟨kq, rfl⟩ := hw'
      go_wp2
      rw [rounds_succ]; go_wp2
      try simp only [List.append]
      refine wp_region_tail 13 (by kernel_rfl) (by kernel_rfl) ?_
      simp only [List.take_succ_cons, List.take_zero, List.drop_succ_cons, List.drop_zero]
      repeat (go_big_quiet_step (fail))
      refine wpQuiet_nil ?_
      intro _ hw'
      obtain ⟨kq, rfl⟩ := hw'
      go_wp2
      rw [rounds_succ]; go_wp2
      go_roundw
      case rel =>
        refine ⟨k + 1, by omega, by go_num, ?_⟩
        repeat' (first | exact Q.refl _ | refine Q.alloc ?_ _ | refine Q.jk ?_ _ | refine Q.drew ?_)
      case measure => simp [intOf]; omega
    · obtain rfl : k = 12 := by omega
      go_wp2
      refine bodyPost_ret (v := .agg #[.int .i64 (harm x t).a, .int .i64 (harm x t).b, .int .i64 (harm x t).c, .int .i64 (harm x t).d]) (by simp [results, Tryd.results47, go_sem, harm]) rfl ⟨rfl, ?_⟩
      repeat' (first | exact Q.refl _ | refine Q.alloc ?_ _ | refine Q.jk ?_ _ | refine Q.drew ?_)

theorem chkE_ok {x : Nat → Int} (hx : WinOK x 16383) : chkE x = 0 := chkE_good fun k hk => by
  have := hx k hk
  simp [brkB]
  omega
theorem chkE_win {x : Nat → Int} (h : chkE x = 0) : WinOK x 16383 := by
  intro k hk
  cases hb : brkB 16383 (x k)
  · simp [brkB] at hb
    omega
  · rw [chkE_bad hk hb] at h
    cases h
end Go.Proofs.YtomodppdolfinaaDoor
