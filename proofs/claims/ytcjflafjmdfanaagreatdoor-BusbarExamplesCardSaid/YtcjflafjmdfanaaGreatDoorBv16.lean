
/- What sides of a view returns. -/
import Derived.Test.YtcjflafjmdfanaaGreatDoorBv15
set_option maxHeartbeats 64000000
set_option maxRecDepth 100000
set_option linter.unusedSimpArgs false
set_option linter.unusedVariables false
namespace Go.Sub
open Go
structure BayOK (s : Sta) (p : Pos) (k : Nat) (y : Byr) : Prop where
 kd : y.kd = 1 ∨ y.kd = 2 ∨ y.kd = 3
 ln : (s.lks k).length = 1 ∨ (s.lks k).length = 2
 l3 : y.kd = 3 → (s.lks k).length = 2
 bus : ∀ l ∈ s.lks k, 0 ≤ l.bus ∧ l.bus < (s.buses.length : Int)
 row : ∃ r, p.rows[k]? = some r ∧ r.l.length = (s.lks k).length
def busN (gl : List Int) (l : Lk) : Int := gl.getD l.bus.toNat 0
def sdA (s : Sta) (p : Pos) (gl : List Int) (k : Nat) : Int × Int :=
 match s.lks k with
 | [] => (0, 0)
 | l0 :: rest => if clB p k 0 = true then (1, busN gl l0) else match rest with | [] => (0, 0) | l1 :: _ => if clB p k 1 = true then (1, busN gl l1) else (0, 0)
def sdZ (s : Sta) (p : Pos) (gl : List Int) (k : Nat) : Int × Int × Int × Int :=
 match s.bays[k]?, s.lks k with
 | some y, l0 :: rest => if y.kd = 3 then (1, busN gl l0, 1, busN gl (rest.headD l0)) else ((sdA s p gl k).1, (sdA s p gl k).2, if y.kd = 1 then 2 else 3, y.of)
 | _, _ => (0, 0, 0, 0)
end Go.Sub
namespace Go.Proofs.YtcjflafjmdfanaaGreatDoor
open Go.RowKit Go.Sub
attribute [local go_sem ↓] Go.wp_at_zero Go.wp_at_succ
theorem vsides_c (s : Sta) (p : Pos) (G : Option Addr) (nG cG : Nat) (gl : List Int) (k : Nat) (y : Byr) (w : World) (hs : StAt w s) (hp : PosAt w p) (hg : RdN w G nG cG .i64 gl) (hn : nG = s.buses.length) (hy : s.bays[k]? = some y) (hok : BayOK s p k y) :
  Calls Tryz.prog 74 #[.agg #[Value.string s.nm, Value.slice s.aB s.buses.length s.cB, Value.slice s.aL s.lines.length s.cL, Value.slice s.aS s.srcs.length s.cS, Value.slice s.aY s.bays.length s.cY, Value.slice p.aC p.closed.length p.cC, Value.slice p.aK p.rows.length p.cK, Value.slice G nG cG], .int .i64 k] w fun e w' => e = .returned (.agg #[.int .i64 (sdZ s p gl k).1, .int .i64 (sdZ s p gl k).2.1, .int .i64 (sdZ s p gl k).2.2.1, .int .i64 (sdZ s p gl k).2.2.2]) ∧ Q w w' := by
 have GR : Hid (∀ (w' : World) (b : Nat), Q w w' → b < nG → Calls Tryz.prog 108 #[.agg #[Value.string s.nm, Value.slice s.aB s.buses.length s.cB, Value.slice s.aL s.lines.length s.cL, Value.slice s.aS s.srcs.length s.cS, Value.slice s.aY s.bays.length s.cY, Value.slice p.aC p.closed.length p.cC, Value.slice p.aK p.rows.length p.cK, Value.slice G nG cG], .int .i64 b] w' fun e w'' => e = .returned (.agg #[.int .i64 1, .int .i64 (gl.getD b 0)]) ∧ Q w' w'') := hh fun w' b hq hb => vgroup_c s p G nG cG gl b w' (hg.q hq) hb
 obtain ⟨r, hr, hrl⟩ := hok.row
 have CL : Hid (∀ (w' : World) (j : Nat), Q w w' → j < (s.lks k).length → Calls Tryz.prog 107 #[.agg #[Value.string s.nm, Value.slice s.aB s.buses.length s.cB, Value.slice s.aL s.lines.length s.cL, Value.slice s.aS s.srcs.length s.cS, Value.slice s.aY s.bays.length s.cY, Value.slice p.aC p.closed.length p.cC, Value.slice p.aK p.rows.length p.cK, Value.slice G nG cG], .int .i64 k, .int .i64 j] w' fun e w'' => e = .returned (.bool (clB p k j)) ∧ Q w' w'') := hh fun w' j hq hj => vclosed_c s p G nG cG k j r w' (hp.q hq) hr (by omega)
 have hlt := (List.getElem?_eq_some_iff.1 hy).1
 obtain ⟨g, o, eA, og, hc⟩ := hs.bayAt hy
 obtain ⟨q0, q1, q2, q3, q4, q5, q6, q7, q8, q9, q10, q11⟩ := by12 hc
 have hlk := (hs.lk k y hy).1
 have hln := hlk.2
 obtain ⟨g2, o2, eL, og2, hc2⟩ := hlk.at_ (by rcases hok.ln with h | h <;> omega)
 rw [eL] at q6
 have hlY := hs.lY
 obtain ⟨nY, eY⟩ : ∃ n, s.bays.length = n := ⟨_, rfl⟩
 rw [eY] at hlt hlY GR CL ⊢
 rw [eA] at GR CL ⊢
 have k0 : (0 : Int) ≤ (k : Int) := by omega
 have k1 : (k : Int) < (nY : Int) := by omega
 have k0' : ¬ (k : Int) < 0 := by omega
 have k1' : ¬ (nY : Int) ≤ (k : Int) := by omega
 have hbus := hok.bus
 have hkd := hok.kd
 have hlen := hok.ln
 have hl3 := hok.l3
 have SD : sdZ s p gl k = match s.lks k with
   | l0 :: rest => if y.kd = 3 then (1, busN gl l0, 1, busN gl (rest.headD l0)) else ((sdA s p gl k).1, (sdA s p gl k).2, if y.kd = 1 then 2 else 3, y.of)
   | [] => (0, 0, 0, 0) := by unfold sdZ; rw [hy]; cases s.lks k <;> rfl
 have SA : sdA s p gl k = match s.lks k with
   | [] => (0, 0)
   | l0 :: rest => if clB p k 0 = true then (1, busN gl l0) else match rest with | [] => (0, 0) | l1 :: _ => if clB p k 1 = true then (1, busN gl l1) else (0, 0) := rfl
 have EN := hh hn
 clear hs hp hg hok hlk hrl hr hy
 generalize s.lks k = lk at SD SA CL hbus hc2 hln hlen hl3
 generalize hlny : y.ln = ln at *
 have HSD := hh SD
 have HSA := hh SA
 clear SD SA hc eA eL
 have hcs : (∃ l0, lk = [l0]) ∨ (∃ l0 l1, lk = [l0, l1]) := by
  match lk, hlen with
  | [l0], _ => exact .inl ⟨l0, rfl⟩
  | [l0, l1], _ => exact .inr ⟨l0, l1, rfl⟩
  | [], h => exact absurd h (by decide)
  | _ :: _ :: _ :: _, h => simp at h
 rcases hcs with ⟨l0, rfl⟩ | ⟨l0, l1, rfl⟩
 ·have hk3 : y.kd ≠ 3 := fun e => absurd (hl3 e) (by simp)
  obtain ⟨a1, a2⟩ := hc2.o 0 l0 rfl
  rw [Nat.zero_mul, Nat.add_zero] at a1 a2
  obtain ⟨hb1, hb2⟩ := hbus l0 (by simp)
  obtain ⟨bus0, pos0⟩ := l0
  dsimp only at a1 a2 hb1 hb2
  obtain ⟨b0, rfl⟩ := Int.eq_ofNat_of_zero_le hb1
  have hB0 : b0 < nG := by omega
  clear hn
  have C0 : Hid (∀ w', Q w w' → Calls Tryz.prog 107 #[.agg #[Value.string s.nm, Value.slice s.aB s.buses.length s.cB, Value.slice s.aL s.lines.length s.cL, Value.slice s.aS s.srcs.length s.cS, Value.slice (some ⟨g, o, none⟩) nY s.cY, Value.slice p.aC p.closed.length p.cC, Value.slice p.aK p.rows.length p.cK, Value.slice G nG cG], .int .i64 k, .int .i64 0] w' fun e w'' => e = .returned (.bool (clB p k 0)) ∧ Q w' w'') := hh fun w' hq => CL.o w' 0 hq (by simp)
  have G0 := hh fun w' hq => GR.o w' b0 hq hB0
  have SA1 : Hid (sdA s p gl k = if clB p k 0 = true then (1, gl.getD b0 0) else (0, 0)) := hh (by rw [HSA.o]; rfl)
  have SD1 : Hid (sdZ s p gl k = ((sdA s p gl k).1, (sdA s p gl k).2, if y.kd = 1 then 2 else 3, y.of)) := hh (by rw [HSD.o]; exact if_neg hk3)
  have hln1 : ln = 1 := by simpa using hln.symm
  subst hln1
  have e3 : (y.kd == 3) = false := by simpa using hk3
  clear HSA HSD CL GR hbus hc2 hln hlen hl3 hlny hb1 hb2
  generalize clB p k 0 = p0 at C0 SA1
  by_cases hk1 : y.kd = 1
  ·have e1 : (y.kd == 1) = true := by simpa using hk1
   cases p0 with
   | false =>
    have EV : Hid (sdZ s p gl k = (0, 0, 2, y.of)) := hh (by rw [SD1.o, SA1.o, if_neg (by decide), if_pos hk1])
    go_enter Tryz.func74, Tryz.ntmps74
    go_wp2_with fail
    refine wp_loop_rounds 3 ?_
    rw [rounds_succ]
    go_wp2_with (first | (go_at_call 107; (with_reducible refine (C0.o _ Q.i).q ?_); intro kc) | (go_at_call 107; (with_reducible refine (C1.o _ Q.i).q ?_); intro kc1) | (go_at_call 108; (with_reducible refine (G0.o _ Q.i).q ?_); intro kg) | (go_at_call 108; (with_reducible refine (G1.o _ Q.i).q ?_); intro kg) | fail)
    rw [rounds_succ]
    go_wp2_with (first | (go_at_call 107; (with_reducible refine (C0.o _ Q.i).q ?_); intro kc) | (go_at_call 107; (with_reducible refine (C1.o _ Q.i).q ?_); intro kc1) | (go_at_call 108; (with_reducible refine (G0.o _ Q.i).q ?_); intro kg) | (go_at_call 108; (with_reducible refine (G1.o _ Q.i).q ?_); intro kg) | fail)
    refine bodyPost_ret (v := .agg #[.int .i64 0, .int .i64 (0), .int .i64 2, .int .i64 y.of]) (by simp [results, Tryz.results74, go_sem]) rfl ⟨by rw [EV.o], ?_⟩
    exact Q.i
   | true =>
    have EV : Hid (sdZ s p gl k = (1, gl.getD b0 0, 2, y.of)) := hh (by rw [SD1.o, SA1.o, if_pos rfl, if_pos hk1])
    go_enter Tryz.func74, Tryz.ntmps74
    go_wp2_with fail
    refine wp_loop_rounds 3 ?_
    rw [rounds_succ]
    go_wp2_with (first | (go_at_call 107; (with_reducible refine (C0.o _ Q.i).q ?_); intro kc) | (go_at_call 107; (with_reducible refine (C1.o _ Q.i).q ?_); intro kc1) | (go_at_call 108; (with_reducible refine (G0.o _ Q.i).q ?_); intro kg) | (go_at_call 108; (with_reducible refine (G1.o _ Q.i).q ?_); intro kg) | fail)
    refine bodyPost_ret (v := .agg #[.int .i64 1, .int .i64 (gl.getD b0 0), .int .i64 2, .int .i64 y.of]) (by simp [results, Tryz.results74, go_sem]) rfl ⟨by rw [EV.o], ?_⟩
    exact Q.i
  have e1 : (y.kd == 1) = false := by simpa using hk1
  cases p0 with
  | false =>
   have EV : Hid (sdZ s p gl k = (0, 0, 3, y.of)) := hh (by rw [SD1.o, SA1.o, if_neg (by decide), if_neg hk1])
   go_enter Tryz.func74, Tryz.ntmps74
   go_wp2_with fail
   refine wp_loop_rounds 3 ?_
   rw [rounds_succ]
   go_wp2_with (first | (go_at_call 107; (with_reducible refine (C0.o _ Q.i).q ?_); intro kc) | (go_at_call 107; (with_reducible refine (C1.o _ Q.i).q ?_); intro kc1) | (go_at_call 108; (with_reducible refine (G0.o _ Q.i).q ?_); intro kg) | (go_at_call 108; (with_reducible refine (G1.o _ Q.i).q ?_); intro kg) | fail)
   rw [rounds_succ]
   go_wp2_with (first | (go_at_call 107; (with_reducible refine (C0.o _ Q.i).q ?_); intro kc) | (go_at_call 107; (with_reducible refine (C1.o _ Q.i).q ?_); intro kc1) | (go_at_call 108; (with_reducible refine (G0.o _ Q.i).q ?_); intro kg) | (go_at_call 108; (with_reducible refine (G1.o _ Q.i).q ?_); intro kg) | fail)
   refine bodyPost_ret (v := .agg #[.int .i64 0, .int .i64 (0), .int .i64 3, .int .i64 y.of]) (by simp [results, Tryz.results74, go_sem]) rfl ⟨by rw [EV.o], ?_⟩
   exact Q.i
  | true =>
   have EV : Hid (sdZ s p gl k = (1, gl.getD b0 0, 3, y.of)) := hh (by rw [SD1.o, SA1.o, if_pos rfl, if_neg hk1])
   go_enter Tryz.func74, Tryz.ntmps74
   go_wp2_with fail
   refine wp_loop_rounds 3 ?_
   rw [rounds_succ]
   go_wp2_with (first | (go_at_call 107; (with_reducible refine (C0.o _ Q.i).q ?_); intro kc) | (go_at_call 107; (with_reducible refine (C1.o _ Q.i).q ?_); intro kc1) | (go_at_call 108; (with_reducible refine (G0.o _ Q.i).q ?_); intro kg) | (go_at_call 108; (with_reducible refine (G1.o _ Q.i).q ?_); intro kg) | fail)
   refine bodyPost_ret (v := .agg #[.int .i64 1, .int .i64 (gl.getD b0 0), .int .i64 3, .int .i64 y.of]) (by simp [results, Tryz.results74, go_sem]) rfl ⟨by rw [EV.o], ?_⟩
   exact Q.i
 obtain ⟨a1, a2⟩ := hc2.o 0 l0 rfl
 obtain ⟨d1, d2⟩ := hc2.o 1 l1 rfl
 rw [Nat.zero_mul, Nat.add_zero] at a1 a2
 rw [Nat.one_mul] at d1 d2
 obtain ⟨hb1, hb2⟩ := hbus l0 (by simp)
 obtain ⟨hb3, hb4⟩ := hbus l1 (by simp)
 obtain ⟨bus0, pos0⟩ := l0
 obtain ⟨bus1, pos1⟩ := l1
 dsimp only at a1 a2 d1 d2 hb1 hb2 hb3 hb4
 obtain ⟨b0, rfl⟩ := Int.eq_ofNat_of_zero_le hb1
 obtain ⟨b1, rfl⟩ := Int.eq_ofNat_of_zero_le hb3
 have hB0 : b0 < nG := by omega
 have hB1 : b1 < nG := by omega
 clear hn
 have C0 : Hid (∀ w', Q w w' → Calls Tryz.prog 107 #[.agg #[Value.string s.nm, Value.slice s.aB s.buses.length s.cB, Value.slice s.aL s.lines.length s.cL, Value.slice s.aS s.srcs.length s.cS, Value.slice (some ⟨g, o, none⟩) nY s.cY, Value.slice p.aC p.closed.length p.cC, Value.slice p.aK p.rows.length p.cK, Value.slice G nG cG], .int .i64 k, .int .i64 0] w' fun e w'' => e = .returned (.bool (clB p k 0)) ∧ Q w' w'') := hh fun w' hq => CL.o w' 0 hq (by simp)
 have C1 : Hid (∀ w', Q w w' → Calls Tryz.prog 107 #[.agg #[Value.string s.nm, Value.slice s.aB s.buses.length s.cB, Value.slice s.aL s.lines.length s.cL, Value.slice s.aS s.srcs.length s.cS, Value.slice (some ⟨g, o, none⟩) nY s.cY, Value.slice p.aC p.closed.length p.cC, Value.slice p.aK p.rows.length p.cK, Value.slice G nG cG], .int .i64 k, .int .i64 1] w' fun e w'' => e = .returned (.bool (clB p k 1)) ∧ Q w' w'') := hh fun w' hq => CL.o w' 1 hq (by simp)
 have G0 := hh fun w' hq => GR.o w' b0 hq hB0
 have G1 := hh fun w' hq => GR.o w' b1 hq hB1
 have hln1 : ln = 2 := by simpa using hln.symm
 subst hln1
 by_cases hk3 : y.kd = 3
 ·have SD1 : Hid (sdZ s p gl k = (1, gl.getD b0 0, 1, gl.getD b1 0)) := hh (by rw [HSD.o]; exact if_pos hk3)
  have e3 : (y.kd == 3) = true := by simpa using hk3
  clear HSA HSD CL GR hbus hc2 hln hlen hl3 hlny hb1 hb2 hb3 hb4
  go_enter Tryz.func74, Tryz.ntmps74
  go_wp2_with fail
  refine wp_region_tail 15 (by kernel_rfl) (by kernel_rfl) ?_
  simp only [List.take_succ_cons, List.take_zero, List.drop_succ_cons, List.drop_zero]
  repeat (go_big_quiet_step (first | (go_at_call 108; (with_reducible show Calls _ _ #[_, Value.int .i64 (b0 : Int)] _ _); exact Calls.jk_of (G0.o _ Q.i)) | (go_at_call 108; exact Calls.jk_of (G1.o _ Q.i))))
  refine wq0 fun kq => ?_
  go_wp2_with fail
  refine bodyPost_ret (v := .agg #[.int .i64 1, .int .i64 (gl.getD b0 0), .int .i64 1, .int .i64 (gl.getD b1 0)]) (by simp [results, Tryz.results74, go_sem]) rfl ⟨by rw [SD1.o], ?_⟩
  exact Q.i
 have SA1 : Hid (sdA s p gl k = if clB p k 0 = true then (1, gl.getD b0 0) else if clB p k 1 = true then (1, gl.getD b1 0) else (0, 0)) := hh (by rw [HSA.o]; rfl)
 have SD1 : Hid (sdZ s p gl k = ((sdA s p gl k).1, (sdA s p gl k).2, if y.kd = 1 then 2 else 3, y.of)) := hh (by rw [HSD.o]; exact if_neg hk3)
 have e3 : (y.kd == 3) = false := by simpa using hk3
 clear HSA HSD CL GR hbus hc2 hln hlen hl3 hlny hb1 hb2 hb3 hb4
 generalize clB p k 0 = p0 at C0 SA1
 generalize clB p k 1 = p1 at C1 SA1
 by_cases hk1 : y.kd = 1
 ·have e1 : (y.kd == 1) = true := by simpa using hk1
  cases p0 with
  | true =>
   have EV : Hid (sdZ s p gl k = (1, gl.getD b0 0, 2, y.of)) := hh (by rw [SD1.o, SA1.o, if_pos rfl, if_pos hk1])
   go_enter Tryz.func74, Tryz.ntmps74
   go_wp2_with fail
   refine wp_loop_rounds 3 ?_
   rw [rounds_succ]
   go_wp2_with (first | (go_at_call 107; (with_reducible refine (C0.o _ Q.i).q ?_); intro kc) | (go_at_call 107; (with_reducible refine (C1.o _ Q.i).q ?_); intro kc1) | (go_at_call 108; (with_reducible refine (G0.o _ Q.i).q ?_); intro kg) | (go_at_call 108; (with_reducible refine (G1.o _ Q.i).q ?_); intro kg) | fail)
   refine bodyPost_ret (v := .agg #[.int .i64 1, .int .i64 (gl.getD b0 0), .int .i64 2, .int .i64 y.of]) (by simp [results, Tryz.results74, go_sem]) rfl ⟨by rw [EV.o], ?_⟩
   exact Q.i
  | false =>
   cases p1 with
   | true =>
    have EV : Hid (sdZ s p gl k = (1, gl.getD b1 0, 2, y.of)) := hh (by rw [SD1.o, SA1.o, if_neg (by decide), if_pos rfl, if_pos hk1])
    go_enter Tryz.func74, Tryz.ntmps74
    go_wp2_with fail
    refine wp_loop_rounds 3 ?_
    rw [rounds_succ]
    go_wp2_with (first | (go_at_call 107; (with_reducible refine (C0.o _ Q.i).q ?_); intro kc) | (go_at_call 107; (with_reducible refine (C1.o _ Q.i).q ?_); intro kc1) | (go_at_call 108; (with_reducible refine (G0.o _ Q.i).q ?_); intro kg) | (go_at_call 108; (with_reducible refine (G1.o _ Q.i).q ?_); intro kg) | fail)
    rw [rounds_succ]
    go_wp2_with (first | (go_at_call 107; (with_reducible refine (C0.o _ Q.i).q ?_); intro kc) | (go_at_call 107; (with_reducible refine (C1.o _ Q.i).q ?_); intro kc1) | (go_at_call 108; (with_reducible refine (G0.o _ Q.i).q ?_); intro kg) | (go_at_call 108; (with_reducible refine (G1.o _ Q.i).q ?_); intro kg) | fail)
    refine bodyPost_ret (v := .agg #[.int .i64 1, .int .i64 (gl.getD b1 0), .int .i64 2, .int .i64 y.of]) (by simp [results, Tryz.results74, go_sem]) rfl ⟨by rw [EV.o], ?_⟩
    exact Q.i
   | false =>
    have EV : Hid (sdZ s p gl k = (0, 0, 2, y.of)) := hh (by rw [SD1.o, SA1.o, if_neg (by decide), if_neg (by decide), if_pos hk1])
    go_enter Tryz.func74, Tryz.ntmps74
    go_wp2_with fail
    refine wp_loop_rounds 3 ?_
    rw [rounds_succ]
    go_wp2_with (first | (go_at_call 107; (with_reducible refine (C0.o _ Q.i).q ?_); intro kc) | (go_at_call 107; (with_reducible refine (C1.o _ Q.i).q ?_); intro kc1) | (go_at_call 108; (with_reducible refine (G0.o _ Q.i).q ?_); intro kg) | (go_at_call 108; (with_reducible refine (G1.o _ Q.i).q ?_); intro kg) | fail)
    rw [rounds_succ]
    go_wp2_with (first | (go_at_call 107; (with_reducible refine (C0.o _ Q.i).q ?_); intro kc) | (go_at_call 107; (with_reducible refine (C1.o _ Q.i).q ?_); intro kc1) | (go_at_call 108; (with_reducible refine (G0.o _ Q.i).q ?_); intro kg) | (go_at_call 108; (with_reducible refine (G1.o _ Q.i).q ?_); intro kg) | fail)
    rw [rounds_succ]
    go_wp2_with (first | (go_at_call 107; (with_reducible refine (C0.o _ Q.i).q ?_); intro kc) | (go_at_call 107; (with_reducible refine (C1.o _ Q.i).q ?_); intro kc1) | (go_at_call 108; (with_reducible refine (G0.o _ Q.i).q ?_); intro kg) | (go_at_call 108; (with_reducible refine (G1.o _ Q.i).q ?_); intro kg) | fail)
    refine bodyPost_ret (v := .agg #[.int .i64 0, .int .i64 (0), .int .i64 2, .int .i64 y.of]) (by simp [results, Tryz.results74, go_sem]) rfl ⟨by rw [EV.o], ?_⟩
    exact Q.i
 have e1 : (y.kd == 1) = false := by simpa using hk1
 cases p0 with
 | true =>
  have EV : Hid (sdZ s p gl k = (1, gl.getD b0 0, 3, y.of)) := hh (by rw [SD1.o, SA1.o, if_pos rfl, if_neg hk1])
  go_enter Tryz.func74, Tryz.ntmps74
  go_wp2_with fail
  refine wp_loop_rounds 3 ?_
  rw [rounds_succ]
  go_wp2_with (first | (go_at_call 107; (with_reducible refine (C0.o _ Q.i).q ?_); intro kc) | (go_at_call 107; (with_reducible refine (C1.o _ Q.i).q ?_); intro kc1) | (go_at_call 108; (with_reducible refine (G0.o _ Q.i).q ?_); intro kg) | (go_at_call 108; (with_reducible refine (G1.o _ Q.i).q ?_); intro kg) | fail)
  refine bodyPost_ret (v := .agg #[.int .i64 1, .int .i64 (gl.getD b0 0), .int .i64 3, .int .i64 y.of]) (by simp [results, Tryz.results74, go_sem]) rfl ⟨by rw [EV.o], ?_⟩
  exact Q.i
 | false =>
  cases p1 with
  | true =>
   have EV : Hid (sdZ s p gl k = (1, gl.getD b1 0, 3, y.of)) := hh (by rw [SD1.o, SA1.o, if_neg (by decide), if_pos rfl, if_neg hk1])
   go_enter Tryz.func74, Tryz.ntmps74
   go_wp2_with fail
   refine wp_loop_rounds 3 ?_
   rw [rounds_succ]
   go_wp2_with (first | (go_at_call 107; (with_reducible refine (C0.o _ Q.i).q ?_); intro kc) | (go_at_call 107; (with_reducible refine (C1.o _ Q.i).q ?_); intro kc1) | (go_at_call 108; (with_reducible refine (G0.o _ Q.i).q ?_); intro kg) | (go_at_call 108; (with_reducible refine (G1.o _ Q.i).q ?_); intro kg) | fail)
   rw [rounds_succ]
   go_wp2_with (first | (go_at_call 107; (with_reducible refine (C0.o _ Q.i).q ?_); intro kc) | (go_at_call 107; (with_reducible refine (C1.o _ Q.i).q ?_); intro kc1) | (go_at_call 108; (with_reducible refine (G0.o _ Q.i).q ?_); intro kg) | (go_at_call 108; (with_reducible refine (G1.o _ Q.i).q ?_); intro kg) | fail)
   refine bodyPost_ret (v := .agg #[.int .i64 1, .int .i64 (gl.getD b1 0), .int .i64 3, .int .i64 y.of]) (by simp [results, Tryz.results74, go_sem]) rfl ⟨by rw [EV.o], ?_⟩
   exact Q.i
  | false =>
   have EV : Hid (sdZ s p gl k = (0, 0, 3, y.of)) := hh (by rw [SD1.o, SA1.o, if_neg (by decide), if_neg (by decide), if_neg hk1])
   go_enter Tryz.func74, Tryz.ntmps74
   go_wp2_with fail
   refine wp_loop_rounds 3 ?_
   rw [rounds_succ]
   go_wp2_with (first | (go_at_call 107; (with_reducible refine (C0.o _ Q.i).q ?_); intro kc) | (go_at_call 107; (with_reducible refine (C1.o _ Q.i).q ?_); intro kc1) | (go_at_call 108; (with_reducible refine (G0.o _ Q.i).q ?_); intro kg) | (go_at_call 108; (with_reducible refine (G1.o _ Q.i).q ?_); intro kg) | fail)
   rw [rounds_succ]
   go_wp2_with (first | (go_at_call 107; (with_reducible refine (C0.o _ Q.i).q ?_); intro kc) | (go_at_call 107; (with_reducible refine (C1.o _ Q.i).q ?_); intro kc1) | (go_at_call 108; (with_reducible refine (G0.o _ Q.i).q ?_); intro kg) | (go_at_call 108; (with_reducible refine (G1.o _ Q.i).q ?_); intro kg) | fail)
   rw [rounds_succ]
   go_wp2_with (first | (go_at_call 107; (with_reducible refine (C0.o _ Q.i).q ?_); intro kc) | (go_at_call 107; (with_reducible refine (C1.o _ Q.i).q ?_); intro kc1) | (go_at_call 108; (with_reducible refine (G0.o _ Q.i).q ?_); intro kg) | (go_at_call 108; (with_reducible refine (G1.o _ Q.i).q ?_); intro kg) | fail)
   refine bodyPost_ret (v := .agg #[.int .i64 0, .int .i64 (0), .int .i64 3, .int .i64 y.of]) (by simp [results, Tryz.results74, go_sem]) rfl ⟨by rw [EV.o], ?_⟩
   exact Q.i
end Go.Proofs.YtcjflafjmdfanaaGreatDoor
