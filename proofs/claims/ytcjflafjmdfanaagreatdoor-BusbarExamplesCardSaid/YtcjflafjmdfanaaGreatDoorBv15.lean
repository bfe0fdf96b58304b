
/- What closed, group and node of a view return. -/
import Derived.Test.YtcjflafjmdfanaaGreatDoorBv14
set_option maxHeartbeats 64000000
set_option maxRecDepth 100000
set_option linter.unusedSimpArgs false
set_option linter.unusedVariables false
/- What Check of a station returns. -/
namespace Go.Sub
open Go
structure Sta where
 nm : ByteArray
 buses : List ByteArray
 lines : List Lnr
 srcs : List Srr
 bays : List Byr
 lks : Nat → List Lk
 aB : Option Addr
 cB : Nat
 aL : Option Addr
 cL : Nat
 aS : Option Addr
 cS : Nat
 aY : Option Addr
 cY : Nat
def Sta.bF (s : Sta) (k : Nat) : Int := match s.buses[k]? with | some x => nmE (s.buses.take k) x | none => 0
def Sta.lF (s : Sta) (k : Nat) : Int := match s.lines[k]? with | some x => lnE (s.buses ++ (s.lines.take k).map Lnr.nm) x | none => 0
def Sta.sF (s : Sta) (k : Nat) : Int := match s.srcs[k]? with | some x => srE (s.buses ++ s.lines.map Lnr.nm ++ (s.srcs.take k).map Srr.nm) x | none => 0
def Sta.yF (s : Sta) (k : Nat) : Int := match s.bays[k]? with | some x => byE s.buses.length s.lines.length s.srcs.length (s.buses ++ s.lines.map Lnr.nm ++ s.srcs.map Srr.nm ++ (s.bays.take k).map Byr.nm) (s.bays.take k) x (s.lks k) | none => 0
def orE (a b : Int) : Int := if a = 0 then b else a
def stBad (s : Sta) : Prop := s.buses.length = 0 ∨ 4 < s.buses.length ∨ 6 < s.lines.length ∨ 4 < s.srcs.length ∨ 16 < s.bays.length
instance (s : Sta) : Decidable (stBad s) := by unfold stBad; infer_instance
def stE (s : Sta) : Int :=
 if nmB s.nm = true then (if stBad s then 3 else orE (fstE s.bF s.buses.length) (orE (fstE s.lF s.lines.length) (orE (fstE s.sF s.srcs.length) (fstE s.yF s.bays.length)))) else 7
end Go.Sub
namespace Go.Proofs.YtcjflafjmdfanaaGreatDoor
open Go.RowKit Go.Sub
attribute [local go_sem ↓] Go.wp_at_zero Go.wp_at_succ
def big63 : Int := 9223372036854775807
structure StAt (w : World) (s : Sta) : Prop where
 rB : RdV w s.aB s.buses.length s.cB 1 (s.buses.map Value.string)
 rL : RdV w s.aL s.lines.length s.cL 5 (s.lines.flatMap lnC)
 rS : RdV w s.aS s.srcs.length s.cS 6 (s.srcs.flatMap srC)
 rY : RdV w s.aY s.bays.length s.cY 12 (s.bays.flatMap byC)
 lk : ∀ k y, s.bays[k]? = some y → LkAt w y (s.lks k) ∧ (s.lks k).length ≤ 9223372036854775807
 z0 : (s.nm.size : Int) ≤ 9223372036854775807
 zB : ∀ x ∈ s.buses, (x.size : Int) ≤ 9223372036854775807
 zL : ∀ x ∈ s.lines, (x.nm.size : Int) ≤ 9223372036854775807
 zS : ∀ x ∈ s.srcs, (x.nm.size : Int) ≤ 9223372036854775807
 zY : ∀ x ∈ s.bays, (x.nm.size : Int) ≤ 9223372036854775807
 lB : (s.buses.length : Int) ≤ 9223372036854775807
 lL : (s.lines.length : Int) ≤ 9223372036854775807
 lS : (s.srcs.length : Int) ≤ 9223372036854775807
 lY : (s.bays.length : Int) ≤ 9223372036854775807
theorem StAt.q {w w' : World} {s : Sta} (h : StAt w s) (hq : Q w w') : StAt w' s :=
 ⟨h.rB.q hq, h.rL.q hq, h.rS.q hq, h.rY.q hq, fun k y hk => ⟨(h.lk k y hk).1.q hq, (h.lk k y hk).2⟩, h.z0, h.zB, h.zL, h.zS, h.zY, h.lB, h.lL, h.lS, h.lY⟩
theorem newb_c (w : World) : Calls Tryz.prog 56 #[] w fun e w' => ∃ b m, e = .returned (.pointer (some ⟨b, 0, none⟩)) ∧ Bld w w' b m (.slice none 0 0) (.slice none 0 0) (.slice none 0 0) (.slice none 0 0) [] 0 0 0 [] := by
 have hmm := @run_makeMap Tryz.prog
 go_enter Tryz.func56, Tryz.ntmps56
 go_wp2
 go_ret
 have q0 : Q w ((w.alloc (.map #[] 0)).alloc (.cells #[.string ByteArray.empty, .slice none 0 0, .slice none 0 0, .slice none 0 0, .slice none 0 0, .map (some w.heap.size)] 174)) := (Q.alloc (.refl _) _).alloc _
 exact ⟨w.heap.size + 1, w.heap.size, rfl, q0, Nat.le_succ _, Nat.le_refl _, HB.new _ _ _ _ (by simp), (SeenM.new w).q (.alloc (.refl _) _), ⟨[], World.ownsRow_nil _ _ _ _⟩, ⟨[], World.ownsRow_nil _ _ _ _⟩, ⟨[], World.ownsRow_nil _ _ _ _⟩, World.ownsRow_nil _ _ _ _⟩
theorem stcheck_c (s : Sta) (w : World) (h : StAt w s) :
  Calls Tryz.prog 30 #[.agg #[Value.string s.nm, Value.slice s.aB s.buses.length s.cB, Value.slice s.aL s.lines.length s.cL, Value.slice s.aS s.srcs.length s.cS, Value.slice s.aY s.bays.length s.cY]] w fun e w' => e = .returned (.int .i64 (stE s)) ∧ Q w w' := by
 have NM := hh fun w => stname_c s.nm w h.z0
 have HSt := hh h
 obtain ⟨nB, eB⟩ : ∃ n, s.buses.length = n := ⟨_, rfl⟩
 obtain ⟨nL, eL⟩ : ∃ n, s.lines.length = n := ⟨_, rfl⟩
 obtain ⟨nS, eS⟩ : ∃ n, s.srcs.length = n := ⟨_, rfl⟩
 obtain ⟨nY, eY⟩ : ∃ n, s.bays.length = n := ⟨_, rfl⟩
 have RB := h.rB
 have RL := h.rL
 have RS := h.rS
 have RY := h.rY
 have b0 : (0 : Int) ≤ (nB : Int) := by omega
 have b1 := h.lB
 have b2 := h.lL
 have b3 := h.lS
 have b4 := h.lY
 have DE : stE s = if nmB s.nm = true then (if nB = 0 ∨ 4 < nB ∨ 6 < nL ∨ 4 < nS ∨ 16 < nY then 3 else orE (fstE s.bF nB) (orE (fstE s.lF nL) (orE (fstE s.sF nS) (fstE s.yF nY)))) else 7 := by
  unfold stE
  congr 1
  rw [eB, eL, eS, eY]
  congr 1
  unfold stBad
  rw [eB, eL, eS, eY]
 rw [eB] at RB b1 ⊢
 rw [eL] at RL b2 ⊢
 rw [eS] at RS b3 ⊢
 rw [eY] at RY b4 ⊢
 have EB := hh eB
 have EL := hh eL
 have ES := hh eS
 have EY := hh eY
 have HB_ := hh RB
 have HL_ := hh RL
 have HS_ := hh RS
 have HY_ := hh RY
 clear eB eL eS eY RB RL RS RY
 have b5 : (0 : Int) ≤ (nL : Int) := by omega
 have b6 : (0 : Int) ≤ (nS : Int) := by omega
 have b7 : (0 : Int) ≤ (nY : Int) := by omega
 cases hn : nmB s.nm with
 | false =>
  have EE : Hid (stE s = 7) := hh (by rw [DE, hn]; rfl)
  rw [hn] at NM
  clear hn h DE
  go_enter Tryz.func30, Tryz.ntmps30
  go_wp2_with (first | (go_at_call 55; (with_reducible refine (NM.o _).p ?_)) | fail)
  go_ret
  refine ⟨by rw [EE.o]; rfl, ?_⟩
  exact Q.i
 | true =>
  rw [hn] at NM
  by_cases hbad : nB = 0 ∨ 4 < nB ∨ 6 < nL ∨ 4 < nS ∨ 16 < nY
  ·have EE : Hid (stE s = 3) := hh (by rw [DE, if_pos hn, if_pos hbad])
   have hw : (nB : Int) = 0 ∨ (¬ (nB : Int) = 0 ∧ (4 : Int) < (nB : Int)) ∨ (¬ (nB : Int) = 0 ∧ ¬ (4 : Int) < (nB : Int) ∧ (6 : Int) < (nL : Int)) ∨ (¬ (nB : Int) = 0 ∧ ¬ (4 : Int) < (nB : Int) ∧ ¬ (6 : Int) < (nL : Int) ∧ (4 : Int) < (nS : Int)) ∨ (¬ (nB : Int) = 0 ∧ ¬ (4 : Int) < (nB : Int) ∧ ¬ (6 : Int) < (nL : Int) ∧ ¬ (4 : Int) < (nS : Int) ∧ (16 : Int) < (nY : Int)) := by omega
   clear hn h hbad DE
   rcases hw with c0 | ⟨c0, c1⟩ | ⟨c0, c1, c2⟩ | ⟨c0, c1, c2, c3⟩ | ⟨c0, c1, c2, c3, c4⟩
   all_goals
    try have c0b : ((nB : Int) == 0) = false := by simpa using c0
    go_enter Tryz.func30, Tryz.ntmps30
    go_wp2_with (first | (go_at_call 55; (with_reducible refine (NM.o _).p ?_)) | fail)
    go_ret
    refine ⟨by rw [EE.o]; rfl, ?_⟩
    exact Q.i
  have EE : Hid (stE s = orE (fstE s.bF nB) (orE (fstE s.lF nL) (orE (fstE s.sF nS) (fstE s.yF nY)))) := hh (by rw [DE, if_pos hn, if_neg hbad])
  have c0 : ¬ (nB : Int) = 0 := by omega
  have c0b : ((nB : Int) == 0) = false := by simpa using c0
  have c0n : ¬ nB = 0 := by omega
  have c1 : ¬ (4 : Int) < (nB : Int) := by omega
  have c2 : ¬ (6 : Int) < (nL : Int) := by omega
  have c3 : ¬ (4 : Int) < (nS : Int) := by omega
  have c4 : ¬ (16 : Int) < (nY : Int) := by omega
  obtain ⟨e1, h1⟩ : ∃ e, fstE s.bF nB = e := ⟨_, rfl⟩
  obtain ⟨e2, h2⟩ : ∃ e, fstE s.lF nL = e := ⟨_, rfl⟩
  obtain ⟨e3, h3⟩ : ∃ e, fstE s.sF nS = e := ⟨_, rfl⟩
  obtain ⟨e4, h4⟩ : ∃ e, fstE s.yF nY = e := ⟨_, rfl⟩
  rw [h1, h2, h3, h4] at EE
  have E1 := hh h1
  have E2 := hh h2
  have E3 := hh h3
  have E4 := hh h4
  clear hn h hbad DE h1 h2 h3 h4
  by_cases z1 : e1 = 0
  rotate_left
  ·have EX : Hid (stE s = e1) := hh (by rw [EE.o]; simp [orE, z1])
   have z' : (e1 == 0) = false := by simpa using z1
   go_enter Tryz.func30, Tryz.ntmps30
   go_wp2_with (first | (go_at_call 55; (with_reducible refine (NM.o _).p ?_)) | (go_at_call 56; (with_reducible refine (newb_c _).mono ?_); rintro e w0 ⟨b, m, rfl, hb0⟩; obtain ⟨k0, rfl⟩ := hb0.q; have HB0 := hh hb0; clear hb0) | (go_at_call 57; (with_reducible refine (first_bus _ _ b m _ _ _ _ _ _ _ _ _ s.buses s.aB nB s.cB HB0.o (HB_.o.q (.alloc (.refl _) _)) EB.o HSt.o.zB (by simp; omega) (by omega) s.bF (fun k x hk => by unfold Sta.bF; rw [hk, List.nil_append])).mono ?_); rintro e w1 ⟨rfl, ⟨k1, rfl⟩, hI1⟩; rw [E1.o] at hI1 ⊢; have HI1 := hh hI1; clear hI1) | fail)
   go_ret
   refine ⟨by rw [EX.o]; rfl, ?_⟩
   exact Q.i
  subst z1
  by_cases z2 : e2 = 0
  rotate_left
  ·have EX : Hid (stE s = e2) := hh (by rw [EE.o]; simp [orE, z2])
   have z' : (e2 == 0) = false := by simpa using z2
   go_enter Tryz.func30, Tryz.ntmps30
   go_wp2_with (first | (go_at_call 55; (with_reducible refine (NM.o _).p ?_)) | (go_at_call 56; (with_reducible refine (newb_c _).mono ?_); rintro e w0 ⟨b, m, rfl, hb0⟩; obtain ⟨k0, rfl⟩ := hb0.q; have HB0 := hh hb0; clear hb0) | (go_at_call 57; (with_reducible refine (first_bus _ _ b m _ _ _ _ _ _ _ _ _ s.buses s.aB nB s.cB HB0.o (HB_.o.q (.alloc (.refl _) _)) EB.o HSt.o.zB (by simp; omega) (by omega) s.bF (fun k x hk => by unfold Sta.bF; rw [hk, List.nil_append])).mono ?_); rintro e w1 ⟨rfl, ⟨k1, rfl⟩, hI1⟩; rw [E1.o] at hI1 ⊢; have HI1 := hh hI1; clear hI1; obtain ⟨v1, hb1⟩ := HI1.o rfl; have HB1 := hh hb1; clear hb1) | (go_at_call 59; (with_reducible refine (first_line _ _ b m _ _ _ _ _ _ _ _ _ s.lines s.aL nL s.cL HB1.o (HL_.o.q (.alloc (.refl _) _)) EL.o HSt.o.zL (by simp [EB.o]; omega) (by omega) s.lF (fun k x hk => by unfold Sta.lF; rw [hk, List.nil_append])).mono ?_); rintro e w2 ⟨rfl, ⟨k2, rfl⟩, hI2⟩; rw [E2.o] at hI2 ⊢; have HI2 := hh hI2; clear hI2) | fail)
   go_ret
   refine ⟨by rw [EX.o]; rfl, ?_⟩
   exact Q.i
  subst z2
  by_cases z3 : e3 = 0
  ·subst z3
   have EX : Hid (stE s = e4) := hh (by rw [EE.o]; simp [orE])
   go_enter Tryz.func30, Tryz.ntmps30
   go_wp2_with (first | (go_at_call 55; (with_reducible refine (NM.o _).p ?_)) | (go_at_call 56; (with_reducible refine (newb_c _).mono ?_); rintro e w0 ⟨b, m, rfl, hb0⟩; obtain ⟨k0, rfl⟩ := hb0.q; have HB0 := hh hb0; clear hb0) | (go_at_call 57; (with_reducible refine (first_bus _ _ b m _ _ _ _ _ _ _ _ _ s.buses s.aB nB s.cB HB0.o (HB_.o.q (.alloc (.refl _) _)) EB.o HSt.o.zB (by simp; omega) (by omega) s.bF (fun k x hk => by unfold Sta.bF; rw [hk, List.nil_append])).mono ?_); rintro e w1 ⟨rfl, ⟨k1, rfl⟩, hI1⟩; rw [E1.o] at hI1 ⊢; have HI1 := hh hI1; clear hI1; obtain ⟨v1, hb1⟩ := HI1.o rfl; have HB1 := hh hb1; clear hb1) | (go_at_call 59; (with_reducible refine (first_line _ _ b m _ _ _ _ _ _ _ _ _ s.lines s.aL nL s.cL HB1.o (HL_.o.q (.alloc (.refl _) _)) EL.o HSt.o.zL (by simp [EB.o]; omega) (by omega) s.lF (fun k x hk => by unfold Sta.lF; rw [hk, List.nil_append])).mono ?_); rintro e w2 ⟨rfl, ⟨k2, rfl⟩, hI2⟩; rw [E2.o] at hI2 ⊢; have HI2 := hh hI2; clear hI2; obtain ⟨v2, hb2⟩ := HI2.o rfl; have HB2 := hh hb2; clear hb2) | (go_at_call 61; (with_reducible refine (first_source _ _ b m _ _ _ _ _ _ _ _ _ s.srcs s.aS nS s.cS HB2.o (HS_.o.q (.alloc (.refl _) _)) ES.o HSt.o.zS (by simp [EB.o, EL.o]; omega) (by omega) s.sF (fun k x hk => by unfold Sta.sF; rw [hk, List.nil_append])).mono ?_); rintro e w3 ⟨rfl, ⟨k3, rfl⟩, hI3⟩; rw [E3.o] at hI3 ⊢; have HI3 := hh hI3; clear hI3; obtain ⟨v3, hb3⟩ := HI3.o rfl; have HB3 := hh hb3; clear hb3) | (go_at_call 63; (with_reducible refine (first_bay _ _ b m _ _ _ _ _ _ _ _ s.bays s.aY nY s.cY s.lks (fun k x hk => ⟨(HSt.o.lk k x hk).1.q (.alloc (.refl _) _), (HSt.o.lk k x hk).2⟩) HB3.o (HY_.o.q (.alloc (.refl _) _)) EY.o HSt.o.zY (by simp [EB.o, EL.o, ES.o]; omega) (by omega) (by omega) (by omega) (by omega) s.yF (fun k x hk => by unfold Sta.yF; rw [hk, EB.o, EL.o, ES.o]; simp)).mono ?_); rintro e w4 ⟨rfl, ⟨k4, rfl⟩, _⟩; rw [E4.o]) | fail)
   go_ret
   refine ⟨by rw [EX.o]; rfl, ?_⟩
   exact Q.i
  have EX : Hid (stE s = e3) := hh (by rw [EE.o]; simp [orE, z3])
  have z' : (e3 == 0) = false := by simpa using z3
  go_enter Tryz.func30, Tryz.ntmps30
  go_wp2_with (first | (go_at_call 55; (with_reducible refine (NM.o _).p ?_)) | (go_at_call 56; (with_reducible refine (newb_c _).mono ?_); rintro e w0 ⟨b, m, rfl, hb0⟩; obtain ⟨k0, rfl⟩ := hb0.q; have HB0 := hh hb0; clear hb0) | (go_at_call 57; (with_reducible refine (first_bus _ _ b m _ _ _ _ _ _ _ _ _ s.buses s.aB nB s.cB HB0.o (HB_.o.q (.alloc (.refl _) _)) EB.o HSt.o.zB (by simp; omega) (by omega) s.bF (fun k x hk => by unfold Sta.bF; rw [hk, List.nil_append])).mono ?_); rintro e w1 ⟨rfl, ⟨k1, rfl⟩, hI1⟩; rw [E1.o] at hI1 ⊢; have HI1 := hh hI1; clear hI1; obtain ⟨v1, hb1⟩ := HI1.o rfl; have HB1 := hh hb1; clear hb1) | (go_at_call 59; (with_reducible refine (first_line _ _ b m _ _ _ _ _ _ _ _ _ s.lines s.aL nL s.cL HB1.o (HL_.o.q (.alloc (.refl _) _)) EL.o HSt.o.zL (by simp [EB.o]; omega) (by omega) s.lF (fun k x hk => by unfold Sta.lF; rw [hk, List.nil_append])).mono ?_); rintro e w2 ⟨rfl, ⟨k2, rfl⟩, hI2⟩; rw [E2.o] at hI2 ⊢; have HI2 := hh hI2; clear hI2; obtain ⟨v2, hb2⟩ := HI2.o rfl; have HB2 := hh hb2; clear hb2) | (go_at_call 61; (with_reducible refine (first_source _ _ b m _ _ _ _ _ _ _ _ _ s.srcs s.aS nS s.cS HB2.o (HS_.o.q (.alloc (.refl _) _)) ES.o HSt.o.zS (by simp [EB.o, EL.o]; omega) (by omega) s.sF (fun k x hk => by unfold Sta.sF; rw [hk, List.nil_append])).mono ?_); rintro e w3 ⟨rfl, ⟨k3, rfl⟩, hI3⟩; rw [E3.o] at hI3 ⊢; have HI3 := hh hI3; clear hI3) | fail)
  go_ret
  refine ⟨by rw [EX.o]; rfl, ?_⟩
  exact Q.i
end Go.Proofs.YtcjflafjmdfanaaGreatDoor
/- What Check of a position returns. -/
namespace Go.Sub
open Go
structure Ro where
 ad : Option Addr
 cap : Nat
 l : List Int
def roC (r : Ro) : Value := .slice r.ad r.l.length r.cap
structure Pos where
 closed : List Bool
 rows : List Ro
 aC : Option Addr
 cC : Nat
 aK : Option Addr
 cK : Nat
def plB (kd x : Int) : Bool := decide (x = 1) || (!decide (kd = 3) && (decide (x = 0) || decide (x = 2)))
def plE (kd : Int) (l : List Int) (j : Nat) : Int := if plB kd (l.getD j 0) = true then 0 else 16
def rwE (s : Sta) (p : Pos) (k : Nat) : Int := match s.bays[k]?, p.rows[k]? with | some y, some r => fstE (plE y.kd r.l) r.l.length | _, _ => 0
def rwL (s : Sta) (p : Pos) (k : Nat) : Int := match s.bays[k]?, p.rows[k]? with | some y, some r => if r.l.length = y.ln then 0 else 3 | _, _ => 0
def psE (s : Sta) (p : Pos) : Int :=
 if p.closed.length ≠ s.bays.length ∨ p.rows.length ≠ s.bays.length then 3 else orE (fstE (rwL s p) s.bays.length) (fstE (rwE s p) s.bays.length)
end Go.Sub
namespace Go.Proofs.YtcjflafjmdfanaaGreatDoor
open Go.RowKit Go.Sub
attribute [local go_sem ↓] Go.wp_at_zero Go.wp_at_succ
structure PosAt (w : World) (p : Pos) : Prop where
 rC : RdV w p.aC p.closed.length p.cC 1 (p.closed.map Value.bool)
 rK : RdV w p.aK p.rows.length p.cK 1 (p.rows.map roC)
 row : ∀ r ∈ p.rows, RdN w r.ad r.l.length r.cap .i64 r.l ∧ (r.l.length : Int) ≤ 9223372036854775807
 lC : (p.closed.length : Int) ≤ 9223372036854775807
 lK : (p.rows.length : Int) ≤ 9223372036854775807
theorem PosAt.q {w w' : World} {p : Pos} (h : PosAt w p) (hq : Q w w') : PosAt w' p := ⟨h.rC.q hq, h.rK.q hq, fun r hr => ⟨(h.row r hr).1.q hq, (h.row r hr).2⟩, h.lC, h.lK⟩
theorem StAt.bayAt {w : World} {s : Sta} (h : StAt w s) {k : Nat} {y : Byr} (hk : s.bays[k]? = some y) : ∃ g o, s.aY = some ⟨g, o, none⟩ ∧ Old g w ∧ Hid (∀ j u, (byC y)[j]? = some u → w.cell? ⟨g, o + k * 12 + j, none⟩ = some u) := by
 have hlt := (List.getElem?_eq_some_iff.1 hk).1
 obtain ⟨g, o, e, ho, hc⟩ := h.rY.at_ (by omega)
 refine ⟨g, o, e, ho, hh fun j u hj => ?_⟩
 have hj12 : j < 12 := by have := (List.getElem?_eq_some_iff.1 hj).1; simpa [byC] using this
 rw [Nat.add_assoc]
 exact hc.o _ _ (by rw [byC_get _ k j y hk hj12]; exact hj)
theorem PosAt.rowAt {w : World} {p : Pos} (h : PosAt w p) {k : Nat} {r : Ro} (hk : p.rows[k]? = some r) : ∃ g o, p.aK = some ⟨g, o, none⟩ ∧ Old g w ∧ w.cell? ⟨g, o + k, none⟩ = some (.slice r.ad r.l.length r.cap) := by
 have hlt := (List.getElem?_eq_some_iff.1 hk).1
 obtain ⟨g, o, e, ho, hc⟩ := h.rK.at_ (by omega)
 exact ⟨g, o, e, ho, hc.o _ _ (by rw [List.getElem?_map, hk]; rfl)⟩
theorem tpcheck_c (s : Sta) (p : Pos) (w : World) (hs : StAt w s) (hp : PosAt w p) :
  Calls Tryz.prog 12 #[.agg #[Value.string s.nm, Value.slice s.aB s.buses.length s.cB, Value.slice s.aL s.lines.length s.cL, Value.slice s.aS s.srcs.length s.cS, Value.slice s.aY s.bays.length s.cY], .agg #[Value.slice p.aC p.closed.length p.cC, Value.slice p.aK p.rows.length p.cK]] w fun e w' => e = .returned (.int .i64 (psE s p)) ∧ Q w w' := by
 have HS := hh hs
 have HP := hh hp
 obtain ⟨nY, eY⟩ : ∃ n, s.bays.length = n := ⟨_, rfl⟩
 obtain ⟨nC, eC⟩ : ∃ n, p.closed.length = n := ⟨_, rfl⟩
 obtain ⟨nK, eK⟩ : ∃ n, p.rows.length = n := ⟨_, rfl⟩
 have b1 := hs.lY
 have b2 := hp.lC
 have b3 := hp.lK
 have DE : psE s p = if nC ≠ nY ∨ nK ≠ nY then 3 else orE (fstE (rwL s p) nY) (fstE (rwE s p) nY) := by unfold psE; rw [eY, eC, eK]
 rw [eY] at b1 ⊢
 rw [eC] at b2 ⊢
 rw [eK] at b3 ⊢
 have EY := hh eY
 have EK := hh eK
 have c1 : (0 : Int) ≤ (nY : Int) := by omega
 have c2 : (0 : Int) ≤ (nC : Int) := by omega
 have c3 : (0 : Int) ≤ (nK : Int) := by omega
 clear eY eC eK hs hp
 by_cases hbad : nC ≠ nY ∨ nK ≠ nY
 ·have EE : Hid (psE s p = 3) := hh (by rw [DE, if_pos hbad])
  have hw : ((nC : Int) != (nY : Int)) = true ∨ (((nC : Int) != (nY : Int)) = false ∧ ((nK : Int) != (nY : Int)) = true) := by
   by_cases a : nC = nY
   ·right
    subst a
    exact ⟨by simp, by simp; omega⟩
   left
   simp
   omega
  clear hbad DE
  rcases hw with d1 | ⟨d1, d2⟩
  all_goals
   go_enter Tryz.func12, Tryz.ntmps12
   go_wp2_with fail
   go_ret
   refine ⟨by rw [EE.o]; rfl, ?_⟩
   exact Q.i
 have EE : Hid (psE s p = orE (fstE (rwL s p) nY) (fstE (rwE s p) nY)) := hh (by rw [DE, if_neg hbad])
 obtain rfl : nC = nY := by omega
 obtain rfl : nK = nC := by omega
 clear hbad DE
 go_enter Tryz.func12, Tryz.ntmps12
 go_wp2_with fail
 go_loopw [30] (fun i wr => ∃ k : Nat, i = .int .i64 k ∧ k ≤ nK ∧ Hid (∀ j, j < k → rwL s p j = 0) ∧ Q ((w.alloc (Obj.cells #[Value.string s.nm, Value.slice s.aB s.buses.length s.cB, Value.slice s.aL s.lines.length s.cL, Value.slice s.aS s.srcs.length s.cS, Value.slice s.aY nK s.cY] 27)).alloc (Obj.cells #[Value.slice p.aC nK p.cC, Value.slice p.aK nK p.cK] 31)) wr) (fun i _ => nK - (intOf i).toNat)
 case atStart => exact ⟨0, rfl, Nat.zero_le _, hh (fun j hj => absurd hj (Nat.not_lt_zero _)), Q.refl _⟩
 case round =>
 obtain ⟨k, rfl, hk, HZ, kk, rfl⟩ := hrel
 by_cases hlt : k < nK
 ·obtain ⟨y, hy⟩ : ∃ y, s.bays[k]? = some y := ⟨_, List.getElem?_eq_getElem (by rw [EY.o]; exact hlt)⟩
  obtain ⟨r, hr⟩ : ∃ r, p.rows[k]? = some r := ⟨_, List.getElem?_eq_getElem (by rw [EK.o]; exact hlt)⟩
  obtain ⟨g, o, eA, og, hc⟩ := HS.o.bayAt hy
  obtain ⟨g', o', eA', og', r1⟩ := HP.o.rowAt hr
  rw [eA, eA']
  obtain ⟨q0, q1, q2, q3, q4, q5, q6, q7, q8, q9, q10, q11⟩ := by12 hc
  have k0 : (0 : Int) ≤ (k : Int) := by omega
  have k1 : (k : Int) < (nK : Int) := by omega
  have RL : Hid (rwL s p k = if r.l.length = y.ln then 0 else 3) := hh (by unfold rwL; rw [hy, hr])
  obtain ⟨nr, enr⟩ : ∃ n, r.l.length = n := ⟨_, rfl⟩
  have hnr := (HP.o.row r (List.mem_of_getElem? hr)).2
  have hln := (HS.o.lk k y hy)
  have hln2 : (y.ln : Int) ≤ 9223372036854775807 := by have h1 := hln.2; have h2 := hln.1.2; omega
  rw [enr] at r1 RL hnr
  have n0 : (0 : Int) ≤ (nr : Int) := by omega
  have n1 : (0 : Int) ≤ (y.ln : Int) := by omega
  clear hy hr eA eA' hc hln enr
  by_cases hd : nr = y.ln
  rotate_left
  ·have RL0 : Hid (rwL s p k = 3) := hh (by rw [RL.o, if_neg hd])
   have EX : Hid (psE s p = 3) := hh (by rw [EE.o, fstE_hit HZ.o (by rw [RL0.o]; decide) hlt, RL0.o]; rfl)
   have hd' : ((nr : Int) != (y.ln : Int)) = true := by rw [bne_iff_ne]; omega
   clear hd RL
   go_wp2_with fail
   refine wrj (by kernel_rfl) ?_
   repeat (go_big_quiet_step (fail))
   refine wq0 fun kq => ?_
   go_wp2_with fail
   go_ret
   refine ⟨by rw [EX.o]; rfl, ?_⟩
   exact Q.i
  have RL0 : Hid (rwL s p k = 0) := hh (by rw [RL.o, if_pos hd])
  have hd' : ((nr : Int) != (y.ln : Int)) = false := by rw [hd]; simp
  clear hd RL
  go_wp2_with fail
  refine wrj (by kernel_rfl) ?_
  repeat (go_big_quiet_step (fail))
  refine wq0 fun kq => ?_
  go_wp2_with fail
  go_roundw
  case rel =>
   refine ⟨k + 1, by go_num, by omega, hh (fun j hj => ?_), ?_⟩
   ·by_cases e : j = k
    ·subst e; exact RL0.o
    exact HZ.o j (by omega)
   exact Q.i
  case measure => simp [intOf] <;> omega
 obtain rfl : nK = k := by omega
 have EE2 : Hid (psE s p = fstE (rwE s p) nK) := hh (by rw [EE.o, fstE_none HZ.o]; rfl)
 have HZ1 := HZ
 clear HZ hlt hk
 go_wp2_with fail
 go_loopw [49] (fun i wr => ∃ k : Nat, i = .int .i64 k ∧ k ≤ nK ∧ Hid (∀ j, j < k → rwE s p j = 0) ∧ Q ((w.alloc (Obj.cells #[Value.string s.nm, Value.slice s.aB s.buses.length s.cB, Value.slice s.aL s.lines.length s.cL, Value.slice s.aS s.srcs.length s.cS, Value.slice s.aY nK s.cY] 27)).alloc (Obj.cells #[Value.slice p.aC nK p.cC, Value.slice p.aK nK p.cK] 31)) wr) (fun i _ => nK - (intOf i).toNat)
 case atStart => exact ⟨0, rfl, Nat.zero_le _, hh (fun j hj => absurd hj (Nat.not_lt_zero _)), by repeat' (first | exact Q.refl _ | refine Q.alloc ?_ _ | refine Q.jk ?_ _ | refine Q.drew ?_)⟩
 case round =>
 obtain ⟨k, rfl, hk, HZ, kk2, rfl⟩ := hrel
 by_cases hlt : k < nK
 rotate_left
 ·obtain rfl : nK = k := by omega
  have EX : Hid (psE s p = 0) := hh (by rw [EE2.o, fstE_none HZ.o])
  go_wp2_with fail
  go_ret
  refine ⟨by rw [EX.o]; rfl, ?_⟩
  exact Q.i
 obtain ⟨y, hy⟩ : ∃ y, s.bays[k]? = some y := ⟨_, List.getElem?_eq_getElem (by rw [EY.o]; exact hlt)⟩
 obtain ⟨r, hr⟩ : ∃ r, p.rows[k]? = some r := ⟨_, List.getElem?_eq_getElem (by rw [EK.o]; exact hlt)⟩
 obtain ⟨g, o, eA, og, hc⟩ := HS.o.bayAt hy
 obtain ⟨g', o', eA', og', r1⟩ := HP.o.rowAt hr
 rw [eA, eA']
 obtain ⟨q0, q1, q2, q3, q4, q5, q6, q7, q8, q9, q10, q11⟩ := by12 hc
 have k0 : (0 : Int) ≤ (k : Int) := by omega
 have k1 : (k : Int) < (nK : Int) := by omega
 obtain ⟨nr, enr⟩ : ∃ n, r.l.length = n := ⟨_, rfl⟩
 have RE : Hid (rwE s p k = fstE (plE y.kd r.l) nr) := hh (by unfold rwE; rw [hy, hr, ← enr])
 have hrow := HP.o.row r (List.mem_of_getElem? hr)
 have hnr := hrow.2
 have HRD := hh hrow.1
 rw [enr] at r1 hnr HRD
 have n0 : (0 : Int) ≤ (nr : Int) := by omega
 clear hy hr hc hrow enr
 go_wp2_with fail
 go_loopw [60] (fun i wr => ∃ j : Nat, i = .int .i64 j ∧ j ≤ nr ∧ Hid (∀ i, i < j → plE y.kd r.l i = 0) ∧ Q ((((w.alloc (Obj.cells #[Value.string s.nm, Value.slice s.aB s.buses.length s.cB, Value.slice s.aL s.lines.length s.cL, Value.slice s.aS s.srcs.length s.cS, Value.slice (some ⟨g, o, none⟩) nK s.cY] 27)).alloc (Obj.cells #[Value.slice p.aC nK p.cC, Value.slice (some ⟨g', o', none⟩) nK p.cK] 31)).jk kk2).alloc (Obj.cells #[Value.string y.nm, Value.int .i64 y.kd, Value.int .i64 y.of, Value.int .i64 y.en, Value.int .i64 y.zr, Value.int .i64 y.zx, Value.slice y.la y.ln y.lc, Value.bool y.cl, Value.int .i64 y.ct, Value.int .i64 y.vt, Value.int .i64 y.sa, Value.int .i64 y.tr] 91)) wr) (fun i _ => nr - (intOf i).toNat)
 case atStart => exact ⟨0, rfl, Nat.zero_le _, hh (fun j hj => absurd hj (Nat.not_lt_zero _)), by repeat' (first | exact Q.refl _ | refine Q.alloc ?_ _ | refine Q.jk ?_ _ | refine Q.drew ?_)⟩
 case round =>
 obtain ⟨j, rfl, hj, HJ, kk3, rfl⟩ := hrel
 by_cases hlj : j < nr
 rotate_left
 ·obtain rfl : nr = j := by omega
  have RE0 : Hid (rwE s p k = 0) := hh (by rw [RE.o, fstE_none HJ.o])
  go_wp2_with fail
  go_roundw
  case rel =>
   refine ⟨k + 1, by go_num, by omega, hh (fun i hi => ?_), ?_⟩
   ·by_cases e : i = k
    ·subst e; exact RE0.o
    exact HZ.o i (by omega)
   exact Q.i
  case measure => simp [intOf] <;> omega
 obtain ⟨g2, o2, eA2, og2, hc2⟩ := HRD.o.at_ (by omega)
 have x1 := hc2.o j hlj
 have PE : Hid (plE y.kd r.l j = if plB y.kd (r.l.getD j 0) = true then 0 else 16) := hh rfl
 generalize r.l.getD j 0 = x at x1 PE
 rw [eA2]
 have j0 : (0 : Int) ≤ (j : Int) := by omega
 have j1 : (j : Int) < (nr : Int) := by omega
 clear hc2
 cases hpl : plB y.kd x with
 | false =>
  have PE0 : Hid (plE y.kd r.l j = 16) := hh (by rw [PE.o, hpl]; rfl)
  have RE0 : Hid (rwE s p k = 16) := hh (by rw [RE.o, fstE_hit HJ.o (by rw [PE0.o]; decide) hlj, PE0.o])
  have EX : Hid (psE s p = 16) := hh (by rw [EE2.o, fstE_hit HZ.o (by rw [RE0.o]; decide) hlt, RE0.o])
  have hw : x ≠ 1 ∧ (y.kd = 3 ∨ (y.kd ≠ 3 ∧ x ≠ 0 ∧ x ≠ 2)) := by
   unfold plB at hpl
   simp only [Bool.or_eq_false_iff, Bool.and_eq_false_iff, decide_eq_false_iff_not, Bool.not_eq_false', decide_eq_true_eq] at hpl
   refine ⟨hpl.1, ?_⟩
   by_cases k3 : y.kd = 3
   ·exact .inl k3
   rcases hpl.2 with h | h
   ·exact absurd h k3
   exact .inr ⟨k3, h.1, h.2⟩
  clear hpl PE
  obtain ⟨d1, hw⟩ := hw
  have d1' : (x == 1) = false := by simpa using d1
  rcases hw with k3 | ⟨k3, d0, d2⟩
  ·have k3' : (y.kd != 3) = false := by simpa using k3
   clear k3
   go_wp2_with fail
   go_ret
   refine ⟨by rw [EX.o]; rfl, ?_⟩
   exact Q.i
  have k3' : (y.kd != 3) = true := by simpa using k3
  have d0' : (x == 0) = false := by simpa using d0
  have d2' : (x == 2) = false := by simpa using d2
  go_wp2_with fail
  go_ret
  refine ⟨by rw [EX.o]; rfl, ?_⟩
  exact Q.i
 | true =>
  have PE0 : Hid (plE y.kd r.l j = 0) := hh (by rw [PE.o, hpl]; rfl)
  have hw : x = 1 ∨ (y.kd ≠ 3 ∧ x = 0) ∨ (y.kd ≠ 3 ∧ x = 2) := by
   unfold plB at hpl
   simp only [Bool.or_eq_true, Bool.and_eq_true, decide_eq_true_eq, Bool.not_eq_true', decide_eq_false_iff_not] at hpl
   rcases hpl with h | ⟨h, h2 | h2⟩
   ·exact .inl h
   ·exact .inr (.inl ⟨h, h2⟩)
   exact .inr (.inr ⟨h, h2⟩)
  clear hpl PE
  rcases hw with rfl | ⟨k3, rfl⟩ | ⟨k3, rfl⟩
  ·go_wp2_with fail
   go_roundw
   case rel =>
    refine ⟨j + 1, by go_num, by omega, hh (fun i hi => ?_), ?_⟩
    ·by_cases e : i = j
     ·subst e; exact PE0.o
     exact HJ.o i (by omega)
    exact Q.i
   case measure => simp [intOf] <;> omega
  ·have k3' : (y.kd != 3) = true := by simpa using k3
   go_wp2_with fail
   go_roundw
   case rel =>
    refine ⟨j + 1, by go_num, by omega, hh (fun i hi => ?_), ?_⟩
    ·by_cases e : i = j
     ·subst e; exact PE0.o
     exact HJ.o i (by omega)
    exact Q.i
   case measure => simp [intOf] <;> omega
  have k3' : (y.kd != 3) = true := by simpa using k3
  go_wp2_with fail
  go_roundw
  case rel =>
   refine ⟨j + 1, by go_num, by omega, hh (fun i hi => ?_), ?_⟩
   ·by_cases e : i = j
    ·subst e; exact PE0.o
    exact HJ.o i (by omega)
   exact Q.i
  case measure => simp [intOf] <;> omega
end Go.Proofs.YtcjflafjmdfanaaGreatDoor
namespace Go.Sub
open Go
def clB (p : Pos) (k j : Nat) : Bool := match p.rows[k]? with | some r => decide (r.l.getD j 0 = 1) | none => false
def ndZ (s : Sta) (gl : List Int) (kd of : Int) : Int × Int × Bool :=
 if kd = 1 ∧ 0 ≤ of ∧ of < (s.buses.length : Int) then (1, gl.getD of.toNat 0, true) else if kd = 2 ∧ 0 ≤ of ∧ of < (s.lines.length : Int) then (2, of, true) else (0, 0, false)
end Go.Sub
namespace Go.Proofs.YtcjflafjmdfanaaGreatDoor
open Go.RowKit Go.Sub
attribute [local go_sem ↓] Go.wp_at_zero Go.wp_at_succ
theorem vclosed_c (s : Sta) (p : Pos) (G : Option Addr) (nG cG : Nat) (k j : Nat) (r : Ro) (w : World) (hp : PosAt w p) (hk : p.rows[k]? = some r) (hj : j < r.l.length) :
  Calls Tryz.prog 107 #[.agg #[Value.string s.nm, Value.slice s.aB s.buses.length s.cB, Value.slice s.aL s.lines.length s.cL, Value.slice s.aS s.srcs.length s.cS, Value.slice s.aY s.bays.length s.cY, Value.slice p.aC p.closed.length p.cC, Value.slice p.aK p.rows.length p.cK, Value.slice G nG cG], .int .i64 k, .int .i64 j] w fun e w' => e = .returned (.bool (clB p k j)) ∧ Q w w' := by
 have EC : Hid (clB p k j = decide (r.l.getD j 0 = 1)) := hh (by unfold clB; rw [hk])
 obtain ⟨g, o, eA, og, c1⟩ := hp.rowAt hk
 have hlt := (List.getElem?_eq_some_iff.1 hk).1
 obtain ⟨g2, o2, eA2, og2, hc2⟩ := (hp.row r (List.mem_of_getElem? hk)).1.at_ (by omega)
 have c2 := hc2.o j hj
 obtain ⟨nr, enr⟩ : ∃ n, r.l.length = n := ⟨_, rfl⟩
 obtain ⟨nK, eK⟩ : ∃ n, p.rows.length = n := ⟨_, rfl⟩
 rw [eA2] at c1
 rw [enr] at c1 hj
 rw [eK] at hlt ⊢
 rw [eA]
 generalize r.l.getD j 0 = x at c2 EC
 have k0 : (0 : Int) ≤ (k : Int) := by omega
 have k1 : (k : Int) < (nK : Int) := by omega
 have j0 : (0 : Int) ≤ (j : Int) := by omega
 have j1 : (j : Int) < (nr : Int) := by omega
 clear hp hk hc2 eA eA2
 go_enter Tryz.func107, Tryz.ntmps107
 go_wp2_with fail
 go_ret
 refine ⟨?_, ?_⟩
 ·rw [EC.o]
  by_cases hx : x = 1 <;> simp [hx]
 exact Q.i
theorem vgroup_c (s : Sta) (p : Pos) (G : Option Addr) (nG cG : Nat) (gl : List Int) (b : Nat) (w : World) (hg : RdN w G nG cG .i64 gl) (hb : b < nG) :
  Calls Tryz.prog 108 #[.agg #[Value.string s.nm, Value.slice s.aB s.buses.length s.cB, Value.slice s.aL s.lines.length s.cL, Value.slice s.aS s.srcs.length s.cS, Value.slice s.aY s.bays.length s.cY, Value.slice p.aC p.closed.length p.cC, Value.slice p.aK p.rows.length p.cK, Value.slice G nG cG], .int .i64 b] w fun e w' => e = .returned (.agg #[.int .i64 1, .int .i64 (gl.getD b 0)]) ∧ Q w w' := by
 obtain ⟨g, o, rfl, og, hc⟩ := hg.at_ (by omega)
 have c1 := hc.o b hb
 generalize gl.getD b 0 = x at c1 ⊢
 have k0 : (0 : Int) ≤ (b : Int) := by omega
 have k1 : (b : Int) < (nG : Int) := by omega
 clear hg hc
 go_enter Tryz.func108, Tryz.ntmps108
 go_wp2_with fail
 refine bodyPost_ret (v := .agg #[.int .i64 1, .int .i64 x]) (by simp [results, Tryz.results108, go_sem]) rfl ⟨rfl, ?_⟩
 exact Q.i
theorem vnode_c (s : Sta) (p : Pos) (G : Option Addr) (nG cG : Nat) (gl : List Int) (kd of : Int) (w : World) (hg : RdN w G nG cG .i64 gl) (hn : nG = s.buses.length) (h1 : (s.buses.length : Int) ≤ 9223372036854775807) (h2 : (s.lines.length : Int) ≤ 9223372036854775807) :
  Calls Tryz.prog 109 #[.agg #[Value.string s.nm, Value.slice s.aB s.buses.length s.cB, Value.slice s.aL s.lines.length s.cL, Value.slice s.aS s.srcs.length s.cS, Value.slice s.aY s.bays.length s.cY, Value.slice p.aC p.closed.length p.cC, Value.slice p.aK p.rows.length p.cK, Value.slice G nG cG], .agg #[.int .i64 kd, .int .i64 of]] w fun e w' => e = .returned (.tuple #[.agg #[.int .i64 (ndZ s gl kd of).1, .int .i64 (ndZ s gl kd of).2.1], .bool (ndZ s gl kd of).2.2]) ∧ Q w w' := by
 have HG := hh hg
 obtain ⟨nB, eB⟩ : ∃ n, s.buses.length = n := ⟨_, rfl⟩
 obtain ⟨nL, eL⟩ : ∃ n, s.lines.length = n := ⟨_, rfl⟩
 have DE : ndZ s gl kd of = if kd = 1 ∧ 0 ≤ of ∧ of < (nB : Int) then (1, gl.getD of.toNat 0, true) else if kd = 2 ∧ 0 ≤ of ∧ of < (nL : Int) then (2, of, true) else (0, 0, false) := by unfold ndZ; rw [eB, eL]
 rw [eB] at h1 hn
 rw [eL] at h2
 subst hn
 have GR : Hid (∀ (w' : World) (b : Nat), Q w w' → b < nG → Calls Tryz.prog 108 #[.agg #[Value.string s.nm, Value.slice s.aB s.buses.length s.cB, Value.slice s.aL s.lines.length s.cL, Value.slice s.aS s.srcs.length s.cS, Value.slice s.aY s.bays.length s.cY, Value.slice p.aC p.closed.length p.cC, Value.slice p.aK p.rows.length p.cK, Value.slice G nG cG], .int .i64 b] w' fun e w'' => e = .returned (.agg #[.int .i64 1, .int .i64 (gl.getD b 0)]) ∧ Q w' w'') := hh fun w' b hq hb => vgroup_c s p G nG cG gl b w' (hg.q hq) (by omega)
 rw [eB, eL] at GR ⊢
 have b0 : (0 : Int) ≤ (nG : Int) := by omega
 have l0 : (0 : Int) ≤ (nL : Int) := by omega
 clear hg eB eL
 by_cases c1 : kd = 1 ∧ 0 ≤ of ∧ of < (nG : Int)
 ·rw [DE, if_pos c1]
  obtain ⟨rfl, o0, o1⟩ := c1
  obtain ⟨b, rfl⟩ := Int.eq_ofNat_of_zero_le o0
  have hb : b < nG := by omega
  dsimp only
  rw [Int.toNat_natCast]
  clear DE
  go_enter Tryz.func109, Tryz.ntmps109
  go_wp2_with (first | (go_at_call 108; (with_reducible refine (GR.o _ b Q.i hb).q ?_); intro kg) | fail)
  refine bodyPost_ret (v := .tuple #[.agg #[.int .i64 1, .int .i64 (gl.getD b 0)], .bool true]) (by simp [results, Tryz.results109, go_sem]) rfl ⟨rfl, ?_⟩
  exact Q.i
 have hw : (¬ kd = 1) ∨ (kd = 1 ∧ ¬ 0 ≤ of) ∨ (kd = 1 ∧ 0 ≤ of ∧ ¬ of < (nG : Int)) := by omega
 rw [if_neg c1] at DE
 clear c1 GR
 by_cases c2 : kd = 2 ∧ 0 ≤ of ∧ of < (nL : Int)
 ·rw [DE, if_pos c2]
  obtain ⟨rfl, o0, o1⟩ := c2
  dsimp only
  clear DE hw
  go_enter Tryz.func109, Tryz.ntmps109
  go_wp2_with fail
  refine bodyPost_ret (v := .tuple #[.agg #[.int .i64 2, .int .i64 of], .bool true]) (by simp [results, Tryz.results109, go_sem]) rfl ⟨rfl, ?_⟩
  exact Q.i
 have hw2 : (¬ kd = 2) ∨ (kd = 2 ∧ ¬ 0 ≤ of) ∨ (kd = 2 ∧ 0 ≤ of ∧ ¬ of < (nL : Int)) := by omega
 rw [DE, if_neg c2]
 dsimp only
 clear DE c2
 have hw3 : (¬ kd = 1 ∧ ¬ kd = 2) ∨ (kd = 1 ∧ ¬ 0 ≤ of) ∨ (kd = 1 ∧ 0 ≤ of ∧ ¬ of < (nG : Int)) ∨ (kd = 2 ∧ ¬ 0 ≤ of) ∨ (kd = 2 ∧ 0 ≤ of ∧ ¬ of < (nL : Int)) := by omega
 clear hw hw2
 rcases hw3 with ⟨d1, d2⟩ | ⟨rfl, d1⟩ | ⟨rfl, d1, d2⟩ | ⟨rfl, d1⟩ | ⟨rfl, d1, d2⟩
 ·have e1 : (kd == 1) = false := by simpa using d1
  have e2 : (kd == 2) = false := by simpa using d2
  clear d1 d2
  go_enter Tryz.func109, Tryz.ntmps109
  go_wp2_with fail
  refine bodyPost_ret (v := .tuple #[.agg #[.int .i64 0, .int .i64 0], .bool false]) (by simp [results, Tryz.results109, go_sem]) rfl ⟨rfl, ?_⟩
  exact Q.i
 all_goals
  go_enter Tryz.func109, Tryz.ntmps109
  go_wp2_with fail
  refine bodyPost_ret (v := .tuple #[.agg #[.int .i64 0, .int .i64 0], .bool false]) (by simp [results, Tryz.results109, go_sem]) rfl ⟨rfl, ?_⟩
  exact Q.i
end Go.Proofs.YtcjflafjmdfanaaGreatDoor
