
/- BusbarTrips, walked: it returns true. -/
import Derived.Test.YtcjflafjmdfanaaGreatDoorBv24
import Derived.Test.YtcjflafjmdfanaaGreatDoorBv28
import Derived.Test.YtcjflafjmdfanaaGreatDoorBv11
import Derived.Test.YtcjflafjmdfanaaGreatDoorBv40
import Derived.Test.YtcjflafjmdfanaaGreatDoorBv35
import Derived.Test.YtcjflafjmdfanaaGreatDoorBv37
set_option maxHeartbeats 64000000
set_option maxRecDepth 100000
set_option linter.unusedSimpArgs false
set_option linter.unusedVariables false
/- What settings and Check of the reference 34 return. -/
namespace Go.Proofs.YtcjflafjmdfanaaGreatDoor
open Go.RowKit Go.Sub
attribute [local go_sem ↓] Go.wp_at_zero Go.wp_at_succ
theorem r34set_c (cs : Array Value) (r : Rel) [hR : RelC cs r] (w : World) :
  Calls Tryz.prog 24 #[.agg cs] w fun e w' => e = .returned (.bool (usB r)) ∧ Q w w' := by
 have h1 := hR.dm
 have h2 := hR.nu
 have h3 := hR.de
 have h4 := hR.hm
 unfold usB
 generalize r.dm = dm at *
 generalize r.nu = nu at *
 generalize r.de = de at *
 generalize r.hm = hm at *
 clear hR
 go_enter Tryz.func24, Tryz.ntmps24
 go_wp2_with fail
 all_goals
  go_ret
  refine ⟨?_, Q.i⟩
  (simp_all) <;> (first | rfl | omega)
theorem r34check_c (s : Sta) (p : Pos) (cs : Array Value) (r : Rel) [hR : RelC cs r] (aW : Option Addr) (nW cW : Nat) (W : List Int) (aG : Option Addr) (nG cG : Nat) (G : List Bool) (nF : Int) (w : World) (hs : StAt w s) (hp : PosAt w p) (hW : WvAt w aW nW cW W) (hG : GdAt w aG nG cG G) :
  Calls Tryz.prog 10 #[.agg #[Value.string s.nm, Value.slice s.aB s.buses.length s.cB, Value.slice s.aL s.lines.length s.cL, Value.slice s.aS s.srcs.length s.cS, Value.slice s.aY s.bays.length s.cY], .agg #[Value.slice p.aC p.closed.length p.cC, Value.slice p.aK p.rows.length p.cK], .bool true, .agg cs, .slice aW nW cW, .slice aG nG cG, .int .i64 nF] w fun e w' => e = .returned (.int .i64 (seE s p r W G nW nG nF)) ∧ Q w w' := by
 have c1 := hR.kd
 have US := hh fun w => r34set_c cs r w
 have R5 := hh fun (w' : World) (hq : Q w w') => r5check_c s w' (hs.q hq)
 have R6 := hh fun (w' : World) (hq : Q w w') => r6check_c s p w' (hs.q hq) (hp.q hq)
 have HW := hh hW
 have HG := hh hG
 have HE : Hid (seE s p r W G nW nG nF = if (if stE s = 0 then psE s p else stE s) = 0 then ckE r W G s.bays.length nW nG nF else (if stE s = 0 then psE s p else stE s)) := hh rfl
 have h16 : stE s = 0 → s.bays.length ≤ 16 := fun h1 => by
  have := (stE_parts h1).1
  unfold stBad at this
  omega
 generalize seE s p r W G nW nG nF = C at HE ⊢
 obtain ⟨aY, eA⟩ : ∃ a, s.aY = a := ⟨_, rfl⟩
 obtain ⟨nY, eY⟩ : ∃ n, s.bays.length = n := ⟨_, rfl⟩
 rw [eY] at HE h16
 rw [eA, eY] at R5 R6
 rw [eA, eY]
 have HC : Hid (ckE r W G nY nW nG nF = if r.kd = 4 then (if usB r = true then (if nW = nY ∧ nG = nY ∧ nF = (nY : Int) then fstE (phE W G) nW else 3) else 2) else 10) := hh rfl
 generalize ckE r W G nY nW nG nF = D at HC HE
 generalize usB r = u at US HC
 generalize stE s = S at R5 HE h16
 generalize psE s p = P at R6 HE
 clear hs hp hW hG eY eA
 by_cases e1 : S = 0
 rotate_left
 ·have ES : Hid (C = S) := hh (HE.o.trans (by rw [if_neg e1, if_neg e1]))
  have h1 : (S != 0) = true := by simpa using e1
  have h2 : (S == 0) = false := by simpa using e1
  clear HE HC h16
  go_enter Tryz.func10, Tryz.ntmps10
  go_wp2_with (first | (go_at_call 22; (with_reducible refine (R5.o _ Q.i).q ?_); intro k5) | (go_at_call 23; (with_reducible refine (R6.o _ Q.i).q ?_); intro k6) | (go_at_call 24; (with_reducible refine (US.o _).q ?_); intro ku) | fail)
  go_ret
  exact ⟨by rw [ES.o]; first | done | rfl, Q.i⟩
 subst e1
 by_cases e2 : P = 0
 rotate_left
 ·have EP : Hid (C = P) := hh (HE.o.trans (by rw [if_pos rfl, if_neg e2]))
  have h2 : (P != 0) = true := by simpa using e2
  clear HE HC h16
  go_enter Tryz.func10, Tryz.ntmps10
  go_wp2_with (first | (go_at_call 22; (with_reducible refine (R5.o _ Q.i).q ?_); intro k5) | (go_at_call 23; (with_reducible refine (R6.o _ Q.i).q ?_); intro k6) | (go_at_call 24; (with_reducible refine (US.o _).q ?_); intro ku) | fail)
  go_ret
  exact ⟨by rw [EP.o]; first | done | rfl, Q.i⟩
 subst e2
 have HD : Hid (C = D) := hh (HE.o.trans rfl)
 have HC0 := hh (HD.o.trans HC.o)
 have h1000 : nY < 1000 := by have := h16 rfl; omega
 clear HD HC HE h16 D
 by_cases h4 : r.kd = 4
 rotate_left
 ·have e4 : (r.kd != 4) = true := by simpa using h4
  have HC1 := hh (HC0.o.trans (if_neg h4))
  clear HC0 h4
  generalize r.kd = kd at c1 e4
  go_enter Tryz.func10, Tryz.ntmps10
  go_wp2_with (first | (go_at_call 22; (with_reducible refine (R5.o _ Q.i).q ?_); intro k5) | (go_at_call 23; (with_reducible refine (R6.o _ Q.i).q ?_); intro k6) | (go_at_call 24; (with_reducible refine (US.o _).q ?_); intro ku) | fail)
  go_ret
  exact ⟨by rw [HC1.o]; first | done | rfl, Q.i⟩
 have e4 : (r.kd != 4) = false := by simpa using h4
 have HC1 := hh (HC0.o.trans (if_pos h4))
 clear HC0 h4
 generalize r.kd = kd at c1 e4
 cases u with
 | false =>
  have HC2 := hh (HC1.o.trans (if_neg (by decide)))
  clear HC1
  go_enter Tryz.func10, Tryz.ntmps10
  go_wp2_with (first | (go_at_call 22; (with_reducible refine (R5.o _ Q.i).q ?_); intro k5) | (go_at_call 23; (with_reducible refine (R6.o _ Q.i).q ?_); intro k6) | (go_at_call 24; (with_reducible refine (US.o _).q ?_); intro ku) | fail)
  go_ret
  exact ⟨by rw [HC2.o]; first | done | rfl, Q.i⟩
 | true =>
  have HC2 := hh (HC1.o.trans (if_pos rfl))
  clear HC1
  by_cases i1 : nW = nY
  rotate_left
  ·have HC3 := hh (HC2.o.trans (if_neg fun h => i1 h.1))
   clear HC2
   have j1 : ((nW : Int) != (nY : Int)) = true := by simpa using (by omega : ¬ (nW : Int) = (nY : Int))
   clear i1
   go_enter Tryz.func10, Tryz.ntmps10
   go_wp2_with (first | (go_at_call 22; (with_reducible refine (R5.o _ Q.i).q ?_); intro k5) | (go_at_call 23; (with_reducible refine (R6.o _ Q.i).q ?_); intro k6) | (go_at_call 24; (with_reducible refine (US.o _).q ?_); intro ku) | fail)
   go_ret
   exact ⟨by rw [HC3.o]; first | done | rfl, Q.i⟩
  by_cases i2 : nG = nY
  rotate_left
  ·have HC3 := hh (HC2.o.trans (if_neg fun h => i2 h.2.1))
   clear HC2
   subst i1
   have j2 : ((nG : Int) != (nW : Int)) = true := by simpa using (by omega : ¬ (nG : Int) = (nW : Int))
   clear i2
   go_enter Tryz.func10, Tryz.ntmps10
   go_wp2_with (first | (go_at_call 22; (with_reducible refine (R5.o _ Q.i).q ?_); intro k5) | (go_at_call 23; (with_reducible refine (R6.o _ Q.i).q ?_); intro k6) | (go_at_call 24; (with_reducible refine (US.o _).q ?_); intro ku) | fail)
   go_ret
   exact ⟨by rw [HC3.o]; first | done | rfl, Q.i⟩
  by_cases i3 : nF = (nY : Int)
  rotate_left
  ·have HC3 := hh (HC2.o.trans (if_neg fun h => i3 h.2.2))
   clear HC2
   subst i1 i2
   have j3 : (nF != (nG : Int)) = true := by simpa using i3
   clear i3
   go_enter Tryz.func10, Tryz.ntmps10
   go_wp2_with (first | (go_at_call 22; (with_reducible refine (R5.o _ Q.i).q ?_); intro k5) | (go_at_call 23; (with_reducible refine (R6.o _ Q.i).q ?_); intro k6) | (go_at_call 24; (with_reducible refine (US.o _).q ?_); intro ku) | fail)
   go_ret
   exact ⟨by rw [HC3.o]; first | done | rfl, Q.i⟩
  have HC3 := hh (HC2.o.trans (if_pos ⟨i1, i2, i3⟩))
  clear HC2
  subst i1 i2 i3
  have n0 : (0 : Int) ≤ (nG : Int) := by omega
  go_enter Tryz.func10, Tryz.ntmps10
  go_wp2_with (first | (go_at_call 22; (with_reducible refine (R5.o _ Q.i).q ?_); intro k5) | (go_at_call 23; (with_reducible refine (R6.o _ Q.i).q ?_); intro k6) | (go_at_call 24; (with_reducible refine (US.o _).q ?_); intro ku) | fail)
  go_loopw [65] (fun i wr => ∃ k : Nat, i = .int .i64 k ∧ k ≤ nG ∧ Hid (∀ j, j < k → phE W G j = 0) ∧ Q (((w.alloc (Obj.cells #[Value.string s.nm, Value.slice s.aB s.buses.length s.cB, Value.slice s.aL s.lines.length s.cL, Value.slice s.aS s.srcs.length s.cS, Value.slice aY nG s.cY] 27)).alloc (Obj.cells #[Value.slice p.aC p.closed.length p.cC, Value.slice p.aK p.rows.length p.cK] 31)).alloc (Obj.cells cs 44)) wr) (fun i _ => nG - (intOf i).toNat)
  case atStart => exact ⟨0, rfl, Nat.zero_le _, hh (fun j hj => absurd hj (Nat.not_lt_zero _)), (by repeat' (first | exact Q.refl _ | refine Q.alloc ?_ _ | refine Q.jk ?_ _ | refine Q.drew ?_))⟩
  case round =>
   obtain ⟨k, rfl, hk, HZ, kk, rfl⟩ := hrel
   by_cases hlt : k < nG
   rotate_left
   ·obtain rfl : nG = k := by omega
    have EC : Hid (C = 0) := hh (by rw [HC3.o]; exact fstE_none HZ.o)
    go_wp2_with fail
    go_ret
    exact ⟨by rw [EC.o]; first | done | rfl, Q.i⟩
   obtain ⟨g, o, rfl, og, hc⟩ := HW.o.at_ (by omega)
   obtain ⟨g2, o2, rfl, og2, hc2⟩ := HG.o.at_ (by omega)
   have a1 := hc2.o k hlt
   have EP : Hid (phE W G k = if G.getD k false = true then fstE (fun ph => chkE (wvF W k ph)) 3 else 0) := hh rfl
   have k0 : (0 : Int) ≤ (k : Int) := by omega
   have k1 : (k : Int) < (nG : Int) := by omega
   generalize G.getD k false = b at a1 EP
   clear hc2
   go_wp2_with fail
   go_loopw [68] (fun i wr => ∃ ph : Nat, i = .int .i64 ph ∧ ph ≤ 3 ∧ Hid (∀ j, j < ph → b = true → chkE (wvF W k j) = 0) ∧ Q (((w.alloc (Obj.cells #[Value.string s.nm, Value.slice s.aB s.buses.length s.cB, Value.slice s.aL s.lines.length s.cL, Value.slice s.aS s.srcs.length s.cS, Value.slice aY nG s.cY] 27)).alloc (Obj.cells #[Value.slice p.aC p.closed.length p.cC, Value.slice p.aK p.rows.length p.cK] 31)).alloc (Obj.cells cs 44)) wr) (fun i _ => 3 - (intOf i).toNat)
   case atStart => exact ⟨0, rfl, Nat.zero_le _, hh (fun j hj => absurd hj (Nat.not_lt_zero _)), (by repeat' (first | exact Q.refl _ | refine Q.alloc ?_ _ | refine Q.jk ?_ _ | refine Q.drew ?_))⟩
   case round =>
    obtain ⟨ph, rfl, hph, HJ, k2, rfl⟩ := hrel
    by_cases hlp : ph < 3
    rotate_left
    ·obtain rfl : ph = 3 := by omega
     have EK : Hid (phE W G k = 0) := hh (by
      rw [EP.o]
      split
      ·rename_i h; exact fstE_none fun j hj => HJ.o j hj h
      ·rfl)
     clear HJ EP
     go_wp2_with fail
     go_roundw
     case rel =>
      refine ⟨k + 1, by go_num, by omega, hh (fun i hi => ?_), Q.i⟩
      by_cases e : i = k
      ·subst e; exact EK.o
      exact HZ.o i (by omega)
     case measure => simp [intOf] <;> omega
    have p0 : (0 : Int) ≤ (ph : Int) := by omega
    have p1 : (ph : Int) < 3 := by omega
    cases b with
    | false =>
     go_wp2_with fail
     go_roundw
     case rel => exact ⟨ph + 1, by go_num, by omega, hh (fun i _ h => by cases h), Q.i⟩
     case measure => simp [intOf] <;> omega
    | true =>
     have EP1 := hh (EP.o.trans (if_pos rfl))
     clear EP
     have HWN := hh (hc.o k ph hlt (by omega))
     obtain ⟨E, eE⟩ : ∃ E, chkE (wvF W k ph) = E := ⟨_, rfl⟩
     have EE := hh eE
     have PH := hh fun w' hq => rcheck_any g (o + k * 72 + ph * 12) 12 (wvF W k ph) w' (HWN.o.q hq)
     rw [eE] at PH
     clear eE HWN
     by_cases hE : E = 0
     rotate_left
     ·have hE' : (E != 0) = true := by simpa using hE
      have EC : Hid (C = E) := hh (by
       have h1 : fstE (fun ph => chkE (wvF W k ph)) 3 = E := (fstE_hit (fun j hj => HJ.o j hj rfl) (by rw [EE.o]; exact hE) hlp).trans EE.o
       rw [HC3.o, fstE_hit HZ.o (by rw [EP1.o, h1]; exact hE) hlt, EP1.o, h1])
      go_wp2_with (first | (go_at_call 25; (with_reducible refine (PH.o _ Q.i).p ?_)) | fail)
      go_ret
      exact ⟨by rw [EC.o]; first | done | rfl, Q.i⟩
     have hE' : (E != 0) = false := by simpa using hE
     go_wp2_with (first | (go_at_call 25; (with_reducible refine (PH.o _ Q.i).p ?_)) | fail)
     go_roundw
     case rel =>
      refine ⟨ph + 1, by go_num, by omega, hh (fun i hi _ => ?_), Q.i⟩
      by_cases e : i = ph
      ·subst e; rw [EE.o]; exact hE
      exact HJ.o i (by omega) (by simp)
     case measure => simp [intOf] <;> omega
theorem tr_walk (s : Sta) (p : Pos) (cs : Array Value) (r : Rel) [hR : RelC cs r] [h53 : Ones53 cs] (aW : Option Addr) (nW cW : Nat) (W : List Int) (aG : Option Addr) (nG cG : Nat) (G : List Bool) (aF : Option Addr) (nF cF : Nat) (FL : List Bool) (w : World)
  (hr : RootsOK w) (hst : StAt w s) (hps : PosAt w p) (hwv : WvAt w aW nW cW W) (hgd : GdAt w aG nG cG G) (hfl : GdAt w aF nF cF FL) :
  Calls Tryz.prog 3 #[.agg (caseC (Value.string s.nm) (Value.slice s.aB s.buses.length s.cB) (Value.slice s.aL s.lines.length s.cL) (Value.slice s.aS s.srcs.length s.cS) (Value.slice s.aY s.bays.length s.cY) (Value.slice p.aC p.closed.length p.cC) (Value.slice p.aK p.rows.length p.cK) cs (Value.slice aW nW cW) (Value.slice aG nG cG)), .slice aF nF cF] w fun e w' => e = .returned (.bool true) ∧ Q w w' := by
 have SM := hh fun w' : World => small_c s p cs r aW nW cW aG nG cG w'
 have TRP := hh fun (w' : World) (hq : Q w w') => trips_c s p cs r aW nW cW W aG nG cG G aF nF cF FL w' (hr.q hq) (hst.q hq) (hps.q hq) (hwv.q hq) (hgd.q hq) (hfl.q hq)
 have CHK := hh fun (w' : World) (hq : Q w w') => r34check_c s p cs r aW nW cW W aG nG cG G nF w' (hst.q hq) (hps.q hq) (hwv.q hq) (hgd.q hq)
 have R34 : Hid (seE s p r W G nW nG nF = 0 → s.bays.length ≤ 16 ∧ ∀ w', Q w w' → Calls Tryz.prog 11 #[.agg #[Value.string s.nm, Value.slice s.aB s.buses.length s.cB, Value.slice s.aL s.lines.length s.cL, Value.slice s.aS s.srcs.length s.cS, Value.slice s.aY s.bays.length s.cY], .agg #[Value.slice p.aC p.closed.length p.cC, Value.slice p.aK p.rows.length p.cK], .agg cs, .slice aW nW cW, .slice aG nG cG, .slice aF nF cF] w' (RetTg (tpB s p FL (prS s W G r)) s.bays.length w')) := hh fun hE => by
  have h5 : orE (orE (stE s) (psE s p)) (ckE r W G s.bays.length nW nG nF) = 0 := hE
  obtain ⟨h6, h7⟩ := orE_zero h5
  obtain ⟨h1, h2⟩ := orE_zero h6
  obtain ⟨_, hu, e1, e2, e3, hw⟩ := ckE_zero h7
  have e3' : nF = s.bays.length := by omega
  refine ⟨by have hY := (stE_parts h1).1; unfold stBad at hY; omega, fun w' hq => ?_⟩
  subst e1
  subst e2
  subst e3'
  exact r34trips_c s p cs r aW cW W aG cG G aF cF FL w' ⟨hst.q hq, hps.q hq, h1, h2⟩ (hwv.q hq) (hgd.q hq) (hfl.q hq) hu hw
 unfold RetTr at TRP
 unfold RetTg at R34
 have HR := hh hr
 have f0 : (0 : Int) ≤ (nF : Int) := by omega
 generalize tpB s p FL (prS s W G r) = TP at TRP R34
 generalize seE s p r W G nW nG nF = E at TRP CHK R34
 clear hst hps hwv hgd hfl
 go_enter Tryz.func3, Tryz.ntmps3
 go_upto_region 5 with (first | (go_at_call 7; (with_reducible refine (SM.o _).mono ?_); rintro e w' ⟨b, rfl, ⟨ks0, rfl⟩, hsm⟩) | (go_at_call 8; (with_reducible refine (known34_c _ (hr.q Q.i)).q ?_); intro kz) | (go_at_call 9; (with_reducible refine (TRP.o _ Q.i).mono ?_); rintro e w' ⟨A, n, c, rfl, ⟨kT, rfl⟩, hno, hyes⟩) | (go_at_call 10; (with_reducible refine (CHK.o _ Q.i).q ?_); intro kC) | fail)
 all_goals (try (go_ret; exact ⟨rfl, Q.i⟩))
 by_cases hE : E = 0
 rotate_left
 ·have hn := hno hE
  subst hn
  have z' : (E == 0) = false := by simpa using hE
  clear R34 hno hyes TRP CHK SM hE
  go_wp2_with fail
  refine wp_loop_rounds 1 ?_
  rw [rounds_succ]
  go_wp2_with (first | (go_at_call 8; (with_reducible refine (known34_c _ (hr.q Q.i)).q ?_); intro kz) | fail)
  go_ret
  exact ⟨rfl, Q.i⟩
 subst hE
 obtain ⟨rfl, g, rfl, hba⟩ := hyes rfl
 have HBA0 := hh hba
 have HR3 := hh (R34.o rfl).2
 have h16 := (R34.o rfl).1
 have n0 : (0 : Int) ≤ (s.bays.length : Int) := by omega
 clear R34 hno hyes hba TRP CHK SM
 go_upto_region 12 with (first | (go_at_call 11; (with_reducible refine (HR3.o _ Q.i).mono ?_); rintro e w' ⟨g2, rfl, ⟨kR, rfl⟩, hge, hbb⟩) | fail)
 refine wp_world ?_
 intro U eU
 have HQU : Hid (Q w U) := hh (by rw [eU]; exact Q.i)
 have HRU : Hid (RootsOK U) := hh (HR.o.q HQU.o)
 have HA : Hid (HB U g (arrF (fun b => .bool (TP b)) s.bays.length) 4) := hh (by rw [eU]; exact HBA0.o.q Q.i)
 have HB2 : Hid (HB U g2 (arrF (fun b => .bool (TP b)) s.bays.length) 4) := hh (by rw [eU]; exact hbb.q Q.i)
 clear eU hbb hge HBA0 HR3
 go_wp2_with fail
 go_loopw [71] (fun i wr => ∃ j : Nat, i = .int .i64 j ∧ j ≤ s.bays.length ∧ Q U wr) (fun i _ => s.bays.length - (intOf i).toNat)
 case atStart => exact ⟨0, rfl, Nat.zero_le _, (by repeat' (first | exact Q.refl _ | refine Q.alloc ?_ _ | refine Q.jk ?_ _ | refine Q.drew ?_))⟩
 case round =>
 obtain ⟨j, rfl, hj, kj, rfl⟩ := hrel
 by_cases hlt : j < s.bays.length
 rotate_left
 ·obtain rfl : j = s.bays.length := by omega
  go_wp2_with (first | (go_at_call 8; (with_reducible refine (known34_c _ (HRU.o.q Q.i)).q ?_); intro kz) | fail)
  go_ret
  exact ⟨rfl, HQU.o.trans Q.i⟩
 have j0 : (0 : Int) ≤ (j : Int) := by omega
 have j1 : (j : Int) < (s.bays.length : Int) := by omega
 have x1 := HA.o.cell j
 have x2 := HB2.o.cell j
 rw [arrF_get _ hlt] at x1 x2
 have o1 := HA.o.old
 have o2 := HB2.o.old
 generalize TP j = bj at x1 x2
 cases bj
 all_goals
  go_wp2_with fail
  go_region
  go_wp2_with fail
  go_roundw
  case rel => exact ⟨j + 1, by go_num, by omega, Q.i⟩
  case measure => simp [intOf] <;> omega
end Go.Proofs.YtcjflafjmdfanaaGreatDoor
