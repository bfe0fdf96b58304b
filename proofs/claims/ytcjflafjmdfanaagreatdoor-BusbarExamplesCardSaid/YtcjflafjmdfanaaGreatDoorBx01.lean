
/- What Of of the reference 33 returns: the sections of the bus image, or the first error. -/
import Derived.Test.YtcjflafjmdfanaaGreatDoorBv02
import Derived.Test.YtcjflafjmdfanaaGreatDoorBv11
import Derived.Test.YtcjflafjmdfanaaGreatDoorBv10
import Derived.Test.YtcjflafjmdfanaaGreatDoorBv03
import Derived.Test.YtcjflafjmdfanaaGreatDoorBv24
import Derived.Test.YtcjflafjmdfanaaGreatDoorBv23
import Derived.Test.YtcjflafjmdfanaaGreatDoorBv33
import Derived.Test.YtcjflafjmdfanaaGreatDoorBv32
import Derived.Test.YtcjflafjmdfanaaGreatDoorBv20
import Derived.Test.YtcjflafjmdfanaaGreatDoorBv22
set_option maxHeartbeats 64000000
set_option maxRecDepth 100000
set_option linter.unusedSimpArgs false
set_option linter.unusedVariables false
/- Small on a number, and what turns, conjugates and sums come to: plain laws. -/
namespace Go.Sub
theorem Cy.balanced (x : Cy) : (x.add (x.turn 4)).add (x.turn 8) = ⟨0, 0, 0, 0⟩ := by
 apply Cy.ext' <;> simp only [Cy.turn, Cy.add, Cy.tn, Int.reduceMod, Int.reduceToNat] <;> omega
end Go.Sub
namespace Go.Proofs.YtcjflafjmdfanaaGreatDoor
open Go.RowKit Go.Sub
end Go.Proofs.YtcjflafjmdfanaaGreatDoor
/- Plain laws of harmonics. No program in sight. -/
namespace Go.Sub
theorem sumC_add (y z : Nat → Cy) (n : Nat) : sumC (fun k => (y k).add (z k)) n = (sumC y n).add (sumC z n) := by
 induction n with
 | zero => apply Cy.ext' <;> simp [sumC, Cy.add]
 | succ n ih =>
  show (sumC (fun k => (y k).add (z k)) n).add ((y n).add (z n)) = ((sumC y n).add (y n)).add ((sumC z n).add (z n))
  rw [ih]
  apply Cy.ext' <;> simp only [Cy.add] <;> omega
theorem sumC_scl (y : Nat → Cy) (c : Int) (n : Nat) : sumC (fun k => (y k).scl c) n = (sumC y n).scl c := by
 induction n with
 | zero => apply Cy.ext' <;> simp [sumC, Cy.scl]
 | succ n ih =>
  show (sumC (fun k => (y k).scl c) n).add ((y n).scl c) = ((sumC y n).add (y n)).scl c
  rw [ih]
  apply Cy.ext' <;> simp only [Cy.add, Cy.scl] <;> grind
theorem sumC_congr {y z : Nat → Cy} (n : Nat) (h : ∀ k, k < n → y k = z k) : sumC y n = sumC z n := by
 induction n with
 | zero => rfl
 | succ n ih =>
  show (sumC y n).add (y n) = (sumC z n).add (z n)
  rw [ih fun k hk => h k (by omega), h n (by omega)]
theorem sumC_zero (n : Nat) : sumC (fun _ => ⟨0, 0, 0, 0⟩) n = ⟨0, 0, 0, 0⟩ := by
 induction n with
 | zero => rfl
 | succ n ih => show (sumC _ n).add _ = _; rw [ih]; rfl
theorem harm_add (x y : Nat → Int) (h : Int) : harm (fun k => x k + y k) h = (harm x h).add (harm y h) := by
 unfold harm
 rw [← sumC_add]
 refine sumC_congr _ fun k _ => ?_
 apply Cy.ext' <;> simp only [hterm, Cy.scl, Cy.add] <;> grind
theorem harm_scl (x : Nat → Int) (c h : Int) : harm (fun k => c * x k) h = (harm x h).scl c := by
 unfold harm
 rw [← sumC_scl]
 refine sumC_congr _ fun k _ => ?_
 apply Cy.ext' <;> simp only [hterm, Cy.scl] <;> grind
-- turning
end Go.Sub
/- The order of the numbers a + b * sqrt(3). No program in sight. -/
namespace Go.Sub
theorem sgn_neg {n : Int} (h : n < 0) : sgn n = -1 := if_pos h
theorem sgn_zero : sgn 0 = 0 := rfl
end Go.Sub
/- What Around of the bus image, and place, Sections and Overall of package busbar return. -/
namespace Go.Proofs.YtcjflafjmdfanaaGreatDoor
open Go.RowKit Go.Sub
attribute [local go_sem ↓] Go.wp_at_zero Go.wp_at_succ
theorem secs_c (s : Sta) (p : Pos) (cs : Array Value) (r : Rel) [hR : RelC cs r] (aW : Option Addr) (nW cW : Nat) (W : List Int) (aG : Option Addr) (nG cG : Nat) (G : List Bool) (w : World) (hr : RootsOK w) (hs : StAt w s) (hp : PosAt w p) (hW : WvAt w aW nW cW W) (hG : GdAt w aG nG cG G) :
  Calls Tryz.prog 14 #[.agg #[Value.string s.nm, Value.slice s.aB s.buses.length s.cB, Value.slice s.aL s.lines.length s.cL, Value.slice s.aS s.srcs.length s.cS, Value.slice s.aY s.bays.length s.cY], .agg #[Value.slice p.aC p.closed.length p.cC, Value.slice p.aK p.rows.length p.cK], .agg cs, .slice aW nW cW, .slice aG nG cG] w (RetSe (seE s p r W G nW nG s.bays.length) (imI s p) (prS s W G r) w) := by
 have PLC := hh fun (w' : World) (hq : Q w w') => place_c s p w' (hs.q hq) (hp.q hq)
 have HO : Hid (seE s p r W G nW nG s.bays.length = if orE (stE s) (psE s p) = 0 then ckE r W G s.bays.length nW nG s.bays.length else orE (stE s) (psE s p)) := hh rfl
 generalize seE s p r W G nW nG s.bays.length = E at HO ⊢
 by_cases h1 : orE (stE s) (psE s p) = 0
 rotate_left
 ·have HE := hh (HO.o.trans (if_neg h1))
  have HNE : Hid (E ≠ 0) := hh (by rw [HE.o]; exact h1)
  generalize orE (stE s) (psE s p) = e3 at PLC HE h1
  have h2' : (e3 != 0) = true := by simpa using h1
  unfold RetSe
  clear HO hs hp hW hG h1
  go_enter Tryz.func14, Tryz.ntmps14
  go_wp2_with (first | (go_at_call 18; (with_reducible refine (PLC.o _ Q.i).q ?_); intro k0) | fail)
  go_ret2
  exact .inl ⟨HNE.o, by rw [HE.o]; rfl, Q.i⟩
 obtain ⟨e1, e2⟩ := orE_zero h1
 have hY16 : s.bays.length ≤ 16 := by
  have := (stE_parts e1).1
  unfold stBad at this
  omega
 have CKC := hh fun (w' : World) (hq : Q w w') => check_c s cs r aW nW cW W aG nG cG G s.bays.length w' (hW.q hq) (hG.q hq) (by omega)
 have HE := hh (HO.o.trans (if_pos h1))
 rw [h1] at PLC
 by_cases h2 : ckE r W G s.bays.length nW nG s.bays.length = 0
 rotate_left
 ·have HNE : Hid (E ≠ 0) := hh (by rw [HE.o]; exact h2)
  generalize ckE r W G s.bays.length nW nG s.bays.length = e3 at CKC HE h2
  have h2' : (e3 != 0) = true := by simpa using h2
  unfold RetSe
  clear HO hs hp hW hG h1 h2 e1 e2
  go_enter Tryz.func14, Tryz.ntmps14
  go_wp2_with (first | (go_at_call 18; (with_reducible refine (PLC.o _ Q.i).q ?_); intro k0) | (go_at_call 19; (with_reducible refine (CKC.o _ Q.i).q ?_); intro k1) | fail)
  go_ret2
  exact .inl ⟨HNE.o, by rw [HE.o]; rfl, Q.i⟩
 obtain ⟨_, hu, rfl, rfl, _, hw⟩ := ckE_zero h2
 have SEC := hh fun (w' : World) (hq : Q w w') (hr : RootsOK w') => sections_c s p cs r aW cW W aG cG G w' hr ⟨hs.q hq, hp.q hq, e1, e2⟩ (hW.q hq) (hG.q hq) hu hw
 unfold RetPr at SEC
 unfold RetSe RetPr
 rw [h2] at CKC
 have HE0 := hh (HE.o.trans h2)
 generalize prS s W G r = PS at SEC ⊢
 generalize imI s p = IM at SEC ⊢
 clear HO HE hs hp hW hG hw hu h1 h2 e1 e2
 go_enter Tryz.func14, Tryz.ntmps14
 go_wp2_with (first | (go_at_call 18; (with_reducible refine (PLC.o _ Q.i).q ?_); intro k0) | (go_at_call 19; (with_reducible refine (CKC.o _ Q.i).q ?_); intro k1) | (go_at_call 20; (with_reducible refine (SEC.o _ Q.i (hr.q Q.i)).mono ?_); rintro e w' ⟨A, c, rs, rfl, ⟨k2, rfl⟩, hd, hpr⟩) | fail)
 go_ret2
 exact .inr ⟨HE0.o, _, _, rs, rfl, Q.i, hd, PrAt.q hpr Q.i⟩
theorem over_c (s : Sta) (cs : Array Value) (r : Rel) [hR : RelC cs r] (aW : Option Addr) (cW : Nat) (W : List Int) (aG : Option Addr) (cG : Nat) (G : List Bool) (w : World) (hr : RootsOK w) (hs : StAt w s) (h1 : stE s = 0) (hW : WvAt w aW s.bays.length cW W) (hG : GdAt w aG s.bays.length cG G) (h2 : ckE r W G s.bays.length s.bays.length s.bays.length s.bays.length = 0) :
  Calls Tryz.prog 17 #[.agg #[Value.string s.nm, Value.slice s.aB s.buses.length s.cB, Value.slice s.aL s.lines.length s.cL, Value.slice s.aS s.srcs.length s.cS, Value.slice s.aY s.bays.length s.cY], .agg cs, .slice aW s.bays.length cW, .slice aG s.bays.length cG] w fun e w' => e = .returned (.tuple #[.agg #[.bool (ovO s W G r 0), .bool (ovO s W G r 1), .bool (ovO s W G r 2)], .bool (cpB G (ovM s s.bays.length)), .int .i64 0]) ∧ Q w w' := by
 have hY16 : s.bays.length ≤ 16 := by
  have := (stE_parts h1).1
  unfold stBad at this
  omega
 obtain ⟨_, hu, _, _, _, hw⟩ := ckE_zero h2
 have SC := hh fun (w' : World) (hq : Q w w') => stcheck_c s w' (hs.q hq)
 have CKC := hh fun (w' : World) (hq : Q w w') => check_c s cs r aW s.bays.length cW W aG s.bays.length cG G s.bays.length w' (hW.q hq) (hG.q hq) (by omega)
 have OVC := hh fun (w' : World) (hq : Q w w') (hr : RootsOK w') => overall_c s cs r aW cW W aG cG G w' hr (hs.q hq) h1 (hW.q hq) (hG.q hq) hu hw
 rw [h1] at SC
 rw [h2] at CKC
 generalize ovO s W G r 0 = o0 at OVC ⊢
 generalize ovO s W G r 1 = o1 at OVC ⊢
 generalize ovO s W G r 2 = o2 at OVC ⊢
 generalize cpB G (ovM s s.bays.length) = o3 at OVC ⊢
 clear hs h1 hW hG h2 hu hw hY16
 go_enter Tryz.func17, Tryz.ntmps17
 go_wp2_with (first | (go_at_call 30; (with_reducible refine (SC.o _ Q.i).q ?_); intro k0) | (go_at_call 19; (with_reducible refine (CKC.o _ Q.i).q ?_); intro k1) | (go_at_call 31; (with_reducible refine (OVC.o _ Q.i (hr.q Q.i)).q ?_); intro k2) | fail)
 refine bodyPost_ret (v := .tuple #[.agg #[.bool o0, .bool o1, .bool o2], .bool o3, .int .i64 0]) (by simp [results, Tryz.results17, go_sem]) rfl ⟨rfl, Q.i⟩
end Go.Proofs.YtcjflafjmdfanaaGreatDoor
namespace Go.Sub
open Go
end Go.Sub
namespace Go.Proofs.YtcjflafjmdfanaaGreatDoor
open Go.RowKit Go.Sub
attribute [local go_sem ↓] Go.wp_at_zero Go.wp_at_succ
theorem r33of_c (s : Sta) (p : Pos) (w : World) (hs : StAt w s) (hp : PosAt w p) :
  Calls Tryz.prog 28 #[.agg #[Value.string s.nm, Value.slice s.aB s.buses.length s.cB, Value.slice s.aL s.lines.length s.cL, Value.slice s.aS s.srcs.length s.cS, Value.slice s.aY s.bays.length s.cY], .agg #[Value.slice p.aC p.closed.length p.cC, Value.slice p.aK p.rows.length p.cK]] w (RetOf (orE (stE s) (psE s p)) (imI s p) w) := by
 by_cases h1 : stE s = 0
 rotate_left
 ·have EE : Hid (orE (stE s) (psE s p) = stE s) := hh (if_neg h1)
  have C5 := hh fun (w' : World) (hq : Q w w') => r5check_c s w' (hs.q hq)
  unfold RetOf
  rw [EE.o]
  generalize stE s = E at C5 h1 ⊢
  have z' : (E != 0) = true := by simpa using h1
  have z'' : (E == 0) = false := by simpa using h1
  have HZ := hh h1
  clear hs hp h1 EE
  go_enter Tryz.func28, Tryz.ntmps28
  go_wp2_with (first | (go_at_call 22; (with_reducible refine (C5.o _ Q.i).q ?_); intro k0) | fail)
  go_ret2
  exact .inl ⟨HZ.o, rfl, Q.i⟩
 by_cases h2 : psE s p = 0
 ·exact (r33of_g s p w ⟨hs, hp, h1, h2⟩).mono fun _ _ h => .inr ⟨by rw [h1, h2]; rfl, h⟩
 have EE : Hid (orE (stE s) (psE s p) = psE s p) := hh (by rw [h1]; rfl)
 have C5 := hh fun (w' : World) (hq : Q w w') => r5check_c s w' (hs.q hq)
 have C6 := hh fun (w' : World) (hq : Q w w') => r6check_c s p w' (hs.q hq) (hp.q hq)
 rw [h1] at C5
 unfold RetOf
 rw [EE.o]
 generalize psE s p = E at C6 h2 ⊢
 have z' : (E != 0) = true := by simpa using h2
 have HZ := hh h2
 clear hs hp h1 h2 EE
 go_enter Tryz.func28, Tryz.ntmps28
 go_wp2_with (first | (go_at_call 22; (with_reducible refine (C5.o _ Q.i).q ?_); intro k0) | (go_at_call 23; (with_reducible refine (C6.o _ Q.i).q ?_); intro k1) | fail)
 go_ret2
 exact .inl ⟨HZ.o, rfl, Q.i⟩
end Go.Proofs.YtcjflafjmdfanaaGreatDoor
