
/- The laws of the ring, in plain arithmetic. No program in sight. -/
import Derived.Test.YtcjflafjmdfanaaGreatDoorBr14
import Derived.Deep.RegionLaw
import Derived.Test.YtcjflafjmdfanaaGreatDoorBr15
import Derived.Test.YtcjflafjmdfanaaGreatDoorBr01
import Derived.Test.YtcjflafjmdfanaaGreatDoorRows
set_option linter.unusedSimpArgs false
set_option linter.unusedVariables false
/- What node, around and Boundary of the reference 06 return for a station and a position that have no error, and a group of buses. -/
set_option linter.unusedVariables false
set_option linter.unusedSimpArgs false
namespace Go.Proofs.YtcjflafjmdfanaaGreatDoor
open Go.RowKit Go.Sub
attribute [local go_sem ↓] Go.wp_at_zero Go.wp_at_succ
set_option maxRecDepth 100000 in
set_option maxHeartbeats 16000000 in
theorem r6node_c (s : Sta) (p : Pos) (of : Nat) (w : World) (h : GoodAt w s p) (hof : of < s.buses.length) :
  Calls Tryz.prog 83 #[.agg #[Value.string s.nm, Value.slice s.aB s.buses.length s.cB, Value.slice s.aL s.lines.length s.cL, Value.slice s.aS s.srcs.length s.cS, Value.slice s.aY s.bays.length s.cY], .agg #[Value.slice p.aC p.closed.length p.cC, Value.slice p.aK p.rows.length p.cK], .agg #[.int .i64 1, .int .i64 of]] w fun e w' => e = .returned (.agg #[.int .i64 1, .int .i64 ((grI s p).getD of 0)]) ∧ Q w w' := by
 have HGA := Lib.hid h
 have GR0 : Hid (∀ (w' : World) (hq : Q w w'), Calls Tryz.prog 90 #[.agg #[Value.string s.nm, Value.slice s.aB s.buses.length s.cB, Value.slice s.aL s.lines.length s.cL, Value.slice s.aS s.srcs.length s.cS, Value.slice s.aY s.bays.length s.cY], .agg #[Value.slice p.aC p.closed.length p.cC, Value.slice p.aK p.rows.length p.cK]] w' (RetI (grI s p) w')) := Lib.hid fun w' hq => r6groups_c s p w' (h.q hq)
 have LG : Hid ((grI s p).length = s.buses.length) := Lib.hid (grI_len s p)
 have k0 : (0 : Int) ≤ (of : Int) := by omega
 have k1 : (of : Int) < (s.buses.length : Int) := by omega
 generalize grI s p = gl at GR0 LG ⊢
 clear h
 go_enter Tryz.func83, Tryz.ntmps83
 go_upto_region 1 with fail
 obtain ⟨V, eV⟩ : ∃ V, (w.alloc (Obj.cells #[Value.string s.nm, Value.slice s.aB s.buses.length s.cB, Value.slice s.aL s.lines.length s.cL, Value.slice s.aS s.srcs.length s.cS, Value.slice s.aY s.bays.length s.cY] 27)).alloc (Obj.cells #[Value.slice p.aC p.closed.length p.cC, Value.slice p.aK p.rows.length p.cK] 31) = V := ⟨_, rfl⟩
 have hsz : w.heap.size + 1 + 1 = V.heap.size := by rw [← eV]; simp
 have hq0 : Q w V := by rw [← eV]; repeat' (first | exact Q.refl _ | refine Q.alloc ?_ _ | refine Q.jk ?_ _ | refine Q.drew ?_)
 have hb : HB V w.heap.size #[Value.string s.nm, Value.slice s.aB s.buses.length s.cB, Value.slice s.aL s.lines.length s.cL, Value.slice s.aS s.srcs.length s.cS, Value.slice s.aY s.bays.length s.cY] 27 := by rw [← eV]; exact (HB.new _ _ _ _ rfl).q (by repeat' (first | exact Q.refl _ | refine Q.alloc ?_ _ | refine Q.jk ?_ _ | refine Q.drew ?_))
 have hb2 : HB V (w.heap.size + 1) #[Value.slice p.aC p.closed.length p.cC, Value.slice p.aK p.rows.length p.cK] 31 := by rw [← eV]; exact HB.new (w.alloc (Obj.cells #[Value.string s.nm, Value.slice s.aB s.buses.length s.cB, Value.slice s.aL s.lines.length s.cL, Value.slice s.aS s.srcs.length s.cS, Value.slice s.aY s.bays.length s.cY] 27)) _ _ _ (by simp)
 rw [eV, hsz]
 have HQ0 := Lib.hid hq0
 have s0 := hb.cell 0
 have s1 := hb.cell 1
 have s2 := hb.cell 2
 have s3 := hb.cell 3
 have s4 := hb.cell 4
 have p0 := hb2.cell 0
 have p1 := hb2.cell 1
 simp only [List.getElem?_toArray, List.getElem?_cons_zero, List.getElem?_cons_succ] at s0 s1 s2 s3 s4 p0 p1
 have ob := hb.old
 have ob2 := hb2.old
 have HGA : Hid (GoodAt V s p) := Lib.hid (HGA.out.q hq0)
 have GR := Lib.hid fun (w' : World) (hq : Q V w') => GR0.out w' (HQ0.out.trans hq)
 clear eV hb hq0 hb2 hsz
 generalize w.heap.size + 1 = b2 at p0 p1 ob2 ⊢
 generalize w.heap.size = b at s0 s1 s2 s3 s4 ob ⊢
 go_wp2_with fail
 go_region_law (first
  | ((refine step_call2 rfl _ _ _ rfl 90 #[.agg #[Value.string s.nm, Value.slice s.aB s.buses.length s.cB, Value.slice s.aL s.lines.length s.cL, Value.slice s.aS s.srcs.length s.cS, Value.slice s.aY s.bays.length s.cY], .agg #[Value.slice p.aC p.closed.length p.cC, Value.slice p.aK p.rows.length p.cK]] _ (by simp [execOp, resolve, invoke, go_sem]; done) (GR.out _ (by repeat' (first | exact Q.refl _ | refine Q.alloc ?_ _ | refine Q.jk ?_ _ | refine Q.drew ?_))) ?_); rintro e w' ⟨v, rfl, ⟨kg, rfl⟩, hrv⟩; obtain ⟨A, cG, rfl⟩ := own_slice' hrv; rw [LG.out] at hrv ⊢; obtain ⟨gG, rfl, hgG, hcG⟩ := rowI_win hrv LG.out (by omega); have x1 := (hcG.out of (by omega)).1; try simp only [World.jk_drew] at x1; clear hrv hcG hgG; refine ⟨_, rfl, ?_⟩))
 all_goals
  go_wp2_with fail
  refine bodyPost_ret (v := .agg #[.int .i64 1, .int .i64 (gl.getD of 0)]) (by simp [results, Tryz.results83, go_sem]) rfl ⟨rfl, HQ0.out.trans ?_⟩
  repeat' (first | exact Q.refl _ | refine Q.alloc ?_ _ | refine Q.jk ?_ _ | refine Q.drew ?_ | refine Q.setCell ?_ (by simp [World.size_jk] <;> omega) _)
set_option maxRecDepth 100000 in
set_option maxHeartbeats 16000000 in
theorem r6around_c (s : Sta) (p : Pos) (k : Nat) (q : Int) (y : Byr) (w : World) (h : GoodAt w s p) (hy : s.bays[k]? = some y) :
  Calls Tryz.prog 84 #[.agg #[Value.string s.nm, Value.slice s.aB s.buses.length s.cB, Value.slice s.aL s.lines.length s.cL, Value.slice s.aS s.srcs.length s.cS, Value.slice s.aY s.bays.length s.cY], .agg #[Value.slice p.aC p.closed.length p.cC, Value.slice p.aK p.rows.length p.cK], .agg #[.int .i64 1, .int .i64 q], .int .i64 k] w fun e w' => e = .returned (.bool (bdB q (sdZ s p (grI s p) k))) ∧ Q w w' := by
 have HGA := Lib.hid h
 have SD0 : Hid (∀ (w' : World) (hq : Q w w'), Calls Tryz.prog 82 #[.agg #[Value.string s.nm, Value.slice s.aB s.buses.length s.cB, Value.slice s.aL s.lines.length s.cL, Value.slice s.aS s.srcs.length s.cS, Value.slice s.aY s.bays.length s.cY], .agg #[Value.slice p.aC p.closed.length p.cC, Value.slice p.aK p.rows.length p.cK], .int .i64 k] w' fun e w'' => e = .returned (.agg #[.int .i64 (sdZ s p (grI s p) k).1, .int .i64 (sdZ s p (grI s p) k).2.1, .int .i64 (sdZ s p (grI s p) k).2.2.1, .int .i64 (sdZ s p (grI s p) k).2.2.2]) ∧ Q w' w'') := Lib.hid fun w' hq => r6sides_c s p k y w' (h.q hq) hy
 have hok := h.ok k y hy
 have hlt := (List.getElem?_eq_some_iff.1 hy).1
 obtain ⟨g, o, eA, og, hc⟩ := h.st.bayAt hy
 have q1 : w.cell? ⟨g, o + k * 12 + 1, none⟩ = some (Value.int .i64 y.kd) := hc.out 1 _ rfl
 have k0 : (0 : Int) ≤ (k : Int) := by omega
 have k1 : (k : Int) < (s.bays.length : Int) := by omega
 have hne : ¬ (s.lks k) = [] := by intro e; have := hok.ln; rw [e] at this; simp at this
 have SC : y.kd = 3 → ∃ a b, sdZ s p (grI s p) k = (1, a, 1, b) := by
  intro h3
  unfold sdZ
  rw [hy]
  match hl : s.lks k, hne with
  | l0 :: rest, _ => exact ⟨_, _, if_pos h3⟩
 have SN : y.kd ≠ 3 → ∃ a b c d, sdZ s p (grI s p) k = (a, b, c, d) ∧ c ≠ 1 := by
  intro h3
  unfold sdZ
  rw [hy]
  match hl : s.lks k, hne with
  | l0 :: rest, _ =>
   refine ⟨_, _, _, _, if_neg h3, ?_⟩
   split <;> decide
 obtain ⟨Z, hZ⟩ : ∃ z, sdZ s p (grI s p) k = z := ⟨_, rfl⟩
 rw [hZ] at SD0 SC SN ⊢
 obtain ⟨R, hR⟩ : ∃ r, bdB q Z = r := ⟨_, rfl⟩
 rw [hR]
 have HR := Lib.hid hR
 have EA := Lib.hid eA
 clear h hok hlt hc hne hZ eA hy hR
 go_enter Tryz.func84, Tryz.ntmps84
 go_upto_region 1 with fail
 obtain ⟨V, eV⟩ : ∃ V, (w.alloc (Obj.cells #[Value.string s.nm, Value.slice s.aB s.buses.length s.cB, Value.slice s.aL s.lines.length s.cL, Value.slice s.aS s.srcs.length s.cS, Value.slice s.aY s.bays.length s.cY] 27)).alloc (Obj.cells #[Value.slice p.aC p.closed.length p.cC, Value.slice p.aK p.rows.length p.cK] 31) = V := ⟨_, rfl⟩
 have hsz : w.heap.size + 1 + 1 = V.heap.size := by rw [← eV]; simp
 have hq0 : Q w V := by rw [← eV]; repeat' (first | exact Q.refl _ | refine Q.alloc ?_ _ | refine Q.jk ?_ _ | refine Q.drew ?_)
 have hb : HB V w.heap.size #[Value.string s.nm, Value.slice s.aB s.buses.length s.cB, Value.slice s.aL s.lines.length s.cL, Value.slice s.aS s.srcs.length s.cS, Value.slice s.aY s.bays.length s.cY] 27 := by rw [← eV]; exact (HB.new _ _ _ _ rfl).q (by repeat' (first | exact Q.refl _ | refine Q.alloc ?_ _ | refine Q.jk ?_ _ | refine Q.drew ?_))
 have hb2 : HB V (w.heap.size + 1) #[Value.slice p.aC p.closed.length p.cC, Value.slice p.aK p.rows.length p.cK] 31 := by rw [← eV]; exact HB.new (w.alloc (Obj.cells #[Value.string s.nm, Value.slice s.aB s.buses.length s.cB, Value.slice s.aL s.lines.length s.cL, Value.slice s.aS s.srcs.length s.cS, Value.slice s.aY s.bays.length s.cY] 27)) _ _ _ (by simp)
 rw [eV, hsz]
 have HQ0 := Lib.hid hq0
 have s0 := hb.cell 0
 have s1 := hb.cell 1
 have s2 := hb.cell 2
 have s3 := hb.cell 3
 have s4 := hb.cell 4
 have p0 := hb2.cell 0
 have p1 := hb2.cell 1
 simp only [List.getElem?_toArray, List.getElem?_cons_zero, List.getElem?_cons_succ] at s0 s1 s2 s3 s4 p0 p1
 have ob := hb.old
 have ob2 := hb2.old
 have HGA : Hid (GoodAt V s p) := Lib.hid (HGA.out.q hq0)
 have SD := Lib.hid fun (w' : World) (hq : Q V w') => SD0.out w' (HQ0.out.trans hq)
 replace q1 := (hq0.below.cell (p := ⟨g, o + k * 12 + 1, none⟩) og.lt).trans q1
 have og_ : Old g V := ⟨Nat.lt_of_lt_of_le og.lt hq0.below.size⟩
 rw [EA.out] at s4 SD
 clear eV hb hq0 hb2 hsz
 generalize w.heap.size + 1 = b2 at p0 p1 ob2 ⊢
 generalize w.heap.size = b at s0 s1 s2 s3 s4 ob ⊢
 by_cases h3 : y.kd = 3
 ·have e3 : (y.kd == 3) = true := by simpa using h3
  obtain ⟨a, b', rfl⟩ := SC h3
  dsimp only at SD
  clear SC SN h3
  by_cases ha : a = q <;> by_cases hb' : b' = q
  ·have f1 : (a == q) = true := by simpa using ha
   have f2 : (b' == q) = true := by simpa using hb'
   have EV : bdB q (1, a, 1, b') = false := by simp [bdB, ha, hb']
   have EV := Lib.hid EV
   clear ha hb'
   go_wp2_with (first
  | (go_at_call 82; (with_reducible refine (SD.out _ (by repeat' (first | exact Q.refl _ | refine Q.alloc ?_ _ | refine Q.jk ?_ _ | refine Q.drew ?_))).mono ?_); rintro e w' ⟨rfl, ks, rfl⟩)
  | fail)
   refine wp_region_jk (by kernel_rfl) (by kernel_rfl) ?_
   repeat (go_big_quiet_step (fail))
   refine wpQuiet_nil ?_
   intro _ hw'
   obtain ⟨kq, rfl⟩ := hw'
   go_wp2_with fail
   go_ret
   refine ⟨by rw [← HR.out, EV.out]; first | done | rfl, HQ0.out.trans ?_⟩
   repeat' (first | exact Q.refl _ | refine Q.alloc ?_ _ | refine Q.jk ?_ _ | refine Q.drew ?_ | refine Q.setCell ?_ (by simp [World.size_jk] <;> omega) _)
  ·have f1 : (a == q) = true := by simpa using ha
   have f2 : (b' == q) = false := by simpa using hb'
   have EV : bdB q (1, a, 1, b') = true := by simp [bdB, ha, hb']
   have EV := Lib.hid EV
   clear ha hb'
   go_wp2_with (first
  | (go_at_call 82; (with_reducible refine (SD.out _ (by repeat' (first | exact Q.refl _ | refine Q.alloc ?_ _ | refine Q.jk ?_ _ | refine Q.drew ?_))).mono ?_); rintro e w' ⟨rfl, ks, rfl⟩)
  | fail)
   refine wp_region_jk (by kernel_rfl) (by kernel_rfl) ?_
   repeat (go_big_quiet_step (fail))
   refine wpQuiet_nil ?_
   intro _ hw'
   obtain ⟨kq, rfl⟩ := hw'
   go_wp2_with fail
   go_ret
   refine ⟨by rw [← HR.out, EV.out]; first | done | rfl, HQ0.out.trans ?_⟩
   repeat' (first | exact Q.refl _ | refine Q.alloc ?_ _ | refine Q.jk ?_ _ | refine Q.drew ?_ | refine Q.setCell ?_ (by simp [World.size_jk] <;> omega) _)
  ·have f1 : (a == q) = false := by simpa using ha
   have f2 : (b' == q) = true := by simpa using hb'
   have EV : bdB q (1, a, 1, b') = true := by simp [bdB, ha, hb']
   have EV := Lib.hid EV
   clear ha hb'
   go_wp2_with (first
  | (go_at_call 82; (with_reducible refine (SD.out _ (by repeat' (first | exact Q.refl _ | refine Q.alloc ?_ _ | refine Q.jk ?_ _ | refine Q.drew ?_))).mono ?_); rintro e w' ⟨rfl, ks, rfl⟩)
  | fail)
   refine wp_region_jk (by kernel_rfl) (by kernel_rfl) ?_
   repeat (go_big_quiet_step (fail))
   refine wpQuiet_nil ?_
   intro _ hw'
   obtain ⟨kq, rfl⟩ := hw'
   go_wp2_with fail
   go_ret
   refine ⟨by rw [← HR.out, EV.out]; first | done | rfl, HQ0.out.trans ?_⟩
   repeat' (first | exact Q.refl _ | refine Q.alloc ?_ _ | refine Q.jk ?_ _ | refine Q.drew ?_ | refine Q.setCell ?_ (by simp [World.size_jk] <;> omega) _)
  ·have f1 : (a == q) = false := by simpa using ha
   have f2 : (b' == q) = false := by simpa using hb'
   have EV : bdB q (1, a, 1, b') = false := by simp [bdB, ha, hb']
   have EV := Lib.hid EV
   clear ha hb'
   go_wp2_with (first
  | (go_at_call 82; (with_reducible refine (SD.out _ (by repeat' (first | exact Q.refl _ | refine Q.alloc ?_ _ | refine Q.jk ?_ _ | refine Q.drew ?_))).mono ?_); rintro e w' ⟨rfl, ks, rfl⟩)
  | fail)
   refine wp_region_jk (by kernel_rfl) (by kernel_rfl) ?_
   repeat (go_big_quiet_step (fail))
   refine wpQuiet_nil ?_
   intro _ hw'
   obtain ⟨kq, rfl⟩ := hw'
   go_wp2_with fail
   go_ret
   refine ⟨by rw [← HR.out, EV.out]; first | done | rfl, HQ0.out.trans ?_⟩
   repeat' (first | exact Q.refl _ | refine Q.alloc ?_ _ | refine Q.jk ?_ _ | refine Q.drew ?_ | refine Q.setCell ?_ (by simp [World.size_jk] <;> omega) _)
 ·have e3 : (y.kd == 3) = false := by simpa using h3
  obtain ⟨a, b', c, d, rfl, hcn⟩ := SN h3
  dsimp only at SD
  clear SC SN h3
  by_cases ha : a = 1 <;> by_cases hb' : b' = q
  ·have f1 : (a == 1) = true := by simpa using ha
   have f2 : (b' == q) = true := by simpa using hb'
   have EV : bdB q (a, b', c, d) = true := by simp [bdB, ha, hb', hcn]
   have EV := Lib.hid EV
   clear ha hb' hcn
   go_wp2_with (first
  | (go_at_call 82; (with_reducible refine (SD.out _ (by repeat' (first | exact Q.refl _ | refine Q.alloc ?_ _ | refine Q.jk ?_ _ | refine Q.drew ?_))).mono ?_); rintro e w' ⟨rfl, ks, rfl⟩)
  | fail)
   go_ret
   refine ⟨by rw [← HR.out, EV.out]; first | done | rfl, HQ0.out.trans ?_⟩
   repeat' (first | exact Q.refl _ | refine Q.alloc ?_ _ | refine Q.jk ?_ _ | refine Q.drew ?_ | refine Q.setCell ?_ (by simp [World.size_jk] <;> omega) _)
  ·have f1 : (a == 1) = true := by simpa using ha
   have f2 : (b' == q) = false := by simpa using hb'
   have EV : bdB q (a, b', c, d) = false := by simp [bdB, ha, hb', hcn]
   have EV := Lib.hid EV
   clear ha hb' hcn
   go_wp2_with (first
  | (go_at_call 82; (with_reducible refine (SD.out _ (by repeat' (first | exact Q.refl _ | refine Q.alloc ?_ _ | refine Q.jk ?_ _ | refine Q.drew ?_))).mono ?_); rintro e w' ⟨rfl, ks, rfl⟩)
  | fail)
   go_ret
   refine ⟨by rw [← HR.out, EV.out]; first | done | rfl, HQ0.out.trans ?_⟩
   repeat' (first | exact Q.refl _ | refine Q.alloc ?_ _ | refine Q.jk ?_ _ | refine Q.drew ?_ | refine Q.setCell ?_ (by simp [World.size_jk] <;> omega) _)
  ·have f1 : (a == 1) = false := by simpa using ha
   have f2 : (b' == q) = true := by simpa using hb'
   have EV : bdB q (a, b', c, d) = false := by simp [bdB, ha, hb', hcn]
   have EV := Lib.hid EV
   clear ha hb' hcn
   go_wp2_with (first
  | (go_at_call 82; (with_reducible refine (SD.out _ (by repeat' (first | exact Q.refl _ | refine Q.alloc ?_ _ | refine Q.jk ?_ _ | refine Q.drew ?_))).mono ?_); rintro e w' ⟨rfl, ks, rfl⟩)
  | fail)
   go_ret
   refine ⟨by rw [← HR.out, EV.out]; first | done | rfl, HQ0.out.trans ?_⟩
   repeat' (first | exact Q.refl _ | refine Q.alloc ?_ _ | refine Q.jk ?_ _ | refine Q.drew ?_ | refine Q.setCell ?_ (by simp [World.size_jk] <;> omega) _)
  ·have f1 : (a == 1) = false := by simpa using ha
   have f2 : (b' == q) = false := by simpa using hb'
   have EV : bdB q (a, b', c, d) = false := by simp [bdB, ha, hb', hcn]
   have EV := Lib.hid EV
   clear ha hb' hcn
   go_wp2_with (first
  | (go_at_call 82; (with_reducible refine (SD.out _ (by repeat' (first | exact Q.refl _ | refine Q.alloc ?_ _ | refine Q.jk ?_ _ | refine Q.drew ?_))).mono ?_); rintro e w' ⟨rfl, ks, rfl⟩)
  | fail)
   go_ret
   refine ⟨by rw [← HR.out, EV.out]; first | done | rfl, HQ0.out.trans ?_⟩
   repeat' (first | exact Q.refl _ | refine Q.alloc ?_ _ | refine Q.jk ?_ _ | refine Q.drew ?_ | refine Q.setCell ?_ (by simp [World.size_jk] <;> omega) _)
set_option maxRecDepth 100000 in
set_option maxHeartbeats 16000000 in
theorem r6Boundary_g (s : Sta) (p : Pos) (of : Nat) (w : World) (h : GoodAt w s p) (hof : of < s.buses.length) :
  Calls Tryz.prog 50 #[.agg #[Value.string s.nm, Value.slice s.aB s.buses.length s.cB, Value.slice s.aL s.lines.length s.cL, Value.slice s.aS s.srcs.length s.cS, Value.slice s.aY s.bays.length s.cY], .agg #[Value.slice p.aC p.closed.length p.cC, Value.slice p.aK p.rows.length p.cK], .agg #[.int .i64 1, .int .i64 of]] w (RetI (bdI s p (grI s p) ((grI s p).getD of 0) s.bays.length) w) := by
 have HGA := Lib.hid h
 have lens := h.lens
 have y0 : (0 : Int) ≤ (s.bays.length : Int) := by omega
 have y1 : (s.bays.length : Int) ≤ 16 := by omega
 have y2 : s.bays.length ≤ 16 := lens.2.2.2.2.1
 have FN0 := Lib.hid fun (w' : World) (hq : Q w w') => r6fine_g s p w' (h.q hq)
 have ND0 := Lib.hid fun (w' : World) (hq : Q w w') => r6node_c s p of w' (h.q hq) hof
 have AR0 := Lib.hid fun (k : Nat) (y : Byr) (hy : s.bays[k]? = some y) (w' : World) (hq : Q w w') => r6around_c s p k ((grI s p).getD of 0) y w' (h.q hq) hy
 generalize (grI s p).getD of 0 = q at ND0 AR0 ⊢
 generalize grI s p = gl at AR0 ⊢
 clear h lens hof
 go_enter Tryz.func50, Tryz.ntmps50
 go_upto_region 1 with fail
 obtain ⟨V, eV⟩ : ∃ V, (w.alloc (Obj.cells #[Value.string s.nm, Value.slice s.aB s.buses.length s.cB, Value.slice s.aL s.lines.length s.cL, Value.slice s.aS s.srcs.length s.cS, Value.slice s.aY s.bays.length s.cY] 27)).alloc (Obj.cells #[Value.slice p.aC p.closed.length p.cC, Value.slice p.aK p.rows.length p.cK] 31) = V := ⟨_, rfl⟩
 have hsz : w.heap.size + 1 + 1 = V.heap.size := by rw [← eV]; simp
 have hq0 : Q w V := by rw [← eV]; repeat' (first | exact Q.refl _ | refine Q.alloc ?_ _ | refine Q.jk ?_ _ | refine Q.drew ?_)
 have hb : HB V w.heap.size #[Value.string s.nm, Value.slice s.aB s.buses.length s.cB, Value.slice s.aL s.lines.length s.cL, Value.slice s.aS s.srcs.length s.cS, Value.slice s.aY s.bays.length s.cY] 27 := by rw [← eV]; exact (HB.new _ _ _ _ rfl).q (by repeat' (first | exact Q.refl _ | refine Q.alloc ?_ _ | refine Q.jk ?_ _ | refine Q.drew ?_))
 have hb2 : HB V (w.heap.size + 1) #[Value.slice p.aC p.closed.length p.cC, Value.slice p.aK p.rows.length p.cK] 31 := by rw [← eV]; exact HB.new (w.alloc (Obj.cells #[Value.string s.nm, Value.slice s.aB s.buses.length s.cB, Value.slice s.aL s.lines.length s.cL, Value.slice s.aS s.srcs.length s.cS, Value.slice s.aY s.bays.length s.cY] 27)) _ _ _ (by simp)
 rw [eV, hsz]
 have HQ0 := Lib.hid hq0
 have s0 := hb.cell 0
 have s1 := hb.cell 1
 have s2 := hb.cell 2
 have s3 := hb.cell 3
 have s4 := hb.cell 4
 have p0 := hb2.cell 0
 have p1 := hb2.cell 1
 simp only [List.getElem?_toArray, List.getElem?_cons_zero, List.getElem?_cons_succ] at s0 s1 s2 s3 s4 p0 p1
 have ob := hb.old
 have ob2 := hb2.old
 have HGA : Hid (GoodAt V s p) := Lib.hid (HGA.out.q hq0)
 have FN := Lib.hid fun (w' : World) (hq : Q V w') => FN0.out w' (HQ0.out.trans hq)
 have ND := Lib.hid fun (w' : World) (hq : Q V w') => ND0.out w' (HQ0.out.trans hq)
 have AR := Lib.hid fun (k : Nat) (y : Byr) (hy : s.bays[k]? = some y) (w' : World) (hq : Q V w') => AR0.out k y hy w' (HQ0.out.trans hq)
 clear eV hb hq0 hb2 hsz
 generalize w.heap.size + 1 = b2 at p0 p1 ob2 ⊢
 generalize w.heap.size = b at s0 s1 s2 s3 s4 ob ⊢
 go_upto_region 4 with (first
  | (go_at_call 81; (with_reducible refine (FN.out _ (by repeat' (first | exact Q.refl _ | refine Q.alloc ?_ _ | refine Q.jk ?_ _ | refine Q.drew ?_))).mono ?_); rintro e w' ⟨rfl, k1, rfl⟩)
  | (go_at_call 83; (with_reducible refine (ND.out _ (by repeat' (first | exact Q.refl _ | refine Q.alloc ?_ _ | refine Q.jk ?_ _ | refine Q.drew ?_))).mono ?_); rintro e w' ⟨rfl, k2, rfl⟩)
  | fail)
 refine wp_world ?_
 intro U eU
 have hqU : Q V U := by rw [eU]; repeat' (first | exact Q.refl _ | refine Q.alloc ?_ _ | refine Q.jk ?_ _ | refine Q.drew ?_ | refine Q.setCell ?_ (by simp [World.size_jk] <;> omega) _)
 have HQU := Lib.hid hqU
 have hn : HB U ((V.alloc (Obj.cells #[Value.int .i64 1, Value.int .i64 of] 109)).jk k1 |>.jk k2).heap.size #[Value.int .i64 1, Value.int .i64 q] 119 := by rw [eU]; exact HB.new _ _ _ _ rfl
 replace s0 := (hqU.below.cell (p := ⟨b, 0, none⟩) ob.lt).trans s0
 replace s1 := (hqU.below.cell (p := ⟨b, 1, none⟩) ob.lt).trans s1
 replace s2 := (hqU.below.cell (p := ⟨b, 2, none⟩) ob.lt).trans s2
 replace s3 := (hqU.below.cell (p := ⟨b, 3, none⟩) ob.lt).trans s3
 replace s4 := (hqU.below.cell (p := ⟨b, 4, none⟩) ob.lt).trans s4
 replace p0 := (hqU.below.cell (p := ⟨b2, 0, none⟩) ob2.lt).trans p0
 replace p1 := (hqU.below.cell (p := ⟨b2, 1, none⟩) ob2.lt).trans p1
 have u0 := hn.cell 0
 have u1 := hn.cell 1
 simp only [List.getElem?_toArray, List.getElem?_cons_zero, List.getElem?_cons_succ] at u0 u1
 have on := hn.old
 have obU : Old b U := ⟨Nat.lt_of_lt_of_le ob.lt hqU.below.size⟩
 have obU2 : Old b2 U := ⟨Nat.lt_of_lt_of_le ob2.lt hqU.below.size⟩
 clear eU hn hqU
 simp only [World.size_jk, World.size_alloc] at u0 u1 on
 go_wp2_with fail
 go_loopw [8, 9] (fun lv i wr => ∃ (k : Nat), i = .int .i64 k ∧ k ≤ s.bays.length ∧ Q U wr ∧ Hid (RowI U wr lv (bdI s p gl q k))) (fun _ i _ => s.bays.length - (intOf i).toNat)
 case atStart => exact ⟨0, rfl, Nat.zero_le _, (by repeat' (first | exact Q.refl _ | refine Q.alloc ?_ _ | refine Q.jk ?_ _ | refine Q.drew ?_)), Lib.hid (RowI.nil _ _)⟩
 case round =>
  obtain ⟨k, rfl, hk, ⟨kk, rfl⟩, HRI⟩ := hrel
  by_cases hlt : k < s.bays.length
  ·obtain ⟨v8, rfl⟩ : ∃ v, v = u8 := ⟨_, rfl⟩
   obtain ⟨y, hy⟩ : ∃ y, s.bays[k]? = some y := ⟨_, List.getElem?_eq_getElem hlt⟩
   have ARK := Lib.hid fun (w' : World) (hq : Q U w') => AR.out k y hy w' (HQU.out.trans hq)
   have ES0 := Lib.hid (bdI_succ s p gl q k)
   have k0 : (0 : Int) ≤ (k : Int) := by omega
   have k1 : (k : Int) < (s.bays.length : Int) := by omega
   generalize bdB q (sdZ s p gl k) = R at ARK ES0
   clear hy
   cases R with
   | true =>
    have ES : Hid (bdI s p gl q (k + 1) = bdI s p gl q k ++ [(k : Int)]) := Lib.hid (by rw [ES0.out, if_pos rfl])
    clear ES0
    go_wp2_with (first
     | (go_at_call 84; (with_reducible refine (ARK.out _ (by repeat' (first | exact Q.refl _ | refine Q.alloc ?_ _ | refine Q.jk ?_ _ | refine Q.drew ?_))).mono ?_); rintro e w' ⟨rfl, ka, rfl⟩)
     | (at_builtin; refine wpList_app_int rfl _ _ rfl U v8 (bdI s p gl q k) (k : Int) _ rfl rfl (HRI.out.q (by repeat' (first | exact Q.refl _ | refine Q.alloc ?_ _ | refine Q.jk ?_ _ | refine Q.drew ?_))) (by simp [go_sem, World.size_jk]) (by have := bdI_len s p gl q k; omega) (by repeat' (first | exact Q.refl _ | refine Q.alloc ?_ _ | refine Q.jk ?_ _ | refine Q.drew ?_)) ?_; intro v8' kx' hri hgr)
     | fail)
    go_roundw
    case rel => exact ⟨k + 1, by go_num, by omega, ⟨kx', rfl⟩, Lib.hid (by rw [ES.out]; exact hri)⟩
    case measure => simp [intOf] <;> omega
   | false =>
    have ES : Hid (bdI s p gl q (k + 1) = bdI s p gl q k) := Lib.hid (by rw [ES0.out, if_neg (by decide)])
    clear ES0
    go_wp2_with (first
     | (go_at_call 84; (with_reducible refine (ARK.out _ (by repeat' (first | exact Q.refl _ | refine Q.alloc ?_ _ | refine Q.jk ?_ _ | refine Q.drew ?_))).mono ?_); rintro e w' ⟨rfl, ka, rfl⟩)
     | fail)
    go_roundw
    case rel => exact ⟨k + 1, by go_num, by omega, (by repeat' (first | exact Q.refl _ | refine Q.alloc ?_ _ | refine Q.jk ?_ _ | refine Q.drew ?_)), Lib.hid (by rw [ES.out]; exact HRI.out.q (by repeat' (first | exact Q.refl _ | refine Q.alloc ?_ _ | refine Q.jk ?_ _ | refine Q.drew ?_)))⟩
    case measure => simp [intOf] <;> omega
  ·obtain rfl : k = s.bays.length := by omega
   go_wp2_with fail
   go_ret
   exact ⟨_, rfl, HQ0.out.trans (HQU.out.trans (by repeat' (first | exact Q.refl _ | refine Q.alloc ?_ _ | refine Q.jk ?_ _ | refine Q.drew ?_))), HRI.out.low (HQ0.out.trans HQU.out) |>.q (by repeat' (first | exact Q.refl _ | refine Q.alloc ?_ _ | refine Q.jk ?_ _ | refine Q.drew ?_))⟩
end Go.Proofs.YtcjflafjmdfanaaGreatDoor
/- What Add, Sub, Conj, Real, Imag and Norm of package cyclo return. -/
namespace Go.Proofs.YtcjflafjmdfanaaGreatDoor
open Go.RowKit Go.Sub

set_option maxHeartbeats 1000000 in
theorem add_any (a b c d a' b' c' d' : Int) (w : World) :
  Calls Tryz.prog 121 #[.agg #[.int .i64 a, .int .i64 b, .int .i64 c, .int .i64 d], .agg #[.int .i64 a', .int .i64 b', .int .i64 c', .int .i64 d']] w fun e w' => e = .returned (.tuple #[.agg #[.int .i64 (addR ⟨a, b, c, d⟩ ⟨a', b', c', d'⟩).v.a, .int .i64 (addR ⟨a, b, c, d⟩ ⟨a', b', c', d'⟩).v.b, .int .i64 (addR ⟨a, b, c, d⟩ ⟨a', b', c', d'⟩).v.c, .int .i64 (addR ⟨a, b, c, d⟩ ⟨a', b', c', d'⟩).v.d], .int .i64 (addR ⟨a, b, c, d⟩ ⟨a', b', c', d'⟩).e]) ∧ Q w w' := by
 by_cases h : wiB ⟨a, b, c, d⟩ 576460752303423488 = true
 ·by_cases h' : wiB ⟨a', b', c', d'⟩ 576460752303423488 = true
  ·obtain ⟨l1, l2, l3, l4, l5, l6, l7, l8⟩ := wiB_in h
   obtain ⟨m1, m2, m3, m4, m5, m6, m7, m8⟩ := wiB_in h'
   dsimp only at l1 l2 l3 l4 l5 l6 l7 l8 m1 m2 m3 m4 m5 m6 m7 m8
   have hR : addR ⟨a, b, c, d⟩ ⟨a', b', c', d'⟩ = limR ⟨a + a', b + b', c + c', d + d'⟩ := by simp [addR, h, h', Cy.add]
   rw [hR]
   clear hR
   go_enter Tryz.func121, Tryz.ntmps121
   go_wp2_with (go_at_call 122; refine (within_any _ _ _ _ _ _ (by omega) (by omega)).mono ?_; rintro e w' ⟨rfl, kj, rfl⟩)
   refine wp_loop_rounds 5 ?_
   rw [rounds_succ]; go_wp2; go_region; go_wp2
   rw [rounds_succ]; go_wp2; go_region; go_wp2
   rw [rounds_succ]; go_wp2; go_region; go_wp2
   rw [rounds_succ]; go_wp2; go_region; go_wp2
   rw [rounds_succ]; go_wp2_with (go_at_call 125; refine (limited_any _ _ _ _ _).mono ?_; rintro e w' ⟨rfl, kj, rfl⟩)
   refine bodyPost_ret (v := .tuple #[.agg #[.int .i64 (limR ⟨a + a', b + b', c + c', d + d'⟩).v.a, .int .i64 (limR ⟨a + a', b + b', c + c', d + d'⟩).v.b, .int .i64 (limR ⟨a + a', b + b', c + c', d + d'⟩).v.c, .int .i64 (limR ⟨a + a', b + b', c + c', d + d'⟩).v.d], .int .i64 (limR ⟨a + a', b + b', c + c', d + d'⟩).e]) (by simp [results, Tryz.results121, go_sem]) rfl ⟨rfl, ?_⟩
   repeat' (first | exact Q.refl _ | refine Q.alloc ?_ _ | refine Q.jk ?_ _ | refine Q.drew ?_)
  ·have h' : wiB ⟨a', b', c', d'⟩ 576460752303423488 = false := by simpa using h'
   go_enter Tryz.func121, Tryz.ntmps121
   go_wp2_with (go_at_call 122; refine (within_any _ _ _ _ _ _ (by omega) (by omega)).mono ?_; rintro e w' ⟨rfl, kj, rfl⟩)
   refine bodyPost_ret (v := .tuple #[.agg #[.int .i64 (R4.mk zeroC 1).v.a, .int .i64 (R4.mk zeroC 1).v.b, .int .i64 (R4.mk zeroC 1).v.c, .int .i64 (R4.mk zeroC 1).v.d], .int .i64 (R4.mk zeroC 1).e]) (by simp [results, Tryz.results121, go_sem, zeroC]) rfl ⟨by simp [addR, h, h'], ?_⟩
   repeat' (first | exact Q.refl _ | refine Q.alloc ?_ _ | refine Q.jk ?_ _ | refine Q.drew ?_)
 ·have h : wiB ⟨a, b, c, d⟩ 576460752303423488 = false := by simpa using h
  go_enter Tryz.func121, Tryz.ntmps121
  go_wp2_with (go_at_call 122; refine (within_any _ _ _ _ _ _ (by omega) (by omega)).mono ?_; rintro e w' ⟨rfl, kj, rfl⟩)
  refine bodyPost_ret (v := .tuple #[.agg #[.int .i64 (R4.mk zeroC 1).v.a, .int .i64 (R4.mk zeroC 1).v.b, .int .i64 (R4.mk zeroC 1).v.c, .int .i64 (R4.mk zeroC 1).v.d], .int .i64 (R4.mk zeroC 1).e]) (by simp [results, Tryz.results121, go_sem, zeroC]) rfl ⟨by simp [addR, h], ?_⟩
  repeat' (first | exact Q.refl _ | refine Q.alloc ?_ _ | refine Q.jk ?_ _ | refine Q.drew ?_)

set_option maxHeartbeats 1000000 in
theorem norm_any (a b c d : Int) (w : World) :
  Calls Tryz.prog 103 #[.agg #[.int .i64 a, .int .i64 b, .int .i64 c, .int .i64 d]] w fun e w' => e = .returned (.tuple #[.agg #[.int .i64 (normR ⟨a, b, c, d⟩).v.a, .int .i64 (normR ⟨a, b, c, d⟩).v.b], .int .i64 (normR ⟨a, b, c, d⟩).e]) ∧ Q w w' := by
 by_cases h : wiB ⟨a, b, c, d⟩ 268435456 = true
 ·obtain ⟨l1, l2, l3, l4, l5, l6, l7, l8⟩ := wiB_in h
  dsimp only at l1 l2 l3 l4 l5 l6 l7 l8
  obtain ⟨p0, p1⟩ := bd_mul l1 l2 l1 l2
  obtain ⟨p2, p3⟩ := bd_mul l3 l4 l3 l4
  obtain ⟨p4, p5⟩ := bd_mul l5 l6 l5 l6
  obtain ⟨p6, p7⟩ := bd_mul l7 l8 l7 l8
  obtain ⟨p8, p9⟩ := bd_mul l1 l2 l5 l6
  obtain ⟨p10, p11⟩ := bd_mul l3 l4 l7 l8
  obtain ⟨p12, p13⟩ := bd_mul l1 l2 l3 l4
  obtain ⟨p14, p15⟩ := bd_mul l3 l4 l5 l6
  obtain ⟨p16, p17⟩ := bd_mul l5 l6 l7 l8
  simp only [Int.reduceMul, Int.reduceNeg] at p0 p1 p2 p3 p4 p5 p6 p7 p8 p9 p10 p11 p12 p13 p14 p15 p16 p17
  go_enter Tryz.func103, Tryz.ntmps103
  go_wp2_with (go_at_call 122; refine (within_any _ _ _ _ _ _ (by omega) (by omega)).mono ?_; rintro e w' ⟨rfl, kj, rfl⟩)
  refine wp_region_jk (by kernel_rfl) (by kernel_rfl) ?_
  repeat (go_big_quiet_step (fail))
  refine wpQuiet_nil ?_
  intro _ hw'
  obtain ⟨kq, rfl⟩ := hw'
  go_wp2
  refine bodyPost_ret (v := .tuple #[.agg #[.int .i64 (a*a + b*b + c*c + d*d + a*c + b*d), .int .i64 (a*b + b*c + c*d)], .int .i64 0]) (by simp [results, Tryz.results103, go_sem]) rfl ⟨by simp [normR, h, Cy.norm], ?_⟩
  repeat' (first | exact Q.refl _ | refine Q.alloc ?_ _ | refine Q.jk ?_ _ | refine Q.drew ?_)
 ·have h : wiB ⟨a, b, c, d⟩ 268435456 = false := by simpa using h
  go_enter Tryz.func103, Tryz.ntmps103
  go_wp2_with (go_at_call 122; refine (within_any _ _ _ _ _ _ (by omega) (by omega)).mono ?_; rintro e w' ⟨rfl, kj, rfl⟩)
  refine bodyPost_ret (v := .tuple #[.agg #[.int .i64 0, .int .i64 0], .int .i64 1]) (by simp [results, Tryz.results103, go_sem]) rfl ⟨by simp [normR, h], ?_⟩
  repeat' (first | exact Q.refl _ | refine Q.alloc ?_ _ | refine Q.jk ?_ _ | refine Q.drew ?_)

end Go.Proofs.YtcjflafjmdfanaaGreatDoor
/- What '==' says of two arrays of integers: as the lists are. -/
namespace Go
open Go.Sub

theorem all_range_ints : ∀ (xs ys : List Int), xs.length = ys.length → ((List.range xs.length).all fun i => xs.getD i 0 == ys.getD i 0) = (xs == ys)
 | [], [], _ => rfl
 | x :: xs, y :: ys, h => by
  have ih := all_range_ints xs ys (by simpa using h)
  rw [List.length_cons, List.range_succ_eq_map, List.all_cons, List.all_map]
  simp only [List.getD_cons_zero, Function.comp_def, List.getD_cons_succ, ih]
  simp [List.cons_beq_cons]
 | [], _ :: _, h => by simp at h
 | _ :: _, [], h => by simp at h

section
variable {P : Program} (w : World)
theorem run_equalIn_ints (d : Nat) (t e : TypeId) (n : Nat) (ht : P.underlying t = some (.array n e)) (he : P.underlying e = some (.int .i64)) (hsz : ∀ w, (sizeOf e).run P w = .ok 1 w)
  (xs ys : List Int) (hx : xs.length = n) (hy : ys.length = n) :
  (Op.equalIn (d + 2) t (.agg (xs.map (Value.int .i64)).toArray) (.agg (ys.map (Value.int .i64)).toArray)).run P w = .ok (xs == ys) w := by
 rw [← all_range_ints xs ys (hx.trans hy.symm), hx, List.range_eq_range', Op.equalIn]
 simp only [Sem.run_bind, run_underlying ht, Result.andThen_ok, hsz, Std.Legacy.Range.forIn_eq_forIn_range', Std.Legacy.Range.size, Nat.sub_zero, Nat.add_sub_cancel, Nat.div_one]
 have hl : ∀ i ∈ List.range' 0 n 1, i < n := fun i hi => by simpa using (List.mem_range'_1.1 hi).2
 generalize List.range' 0 n 1 = l at hl ⊢
 induction l with
 | nil => simp
 | cons i l ih =>
  have hi : i < n := hl i (by simp)
  have px : (part e (xs.map (Value.int .i64)).toArray (i * 1)).run P w = .ok (.int .i64 (xs.getD i 0)) w := by
   simp [part, isAgg, run_underlying he, List.getD, List.getElem?_eq_getElem (show i < xs.length by omega)]
  have py : (part e (ys.map (Value.int .i64)).toArray (i * 1)).run P w = .ok (.int .i64 (ys.getD i 0)) w := by
   simp [part, isAgg, run_underlying he, List.getD, List.getElem?_eq_getElem (show i < ys.length by omega)]
  have pe : (Op.equalIn (d + 1) e (.int .i64 (xs.getD i 0)) (.int .i64 (ys.getD i 0))).run P w = .ok (xs.getD i 0 == ys.getD i 0) w :=
   run_equalIn_int w d e .i64 .i64 _ _ he
  simp only [List.forIn_cons, Sem.run_bind, px, py, pe, Result.andThen_ok, List.all_cons]
  cases hb : (xs.getD i 0 == ys.getD i 0)
  ·simp
  ·simp only [Bool.not_true, Bool.false_eq_true, if_false, Sem.run_pure, Result.andThen_ok, Bool.true_and]
   exact ih fun j hj => hl j (by simp [hj])
theorem run_eql_ints (t e : TypeId) (n : Nat) (ht : P.underlying t = some (.array n e)) (he : P.underlying e = some (.int .i64)) (hsz : ∀ w, (sizeOf e).run P w = .ok 1 w)
  (xs ys : List Int) (hx : xs.length = n) (hy : ys.length = n) :
  (binOp .eql t (.agg (xs.map (Value.int .i64)).toArray) (.agg (ys.map (Value.int .i64)).toArray)).run P w = .ok (.bool (xs == ys)) w := by
 rw [run_eql_struct, run_equalIn_ints w 9998 t e n ht he hsz xs ys hx hy]
 rfl
theorem run_neq_ints (t e : TypeId) (n : Nat) (ht : P.underlying t = some (.array n e)) (he : P.underlying e = some (.int .i64)) (hsz : ∀ w, (sizeOf e).run P w = .ok 1 w)
  (xs ys : List Int) (hx : xs.length = n) (hy : ys.length = n) :
  (binOp .neq t (.agg (xs.map (Value.int .i64)).toArray) (.agg (ys.map (Value.int .i64)).toArray)).run P w = .ok (.bool (!(xs == ys))) w := by
 rw [run_neq_struct, run_equalIn_ints w 9998 t e n ht he hsz xs ys hx hy]
 rfl
end
namespace Sub
def Cy.eqB (x y : Cy) : Bool := ([x.a, x.b, x.c, x.d] == [y.a, y.b, y.c, y.d])
theorem Cy.eqB_iff (x y : Cy) : x.eqB y = true ↔ x = y := by
 cases x; cases y; simp [Cy.eqB]
@[go_sem] theorem Cy.eqB_self (x : Cy) : x.eqB x = true := (Cy.eqB_iff x x).2 rfl
theorem Cy.eqB_of {x y : Cy} (h : x = y) : x.eqB y = true := (Cy.eqB_iff x y).2 h
end Sub
end Go
/- '==' between two numbers of the ring, in this program. -/
namespace Go.Proofs.YtcjflafjmdfanaaGreatDoor
open Go.RowKit Go.Sub
@[go_sem high] theorem eqlCyc (w : World) (a b c d a' b' c' d' : Int) :
  (binOp .eql 141 (.agg #[.int .i64 a, .int .i64 b, .int .i64 c, .int .i64 d]) (.agg #[.int .i64 a', .int .i64 b', .int .i64 c', .int .i64 d'])).run Tryz.prog w = .ok (.bool (Cy.eqB ⟨a, b, c, d⟩ ⟨a', b', c', d'⟩)) w :=
 run_eql_ints (P := Tryz.prog) w 141 3 4 Tryz.underlying141 Tryz.underlying3 (fun _ => by kernel_rfl) [a, b, c, d] [a', b', c', d'] rfl rfl
@[go_sem high] theorem neqCyc (w : World) (a b c d a' b' c' d' : Int) :
  (binOp .neq 141 (.agg #[.int .i64 a, .int .i64 b, .int .i64 c, .int .i64 d]) (.agg #[.int .i64 a', .int .i64 b', .int .i64 c', .int .i64 d'])).run Tryz.prog w = .ok (.bool (!(Cy.eqB ⟨a, b, c, d⟩ ⟨a', b', c', d'⟩))) w :=
 run_neq_ints (P := Tryz.prog) w 141 3 4 Tryz.underlying141 Tryz.underlying3 (fun _ => by kernel_rfl) [a, b, c, d] [a', b', c', d'] rfl rfl
@[go_sem] theorem indexCyc0 (x0 x1 x2 x3 : Value) (w : World) : (Instr.index 141 (.agg #[x0, x1, x2, x3]) (.int .i64 0)).run Tryz.prog w = .ok x0 w := by kernel_rfl
@[go_sem] theorem indexCyc1 (x0 x1 x2 x3 : Value) (w : World) : (Instr.index 141 (.agg #[x0, x1, x2, x3]) (.int .i64 1)).run Tryz.prog w = .ok x1 w := by kernel_rfl
@[go_sem] theorem indexCyc2 (x0 x1 x2 x3 : Value) (w : World) : (Instr.index 141 (.agg #[x0, x1, x2, x3]) (.int .i64 2)).run Tryz.prog w = .ok x2 w := by kernel_rfl
@[go_sem] theorem indexCyc3 (x0 x1 x2 x3 : Value) (w : World) : (Instr.index 141 (.agg #[x0, x1, x2, x3]) (.int .i64 3)).run Tryz.prog w = .ok x3 w := by kernel_rfl
end Go.Proofs.YtcjflafjmdfanaaGreatDoor
/- What Mul, Root and Turn of package cyclo return. -/
namespace Go.Proofs.YtcjflafjmdfanaaGreatDoor
open Go.RowKit Go.Sub

/-- The table of package cyclo lies in its place. -/
def rootTab : List Int := [1, 0, 0, 0, 0, 1, 0, 0, 0, 0, 1, 0, 0, 0, 0, 1, -1, 0, 1, 0, 0, -1, 0, 1]
def RootsOK (w : World) : Prop := 0 < w.heap.size ∧ ∀ i, i < 24 → w.cell? ⟨0, i, none⟩ = some (.int .i64 (rootTab.getD i 0))
theorem RootsOK.alloc {w : World} (h : RootsOK w) (o : Obj) : RootsOK (w.alloc o) :=
 ⟨Nat.lt_of_lt_of_le h.1 (by simp), fun i hi => by rw [World.cell?_alloc_past o _ i h.1]; exact h.2 i hi⟩
theorem RootsOK.jk {w : World} (h : RootsOK w) (k : Jk) : RootsOK (w.jk k) :=
 ⟨Nat.lt_of_lt_of_le h.1 (by rw [World.size_jk]; omega), fun i hi => by rw [World.cell?_jk_lt k _ i h.1]; exact h.2 i hi⟩
theorem RootsOK.drew {w : World} (h : RootsOK w) : RootsOK w.drew := h
theorem RootsOK.q {w w' : World} (h : RootsOK w) (hq : Q w w') : RootsOK w' := by
 obtain ⟨k, rfl⟩ := hq
 exact h.jk k

set_option maxHeartbeats 400000 in
theorem root_0 (k : Int) (w : World) (hr : RootsOK w) (hk : k % 12 = 0) :
  Calls Tryz.prog 100 #[.int .i64 k] w fun e w' => e = .returned (.agg #[.int .i64 (1), .int .i64 (0), .int .i64 (0), .int .i64 (0)]) ∧ Q w w' := by
 have t0 := hr.2 0 (by omega)
 have t1 := hr.2 1 (by omega)
 have t2 := hr.2 2 (by omega)
 have t3 := hr.2 3 (by omega)
 simp only [rootTab, List.getD_cons_zero, List.getD_cons_succ] at t0 t1 t2 t3
 haveI : Old 0 w := ⟨hr.1⟩
 clear hr
 go_enter Tryz.func100, Tryz.ntmps100
 go_wp2_with (first | (go_at_call 126; refine (dozen_any _ _).mono ?_; rintro e w' ⟨rfl, rfl⟩) | (go_at_call 127; refine (minus_any _ _ _ _ _ (by omega) (by omega) (by omega) (by omega) (by omega) (by omega) (by omega) (by omega)).mono ?_; rintro e w' ⟨rfl, kj, rfl⟩))
 refine bodyPost_ret (v := .agg #[.int .i64 (1), .int .i64 (0), .int .i64 (0), .int .i64 (0)]) (by simp [results, Tryz.results100, go_sem]) rfl ⟨rfl, ?_⟩
 repeat' (first | exact Q.refl _ | refine Q.alloc ?_ _ | refine Q.jk ?_ _ | refine Q.drew ?_)

set_option maxHeartbeats 400000 in
theorem root_1 (k : Int) (w : World) (hr : RootsOK w) (hk : k % 12 = 1) :
  Calls Tryz.prog 100 #[.int .i64 k] w fun e w' => e = .returned (.agg #[.int .i64 (0), .int .i64 (1), .int .i64 (0), .int .i64 (0)]) ∧ Q w w' := by
 have t0 := hr.2 4 (by omega)
 have t1 := hr.2 5 (by omega)
 have t2 := hr.2 6 (by omega)
 have t3 := hr.2 7 (by omega)
 simp only [rootTab, List.getD_cons_zero, List.getD_cons_succ] at t0 t1 t2 t3
 haveI : Old 0 w := ⟨hr.1⟩
 clear hr
 go_enter Tryz.func100, Tryz.ntmps100
 go_wp2_with (first | (go_at_call 126; refine (dozen_any _ _).mono ?_; rintro e w' ⟨rfl, rfl⟩) | (go_at_call 127; refine (minus_any _ _ _ _ _ (by omega) (by omega) (by omega) (by omega) (by omega) (by omega) (by omega) (by omega)).mono ?_; rintro e w' ⟨rfl, kj, rfl⟩))
 refine bodyPost_ret (v := .agg #[.int .i64 (0), .int .i64 (1), .int .i64 (0), .int .i64 (0)]) (by simp [results, Tryz.results100, go_sem]) rfl ⟨rfl, ?_⟩
 repeat' (first | exact Q.refl _ | refine Q.alloc ?_ _ | refine Q.jk ?_ _ | refine Q.drew ?_)

set_option maxHeartbeats 400000 in
theorem root_2 (k : Int) (w : World) (hr : RootsOK w) (hk : k % 12 = 2) :
  Calls Tryz.prog 100 #[.int .i64 k] w fun e w' => e = .returned (.agg #[.int .i64 (0), .int .i64 (0), .int .i64 (1), .int .i64 (0)]) ∧ Q w w' := by
 have t0 := hr.2 8 (by omega)
 have t1 := hr.2 9 (by omega)
 have t2 := hr.2 10 (by omega)
 have t3 := hr.2 11 (by omega)
 simp only [rootTab, List.getD_cons_zero, List.getD_cons_succ] at t0 t1 t2 t3
 haveI : Old 0 w := ⟨hr.1⟩
 clear hr
 go_enter Tryz.func100, Tryz.ntmps100
 go_wp2_with (first | (go_at_call 126; refine (dozen_any _ _).mono ?_; rintro e w' ⟨rfl, rfl⟩) | (go_at_call 127; refine (minus_any _ _ _ _ _ (by omega) (by omega) (by omega) (by omega) (by omega) (by omega) (by omega) (by omega)).mono ?_; rintro e w' ⟨rfl, kj, rfl⟩))
 refine bodyPost_ret (v := .agg #[.int .i64 (0), .int .i64 (0), .int .i64 (1), .int .i64 (0)]) (by simp [results, Tryz.results100, go_sem]) rfl ⟨rfl, ?_⟩
 repeat' (first | exact Q.refl _ | refine Q.alloc ?_ _ | refine Q.jk ?_ _ | refine Q.drew ?_)

set_option maxHeartbeats 400000 in
theorem root_3 (k : Int) (w : World) (hr : RootsOK w) (hk : k % 12 = 3) :
  Calls Tryz.prog 100 #[.int .i64 k] w fun e w' => e = .returned (.agg #[.int .i64 (0), .int .i64 (0), .int .i64 (0), .int .i64 (1)]) ∧ Q w w' := by
 have t0 := hr.2 12 (by omega)
 have t1 := hr.2 13 (by omega)
 have t2 := hr.2 14 (by omega)
 have t3 := hr.2 15 (by omega)
 simp only [rootTab, List.getD_cons_zero, List.getD_cons_succ] at t0 t1 t2 t3
 haveI : Old 0 w := ⟨hr.1⟩
 clear hr
 go_enter Tryz.func100, Tryz.ntmps100
 go_wp2_with (first | (go_at_call 126; refine (dozen_any _ _).mono ?_; rintro e w' ⟨rfl, rfl⟩) | (go_at_call 127; refine (minus_any _ _ _ _ _ (by omega) (by omega) (by omega) (by omega) (by omega) (by omega) (by omega) (by omega)).mono ?_; rintro e w' ⟨rfl, kj, rfl⟩))
 refine bodyPost_ret (v := .agg #[.int .i64 (0), .int .i64 (0), .int .i64 (0), .int .i64 (1)]) (by simp [results, Tryz.results100, go_sem]) rfl ⟨rfl, ?_⟩
 repeat' (first | exact Q.refl _ | refine Q.alloc ?_ _ | refine Q.jk ?_ _ | refine Q.drew ?_)

set_option maxHeartbeats 400000 in
theorem root_4 (k : Int) (w : World) (hr : RootsOK w) (hk : k % 12 = 4) :
  Calls Tryz.prog 100 #[.int .i64 k] w fun e w' => e = .returned (.agg #[.int .i64 (-1), .int .i64 (0), .int .i64 (1), .int .i64 (0)]) ∧ Q w w' := by
 have t0 := hr.2 16 (by omega)
 have t1 := hr.2 17 (by omega)
 have t2 := hr.2 18 (by omega)
 have t3 := hr.2 19 (by omega)
 simp only [rootTab, List.getD_cons_zero, List.getD_cons_succ] at t0 t1 t2 t3
 haveI : Old 0 w := ⟨hr.1⟩
 clear hr
 go_enter Tryz.func100, Tryz.ntmps100
 go_wp2_with (first | (go_at_call 126; refine (dozen_any _ _).mono ?_; rintro e w' ⟨rfl, rfl⟩) | (go_at_call 127; refine (minus_any _ _ _ _ _ (by omega) (by omega) (by omega) (by omega) (by omega) (by omega) (by omega) (by omega)).mono ?_; rintro e w' ⟨rfl, kj, rfl⟩))
 refine bodyPost_ret (v := .agg #[.int .i64 (-1), .int .i64 (0), .int .i64 (1), .int .i64 (0)]) (by simp [results, Tryz.results100, go_sem]) rfl ⟨rfl, ?_⟩
 repeat' (first | exact Q.refl _ | refine Q.alloc ?_ _ | refine Q.jk ?_ _ | refine Q.drew ?_)

set_option maxHeartbeats 400000 in
theorem root_5 (k : Int) (w : World) (hr : RootsOK w) (hk : k % 12 = 5) :
  Calls Tryz.prog 100 #[.int .i64 k] w fun e w' => e = .returned (.agg #[.int .i64 (0), .int .i64 (-1), .int .i64 (0), .int .i64 (1)]) ∧ Q w w' := by
 have t0 := hr.2 20 (by omega)
 have t1 := hr.2 21 (by omega)
 have t2 := hr.2 22 (by omega)
 have t3 := hr.2 23 (by omega)
 simp only [rootTab, List.getD_cons_zero, List.getD_cons_succ] at t0 t1 t2 t3
 haveI : Old 0 w := ⟨hr.1⟩
 clear hr
 go_enter Tryz.func100, Tryz.ntmps100
 go_wp2_with (first | (go_at_call 126; refine (dozen_any _ _).mono ?_; rintro e w' ⟨rfl, rfl⟩) | (go_at_call 127; refine (minus_any _ _ _ _ _ (by omega) (by omega) (by omega) (by omega) (by omega) (by omega) (by omega) (by omega)).mono ?_; rintro e w' ⟨rfl, kj, rfl⟩))
 refine bodyPost_ret (v := .agg #[.int .i64 (0), .int .i64 (-1), .int .i64 (0), .int .i64 (1)]) (by simp [results, Tryz.results100, go_sem]) rfl ⟨rfl, ?_⟩
 repeat' (first | exact Q.refl _ | refine Q.alloc ?_ _ | refine Q.jk ?_ _ | refine Q.drew ?_)

set_option maxHeartbeats 400000 in
theorem root_6 (k : Int) (w : World) (hr : RootsOK w) (hk : k % 12 = 6) :
  Calls Tryz.prog 100 #[.int .i64 k] w fun e w' => e = .returned (.agg #[.int .i64 (-1), .int .i64 (0), .int .i64 (0), .int .i64 (0)]) ∧ Q w w' := by
 have t0 := hr.2 0 (by omega)
 have t1 := hr.2 1 (by omega)
 have t2 := hr.2 2 (by omega)
 have t3 := hr.2 3 (by omega)
 simp only [rootTab, List.getD_cons_zero, List.getD_cons_succ] at t0 t1 t2 t3
 haveI : Old 0 w := ⟨hr.1⟩
 clear hr
 go_enter Tryz.func100, Tryz.ntmps100
 go_wp2_with (first | (go_at_call 126; refine (dozen_any _ _).mono ?_; rintro e w' ⟨rfl, rfl⟩) | (go_at_call 127; refine (minus_any _ _ _ _ _ (by omega) (by omega) (by omega) (by omega) (by omega) (by omega) (by omega) (by omega)).mono ?_; rintro e w' ⟨rfl, kj, rfl⟩))
 refine bodyPost_ret (v := .agg #[.int .i64 (-1), .int .i64 (0), .int .i64 (0), .int .i64 (0)]) (by simp [results, Tryz.results100, go_sem]) rfl ⟨rfl, ?_⟩
 repeat' (first | exact Q.refl _ | refine Q.alloc ?_ _ | refine Q.jk ?_ _ | refine Q.drew ?_)

set_option maxHeartbeats 400000 in
theorem root_7 (k : Int) (w : World) (hr : RootsOK w) (hk : k % 12 = 7) :
  Calls Tryz.prog 100 #[.int .i64 k] w fun e w' => e = .returned (.agg #[.int .i64 (0), .int .i64 (-1), .int .i64 (0), .int .i64 (0)]) ∧ Q w w' := by
 have t0 := hr.2 4 (by omega)
 have t1 := hr.2 5 (by omega)
 have t2 := hr.2 6 (by omega)
 have t3 := hr.2 7 (by omega)
 simp only [rootTab, List.getD_cons_zero, List.getD_cons_succ] at t0 t1 t2 t3
 haveI : Old 0 w := ⟨hr.1⟩
 clear hr
 go_enter Tryz.func100, Tryz.ntmps100
 go_wp2_with (first | (go_at_call 126; refine (dozen_any _ _).mono ?_; rintro e w' ⟨rfl, rfl⟩) | (go_at_call 127; refine (minus_any _ _ _ _ _ (by omega) (by omega) (by omega) (by omega) (by omega) (by omega) (by omega) (by omega)).mono ?_; rintro e w' ⟨rfl, kj, rfl⟩))
 refine bodyPost_ret (v := .agg #[.int .i64 (0), .int .i64 (-1), .int .i64 (0), .int .i64 (0)]) (by simp [results, Tryz.results100, go_sem]) rfl ⟨rfl, ?_⟩
 repeat' (first | exact Q.refl _ | refine Q.alloc ?_ _ | refine Q.jk ?_ _ | refine Q.drew ?_)

set_option maxHeartbeats 400000 in
theorem root_8 (k : Int) (w : World) (hr : RootsOK w) (hk : k % 12 = 8) :
  Calls Tryz.prog 100 #[.int .i64 k] w fun e w' => e = .returned (.agg #[.int .i64 (0), .int .i64 (0), .int .i64 (-1), .int .i64 (0)]) ∧ Q w w' := by
 have t0 := hr.2 8 (by omega)
 have t1 := hr.2 9 (by omega)
 have t2 := hr.2 10 (by omega)
 have t3 := hr.2 11 (by omega)
 simp only [rootTab, List.getD_cons_zero, List.getD_cons_succ] at t0 t1 t2 t3
 haveI : Old 0 w := ⟨hr.1⟩
 clear hr
 go_enter Tryz.func100, Tryz.ntmps100
 go_wp2_with (first | (go_at_call 126; refine (dozen_any _ _).mono ?_; rintro e w' ⟨rfl, rfl⟩) | (go_at_call 127; refine (minus_any _ _ _ _ _ (by omega) (by omega) (by omega) (by omega) (by omega) (by omega) (by omega) (by omega)).mono ?_; rintro e w' ⟨rfl, kj, rfl⟩))
 refine bodyPost_ret (v := .agg #[.int .i64 (0), .int .i64 (0), .int .i64 (-1), .int .i64 (0)]) (by simp [results, Tryz.results100, go_sem]) rfl ⟨rfl, ?_⟩
 repeat' (first | exact Q.refl _ | refine Q.alloc ?_ _ | refine Q.jk ?_ _ | refine Q.drew ?_)

set_option maxHeartbeats 400000 in
theorem root_9 (k : Int) (w : World) (hr : RootsOK w) (hk : k % 12 = 9) :
  Calls Tryz.prog 100 #[.int .i64 k] w fun e w' => e = .returned (.agg #[.int .i64 (0), .int .i64 (0), .int .i64 (0), .int .i64 (-1)]) ∧ Q w w' := by
 have t0 := hr.2 12 (by omega)
 have t1 := hr.2 13 (by omega)
 have t2 := hr.2 14 (by omega)
 have t3 := hr.2 15 (by omega)
 simp only [rootTab, List.getD_cons_zero, List.getD_cons_succ] at t0 t1 t2 t3
 haveI : Old 0 w := ⟨hr.1⟩
 clear hr
 go_enter Tryz.func100, Tryz.ntmps100
 go_wp2_with (first | (go_at_call 126; refine (dozen_any _ _).mono ?_; rintro e w' ⟨rfl, rfl⟩) | (go_at_call 127; refine (minus_any _ _ _ _ _ (by omega) (by omega) (by omega) (by omega) (by omega) (by omega) (by omega) (by omega)).mono ?_; rintro e w' ⟨rfl, kj, rfl⟩))
 refine bodyPost_ret (v := .agg #[.int .i64 (0), .int .i64 (0), .int .i64 (0), .int .i64 (-1)]) (by simp [results, Tryz.results100, go_sem]) rfl ⟨rfl, ?_⟩
 repeat' (first | exact Q.refl _ | refine Q.alloc ?_ _ | refine Q.jk ?_ _ | refine Q.drew ?_)

set_option maxHeartbeats 400000 in
theorem root_10 (k : Int) (w : World) (hr : RootsOK w) (hk : k % 12 = 10) :
  Calls Tryz.prog 100 #[.int .i64 k] w fun e w' => e = .returned (.agg #[.int .i64 (1), .int .i64 (0), .int .i64 (-1), .int .i64 (0)]) ∧ Q w w' := by
 have t0 := hr.2 16 (by omega)
 have t1 := hr.2 17 (by omega)
 have t2 := hr.2 18 (by omega)
 have t3 := hr.2 19 (by omega)
 simp only [rootTab, List.getD_cons_zero, List.getD_cons_succ] at t0 t1 t2 t3
 haveI : Old 0 w := ⟨hr.1⟩
 clear hr
 go_enter Tryz.func100, Tryz.ntmps100
 go_wp2_with (first | (go_at_call 126; refine (dozen_any _ _).mono ?_; rintro e w' ⟨rfl, rfl⟩) | (go_at_call 127; refine (minus_any _ _ _ _ _ (by omega) (by omega) (by omega) (by omega) (by omega) (by omega) (by omega) (by omega)).mono ?_; rintro e w' ⟨rfl, kj, rfl⟩))
 refine bodyPost_ret (v := .agg #[.int .i64 (1), .int .i64 (0), .int .i64 (-1), .int .i64 (0)]) (by simp [results, Tryz.results100, go_sem]) rfl ⟨rfl, ?_⟩
 repeat' (first | exact Q.refl _ | refine Q.alloc ?_ _ | refine Q.jk ?_ _ | refine Q.drew ?_)

set_option maxHeartbeats 400000 in
theorem root_11 (k : Int) (w : World) (hr : RootsOK w) (hk : k % 12 = 11) :
  Calls Tryz.prog 100 #[.int .i64 k] w fun e w' => e = .returned (.agg #[.int .i64 (0), .int .i64 (1), .int .i64 (0), .int .i64 (-1)]) ∧ Q w w' := by
 have t0 := hr.2 20 (by omega)
 have t1 := hr.2 21 (by omega)
 have t2 := hr.2 22 (by omega)
 have t3 := hr.2 23 (by omega)
 simp only [rootTab, List.getD_cons_zero, List.getD_cons_succ] at t0 t1 t2 t3
 haveI : Old 0 w := ⟨hr.1⟩
 clear hr
 go_enter Tryz.func100, Tryz.ntmps100
 go_wp2_with (first | (go_at_call 126; refine (dozen_any _ _).mono ?_; rintro e w' ⟨rfl, rfl⟩) | (go_at_call 127; refine (minus_any _ _ _ _ _ (by omega) (by omega) (by omega) (by omega) (by omega) (by omega) (by omega) (by omega)).mono ?_; rintro e w' ⟨rfl, kj, rfl⟩))
 refine bodyPost_ret (v := .agg #[.int .i64 (0), .int .i64 (1), .int .i64 (0), .int .i64 (-1)]) (by simp [results, Tryz.results100, go_sem]) rfl ⟨rfl, ?_⟩
 repeat' (first | exact Q.refl _ | refine Q.alloc ?_ _ | refine Q.jk ?_ _ | refine Q.drew ?_)

theorem root_any (k : Int) (w : World) (hr : RootsOK w) :
  Calls Tryz.prog 100 #[.int .i64 k] w fun e w' => e = .returned (.agg #[.int .i64 (rootC k).a, .int .i64 (rootC k).b, .int .i64 (rootC k).c, .int .i64 (rootC k).d]) ∧ Q w w' := by
 rcases dz_cases k with hk | hk | hk | hk | hk | hk | hk | hk | hk | hk | hk | hk
 ·rw [show rootC k = (Cy.mk 1 0 0 0).tn 0 by simp [rootC, hk]]; exact root_0 k w hr hk
 ·rw [show rootC k = (Cy.mk 1 0 0 0).tn 1 by simp [rootC, hk]]; exact root_1 k w hr hk
 ·rw [show rootC k = (Cy.mk 1 0 0 0).tn 2 by simp [rootC, hk]]; exact root_2 k w hr hk
 ·rw [show rootC k = (Cy.mk 1 0 0 0).tn 3 by simp [rootC, hk]]; exact root_3 k w hr hk
 ·rw [show rootC k = (Cy.mk 1 0 0 0).tn 4 by simp [rootC, hk]]; exact root_4 k w hr hk
 ·rw [show rootC k = (Cy.mk 1 0 0 0).tn 5 by simp [rootC, hk]]; exact root_5 k w hr hk
 ·rw [show rootC k = (Cy.mk 1 0 0 0).tn 6 by simp [rootC, hk]]; exact root_6 k w hr hk
 ·rw [show rootC k = (Cy.mk 1 0 0 0).tn 7 by simp [rootC, hk]]; exact root_7 k w hr hk
 ·rw [show rootC k = (Cy.mk 1 0 0 0).tn 8 by simp [rootC, hk]]; exact root_8 k w hr hk
 ·rw [show rootC k = (Cy.mk 1 0 0 0).tn 9 by simp [rootC, hk]]; exact root_9 k w hr hk
 ·rw [show rootC k = (Cy.mk 1 0 0 0).tn 10 by simp [rootC, hk]]; exact root_10 k w hr hk
 ·rw [show rootC k = (Cy.mk 1 0 0 0).tn 11 by simp [rootC, hk]]; exact root_11 k w hr hk

end Go.Proofs.YtcjflafjmdfanaaGreatDoor
/- What the helpers of the laws on the ring return: Small, mul, add, conj, known; and the contracts of package cyclo within the limits. -/
namespace Go.Proofs.YtcjflafjmdfanaaGreatDoor
open Go.RowKit Go.Sub

theorem addR_ok {x y : Cy} (hx : x.In 100000000000000000) (hy : y.In 100000000000000000) : addR x y = ⟨x.add y, 0⟩ := by
 have h1 := wiB_of (hx.mono (show (100000000000000000 : Int) ≤ 576460752303423488 by decide))
 have h2 := wiB_of (hy.mono (show (100000000000000000 : Int) ≤ 576460752303423488 by decide))
 have h3 : wiB (x.add y) 576460752303423488 = true := wiB_of (by unfold Cy.In at *; unfold Cy.add; dsimp only; omega)
 simp [addR, limR, h1, h2, h3]
theorem tn_in {x : Cy} {l : Int} (hx : x.In l) : ∀ n, n < 12 → (x.tn n).In (2 * l)
 | 0, _ | 1, _ | 2, _ | 3, _ | 4, _ | 5, _ | 6, _ | 7, _ | 8, _ | 9, _ | 10, _ | 11, _ => by
  unfold Cy.In at *
  simp only [Cy.tn]
  omega
 | _ + 12, h => by omega
theorem turn_in {x : Cy} {l : Int} (k : Int) (hx : x.In l) : (x.turn k).In (2 * l) := tn_in hx _ (by omega)
theorem normR_ok {x : Cy} (hx : x.In 268435456) : normR x = ⟨x.norm, 0⟩ := by
 simp [normR, wiB_of hx]

theorem add_c (x y : Cy) (w : World) (hx : x.In 100000000000000000) (hy : y.In 100000000000000000) : Calls Tryz.prog 121 #[.agg #[.int .i64 x.a, .int .i64 x.b, .int .i64 x.c, .int .i64 x.d], .agg #[.int .i64 y.a, .int .i64 y.b, .int .i64 y.c, .int .i64 y.d]] w fun e w' => e = .returned (.tuple #[.agg #[.int .i64 (x.add y).a, .int .i64 (x.add y).b, .int .i64 (x.add y).c, .int .i64 (x.add y).d], .int .i64 0]) ∧ Q w w' := by
 have h := add_any x.a x.b x.c x.d y.a y.b y.c y.d w
 rw [addR_ok hx hy] at h
 exact h
theorem norm_c (x : Cy) (w : World) (hx : x.In 268435456) : Calls Tryz.prog 103 #[.agg #[.int .i64 x.a, .int .i64 x.b, .int .i64 x.c, .int .i64 x.d]] w fun e w' => e = .returned (.tuple #[.agg #[.int .i64 (x.norm).a, .int .i64 (x.norm).b], .int .i64 0]) ∧ Q w w' := by
 have h := norm_any x.a x.b x.c x.d w
 rw [normR_ok hx] at h
 exact h

end Go.Proofs.YtcjflafjmdfanaaGreatDoor
namespace Go.Sub
theorem Cy.mul_comm (x y : Cy) : y.mul x = x.mul y := by
 apply Cy.ext' <;> simp only [Cy.mul] <;> grind
theorem Cy.mul_assoc (x y z : Cy) : x.mul (y.mul z) = (x.mul y).mul z := by
 apply Cy.ext' <;> simp only [Cy.mul] <;> grind
theorem Cy.mul_add (x y z : Cy) : x.mul (y.add z) = (x.mul y).add (x.mul z) := by
 apply Cy.ext' <;> simp only [Cy.mul, Cy.add] <;> grind
theorem Cy.add_in {x y : Cy} {l m : Int} (hx : x.In l) (hy : y.In m) : (x.add y).In (l + m) := by
 unfold Cy.In at *; unfold Cy.add; dsimp only; omega
theorem tmod_bd (a : Int) (n : Int) (hn : 0 < n) : -(n - 1) ≤ a.tmod n ∧ a.tmod n ≤ n - 1 := by
 rcases Int.le_total 0 a with h | h
 ·rw [Int.tmod_eq_emod_of_nonneg h]
  have h1 := Int.emod_nonneg a (show n ≠ 0 by omega)
  have h2 := Int.emod_lt_of_pos a hn
  omega
 ·obtain ⟨b, rfl⟩ : ∃ b, a = -b := ⟨-a, by omega⟩
  rw [Int.neg_tmod, Int.tmod_eq_emod_of_nonneg (show 0 ≤ b by omega)]
  have h1 := Int.emod_nonneg b (show n ≠ 0 by omega)
  have h2 := Int.emod_lt_of_pos b hn
  omega
end Go.Sub
