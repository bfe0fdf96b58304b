
/- What node, around and Boundary of the reference 06 return for a station and a position that have no error, and a group of buses. -/
import Derived.Test.YtcjflafjmdfanaaGreatDoorBv29
import Derived.Deep.RegionLaw
import Derived.Test.YtcjflafjmdfanaaGreatDoorBv20
set_option maxHeartbeats 64000000
set_option maxRecDepth 100000
set_option linter.unusedSimpArgs false
set_option linter.unusedVariables false
/- What sides and Sides of the reference 06 return for a station and a position that have no error. -/
namespace Go.Proofs.YtcjflafjmdfanaaGreatDoor
open Go.RowKit Go.Sub
attribute [local go_sem ↓] Go.wp_at_zero Go.wp_at_succ
theorem r6sides_c (s : Sta) (p : Pos) (k : Nat) (y : Byr) (w : World) (h : GoodAt w s p) (hy : s.bays[k]? = some y) :
  Calls Tryz.prog 82 #[.agg #[Value.string s.nm, Value.slice s.aB s.buses.length s.cB, Value.slice s.aL s.lines.length s.cL, Value.slice s.aS s.srcs.length s.cS, Value.slice s.aY s.bays.length s.cY], .agg #[Value.slice p.aC p.closed.length p.cC, Value.slice p.aK p.rows.length p.cK], .int .i64 k] w fun e w' => e = .returned (.agg #[.int .i64 (sdZ s p (grI s p) k).1, .int .i64 (sdZ s p (grI s p) k).2.1, .int .i64 (sdZ s p (grI s p) k).2.2.1, .int .i64 (sdZ s p (grI s p) k).2.2.2]) ∧ Q w w' := by
 have HGA := hh h
 have lens := h.lens
 obtain ⟨l1, l2, l3, l4, l5, l6, l7⟩ := lens
 have hok := h.ok k y hy
 have hlt := (List.getElem?_eq_some_iff.1 hy).1
 obtain ⟨r, hr, hrl⟩ := hok.row
 have hlk := (h.st.lk k y hy).1
 have hln := hlk.2
 obtain ⟨g, o, eA, og, hc⟩ := h.st.bayAt hy
 obtain ⟨g', o', eA', og', r1⟩ := h.ps.rowAt hr
 obtain ⟨g2, o2, eL, og2, hc2⟩ := hlk.at_ (by rcases hok.ln with h | h <;> omega)
 obtain ⟨g3, o3, eR, og3, hc3⟩ := (h.ps.row r (List.mem_of_getElem? hr)).1.at_ (by rw [hrl]; rcases hok.ln with h | h <;> omega)
 obtain ⟨q0, q1, q2, q3, q4, q5, q6, q7, q8, q9, q10, q11⟩ := by12 hc
 rw [eL] at q6
 rw [eR, hrl, hln] at r1
 have hrl2 := hrl.trans hln
 have k0 : (0 : Int) ≤ (k : Int) := by omega
 have k1 : (k : Int) < (s.bays.length : Int) := by omega
 have k2 : (k : Int) < (p.rows.length : Int) := by omega
 have hbus := hok.bus
 have hkd := hok.kd
 have hlen := hok.ln
 have hl3 := hok.l3
 have GR0 : Hid (∀ (w' : World) (hq : Q w w'), Calls Tryz.prog 90 #[.agg #[Value.string s.nm, Value.slice s.aB s.buses.length s.cB, Value.slice s.aL s.lines.length s.cL, Value.slice s.aS s.srcs.length s.cS, Value.slice s.aY s.bays.length s.cY], .agg #[Value.slice p.aC p.closed.length p.cC, Value.slice p.aK p.rows.length p.cK]] w' (RetI (grI s p) w')) := hh fun w' hq => r6groups_c s p w' (h.q hq)
 have LG : Hid ((grI s p).length = s.buses.length) := hh (grI_len s p)
 have B1 : 1 ≤ s.buses.length := l1
 have SD : ∀ gl, sdZ s p gl k = match s.lks k with
   | l0 :: rest => if y.kd = 3 then (1, busN gl l0, 1, busN gl (rest.headD l0)) else ((sdA s p gl k).1, (sdA s p gl k).2, if y.kd = 1 then 2 else 3, y.of)
   | [] => (0, 0, 0, 0) := by intro gl; unfold sdZ; rw [hy]; cases s.lks k <;> rfl
 have SA0 : ∀ gl, sdA s p gl k = match s.lks k with
   | [] => (0, 0)
   | l0 :: rest => if clB p k 0 = true then (1, busN gl l0) else match rest with | [] => (0, 0) | l1 :: _ => if clB p k 1 = true then (1, busN gl l1) else (0, 0) := fun _ => rfl
 have ECL : ∀ j, clB p k j = decide (r.l.getD j 0 = 1) := fun j => by unfold clB; rw [hr]
 generalize grI s p = gl at GR0 LG ⊢
 replace SD := SD gl
 replace SA0 := SA0 gl
 generalize s.lks k = lk at SD SA0 hbus hc2 hln hlen hl3 hrl
 generalize hlny : y.ln = ln at *
 have EA := hh eA
 have EA' := hh eA'
 have HSD := hh SD
 have HSA := hh SA0
 have u0 := hc3.o 0 (by omega)
 rw [Nat.add_zero] at u0
 have C0 := hh (ECL 0)
 have C1 := hh (ECL 1)
 generalize r.l.getD 0 0 = x0 at u0 C0
 clear SD SA0 hc eL eR hlk hok hr hy h ECL l3 l4 l5 l6 l7 hlt eA eA'
 have hcs : (∃ l0, lk = [l0]) ∨ (∃ l0 l1, lk = [l0, l1]) := by
  match lk, hlen with
  | [l0], _ => exact .inl ⟨l0, rfl⟩
  | [l0, l1], _ => exact .inr ⟨l0, l1, rfl⟩
  | [], h => exact absurd h (by decide)
  | _ :: _ :: _ :: _, h => simp at h
 rcases hcs with ⟨l0, rfl⟩ | ⟨l0, l1, rfl⟩
 ·have hk3 : y.kd ≠ 3 := fun e => absurd (hl3 e) (by simp)
  obtain ⟨a1, a2⟩ := hc2.o 0 l0 rfl
  rw [Nat.zero_mul, Nat.add_zero] at a1 a2
  obtain ⟨hb1, hb2⟩ := hbus l0 (by simp)
  obtain ⟨bus0, pos0⟩ := l0
  dsimp only at a1 a2 hb1 hb2
  obtain ⟨b0, rfl⟩ := Int.eq_ofNat_of_zero_le hb1
  have hB0 : b0 < s.buses.length := by omega
  have SA1 : Hid (sdA s p gl k = if x0 = 1 then (1, gl.getD b0 0) else (0, 0)) := hh (by rw [HSA.o]; show (if clB p k 0 = true then (1, busN gl ⟨(b0 : Int), pos0⟩) else (0, 0)) = _; rw [C0.o]; by_cases hx : x0 = 1 <;> simp [hx, busN])
  have SD1 : Hid (sdZ s p gl k = ((sdA s p gl k).1, (sdA s p gl k).2, if y.kd = 1 then 2 else 3, y.of)) := hh (by rw [HSD.o]; exact if_neg hk3)
  have hln1 : ln = 1 := by simpa using hln.symm
  subst hln1
  have e3 : (y.kd == 3) = false := by simpa using hk3
  clear HSA HSD hbus hc2 hln hlen hl3 hlny hb1 hb2 hc3 a2 C0 C1 hrl hrl2
  go_enter Tryz.func82, Tryz.ntmps82
  go_upto_region 1 with fail
  obtain ⟨V, eV⟩ : ∃ V, (w.alloc (Obj.cells #[Value.string s.nm, Value.slice s.aB s.buses.length s.cB, Value.slice s.aL s.lines.length s.cL, Value.slice s.aS s.srcs.length s.cS, Value.slice s.aY s.bays.length s.cY] 27)).alloc (Obj.cells #[Value.slice p.aC p.closed.length p.cC, Value.slice p.aK p.rows.length p.cK] 31) = V := ⟨_, rfl⟩
  have hsz : w.heap.size + 1 + 1 = V.heap.size := by rw [← eV]; simp
  have hq0 : Q w V := by rw [← eV]; exact Q.i
  have hb : HB V w.heap.size #[Value.string s.nm, Value.slice s.aB s.buses.length s.cB, Value.slice s.aL s.lines.length s.cL, Value.slice s.aS s.srcs.length s.cS, Value.slice s.aY s.bays.length s.cY] 27 := by rw [← eV]; exact (HB.new _ _ _ _ rfl).q Q.i
  have hb2 : HB V (w.heap.size + 1) #[Value.slice p.aC p.closed.length p.cC, Value.slice p.aK p.rows.length p.cK] 31 := by rw [← eV]; exact HB.new (w.alloc (Obj.cells #[Value.string s.nm, Value.slice s.aB s.buses.length s.cB, Value.slice s.aL s.lines.length s.cL, Value.slice s.aS s.srcs.length s.cS, Value.slice s.aY s.bays.length s.cY] 27)) _ _ _ (by simp)
  rw [eV, hsz]
  have HQ0 := hh hq0
  have s0 := hb.cell 0
  have s1 := hb.cell 1
  have s2 := hb.cell 2
  have s3 := hb.cell 3
  have s4 := hb.cell 4
  have p0 := hb2.cell 0
  have p1 := hb2.cell 1
  simp only [List.getElem?_toArray, List.getElem?_cons_zero, List.getElem?_cons_succ] at s0 s1 s2 s3 s4 p0 p1
  have ob := hb.old
  have ob2 := hb2.old
  replace q0 := (hq0.below.cell (p := ⟨g, o + k * 12, none⟩) og.lt).trans q0
  replace q1 := (hq0.below.cell (p := ⟨g, o + k * 12 + 1, none⟩) og.lt).trans q1
  replace q2 := (hq0.below.cell (p := ⟨g, o + k * 12 + 2, none⟩) og.lt).trans q2
  replace q3 := (hq0.below.cell (p := ⟨g, o + k * 12 + 3, none⟩) og.lt).trans q3
  replace q4 := (hq0.below.cell (p := ⟨g, o + k * 12 + 4, none⟩) og.lt).trans q4
  replace q5 := (hq0.below.cell (p := ⟨g, o + k * 12 + 5, none⟩) og.lt).trans q5
  replace q6 := (hq0.below.cell (p := ⟨g, o + k * 12 + 6, none⟩) og.lt).trans q6
  replace q7 := (hq0.below.cell (p := ⟨g, o + k * 12 + 7, none⟩) og.lt).trans q7
  replace q8 := (hq0.below.cell (p := ⟨g, o + k * 12 + 8, none⟩) og.lt).trans q8
  replace q9 := (hq0.below.cell (p := ⟨g, o + k * 12 + 9, none⟩) og.lt).trans q9
  replace q10 := (hq0.below.cell (p := ⟨g, o + k * 12 + 10, none⟩) og.lt).trans q10
  replace q11 := (hq0.below.cell (p := ⟨g, o + k * 12 + 11, none⟩) og.lt).trans q11
  replace r1 := (hq0.below.cell (p := ⟨g', o' + k, none⟩) og'.lt).trans r1
  replace u0 := (hq0.below.cell (p := ⟨g3, o3, none⟩) og3.lt).trans u0
  replace a1 := (hq0.below.cell (p := ⟨g2, o2, none⟩) og2.lt).trans a1
  have og_ : Old g V := ⟨Nat.lt_of_lt_of_le og.lt hq0.below.size⟩
  have og2_ : Old g2 V := ⟨Nat.lt_of_lt_of_le og2.lt hq0.below.size⟩
  have og3_ : Old g3 V := ⟨Nat.lt_of_lt_of_le og3.lt hq0.below.size⟩
  have og'_ : Old g' V := ⟨Nat.lt_of_lt_of_le og'.lt hq0.below.size⟩
  have GR := hh fun (w' : World) (hq : Q V w') => GR0.o w' (HQ0.o.trans hq)
  rw [EA.o] at s4 GR
  rw [EA'.o] at p1 GR
  clear eV hb hq0 hb2 hsz
  generalize w.heap.size + 1 = b2 at p0 p1 ob2 ⊢
  generalize w.heap.size = b at s0 s1 s2 s3 s4 ob ⊢
  go_upto_region 3 with (first | (go_at_call 90; (with_reducible refine (GR.o _ Q.i).mono ?_); rintro e w' ⟨v, rfl, ⟨kg, rfl⟩, hrv⟩; obtain ⟨A, cG, rfl⟩ := own_slice' hrv; rw [LG.o] at hrv ⊢; obtain ⟨gG, rfl, hgG, hcG⟩ := rowI_win hrv LG.o (by omega); have x1 := (hcG.o b0 (by omega)).1; have oG : Old gG ((V.alloc (Obj.cells #[Value.int .i64 0, Value.int .i64 0, Value.int .i64 0, Value.int .i64 0] 120)).jk kg) := ⟨World.block_lt_of_cell? _ _ x1⟩; clear hrv hcG hgG) | fail)
  have hk12 : y.kd = 1 ∨ y.kd = 2 := by omega
  by_cases hx0 : x0 = 1
  ·have f0 : (x0 == 1) = true := by simpa using hx0
   rcases hk12 with hk1 | hk1
   ·have e1 : (y.kd == 2) = false := by rw [hk1]; rfl
    have EV : Hid (sdZ s p gl k = (1, gl.getD b0 0, 2, y.of)) := hh (by rw [SD1.o, SA1.o, if_pos hx0, if_pos hk1])
    go_wp2_with fail
    refine wp_loop_rounds 2 ?_
    rw [rounds_succ]
    go_wp2_with fail
    rw [rounds_succ]
    go_wp2_with fail
    refine bodyPost_ret (v := .agg #[.int .i64 1, .int .i64 (gl.getD b0 0), .int .i64 2, .int .i64 (y.of)]) (by simp [results, Tryz.results82, go_sem]) rfl ⟨by rw [EV.o], HQ0.o.trans ?_⟩
    repeat' (first | exact Q.refl _ | refine Q.alloc ?_ _ | refine Q.jk ?_ _ | refine Q.drew ?_ | refine Q.setCell ?_ (by simp [World.size_jk] <;> omega) _)
   have e1 : (y.kd == 2) = true := by rw [hk1]; rfl
   have EV : Hid (sdZ s p gl k = (1, gl.getD b0 0, 3, y.of)) := hh (by rw [SD1.o, SA1.o, if_pos hx0, if_neg (by omega)])
   go_wp2_with fail
   refine wp_loop_rounds 2 ?_
   rw [rounds_succ]
   go_wp2_with fail
   rw [rounds_succ]
   go_wp2_with fail
   refine bodyPost_ret (v := .agg #[.int .i64 1, .int .i64 (gl.getD b0 0), .int .i64 3, .int .i64 (y.of)]) (by simp [results, Tryz.results82, go_sem]) rfl ⟨by rw [EV.o], HQ0.o.trans ?_⟩
   repeat' (first | exact Q.refl _ | refine Q.alloc ?_ _ | refine Q.jk ?_ _ | refine Q.drew ?_ | refine Q.setCell ?_ (by simp [World.size_jk] <;> omega) _)
  have f0 : (x0 == 1) = false := by simpa using hx0
  rcases hk12 with hk1 | hk1
  ·have e1 : (y.kd == 2) = false := by rw [hk1]; rfl
   have EV : Hid (sdZ s p gl k = (0, 0, 2, y.of)) := hh (by rw [SD1.o, SA1.o, if_neg hx0, if_pos hk1])
   go_wp2_with fail
   refine wp_loop_rounds 2 ?_
   rw [rounds_succ]
   go_wp2_with fail
   rw [rounds_succ]
   go_wp2_with fail
   refine bodyPost_ret (v := .agg #[.int .i64 0, .int .i64 (0), .int .i64 2, .int .i64 (y.of)]) (by simp [results, Tryz.results82, go_sem]) rfl ⟨by rw [EV.o], HQ0.o.trans ?_⟩
   repeat' (first | exact Q.refl _ | refine Q.alloc ?_ _ | refine Q.jk ?_ _ | refine Q.drew ?_ | refine Q.setCell ?_ (by simp [World.size_jk] <;> omega) _)
  have e1 : (y.kd == 2) = true := by rw [hk1]; rfl
  have EV : Hid (sdZ s p gl k = (0, 0, 3, y.of)) := hh (by rw [SD1.o, SA1.o, if_neg hx0, if_neg (by omega)])
  go_wp2_with fail
  refine wp_loop_rounds 2 ?_
  rw [rounds_succ]
  go_wp2_with fail
  rw [rounds_succ]
  go_wp2_with fail
  refine bodyPost_ret (v := .agg #[.int .i64 0, .int .i64 (0), .int .i64 3, .int .i64 (y.of)]) (by simp [results, Tryz.results82, go_sem]) rfl ⟨by rw [EV.o], HQ0.o.trans ?_⟩
  repeat' (first | exact Q.refl _ | refine Q.alloc ?_ _ | refine Q.jk ?_ _ | refine Q.drew ?_ | refine Q.setCell ?_ (by simp [World.size_jk] <;> omega) _)
 obtain ⟨a1, a2⟩ := hc2.o 0 l0 rfl
 obtain ⟨d1, d2⟩ := hc2.o 1 l1 rfl
 rw [Nat.zero_mul, Nat.add_zero] at a1 a2
 rw [Nat.one_mul] at d1 d2
 obtain ⟨hb1, hb2⟩ := hbus l0 (by simp)
 obtain ⟨hb3, hb4⟩ := hbus l1 (by simp)
 obtain ⟨bus0, pos0⟩ := l0
 obtain ⟨bus1, pos1⟩ := l1
 dsimp only at a1 a2 d1 d2 hb1 hb2 hb3 hb4
 obtain ⟨b0, rfl⟩ := Int.eq_ofNat_of_zero_le hb1
 obtain ⟨b1, rfl⟩ := Int.eq_ofNat_of_zero_le hb3
 have hB0 : b0 < s.buses.length := by omega
 have hB1 : b1 < s.buses.length := by omega
 have hln1 : ln = 2 := by simpa using hln.symm
 subst hln1
 have u1 := hc3.o 1 (by omega)
 generalize r.l.getD 1 0 = x1' at u1 C1
 go_enter Tryz.func82, Tryz.ntmps82
 go_upto_region 1 with fail
 obtain ⟨V, eV⟩ : ∃ V, (w.alloc (Obj.cells #[Value.string s.nm, Value.slice s.aB s.buses.length s.cB, Value.slice s.aL s.lines.length s.cL, Value.slice s.aS s.srcs.length s.cS, Value.slice s.aY s.bays.length s.cY] 27)).alloc (Obj.cells #[Value.slice p.aC p.closed.length p.cC, Value.slice p.aK p.rows.length p.cK] 31) = V := ⟨_, rfl⟩
 have hsz : w.heap.size + 1 + 1 = V.heap.size := by rw [← eV]; simp
 have hq0 : Q w V := by rw [← eV]; exact Q.i
 have hb : HB V w.heap.size #[Value.string s.nm, Value.slice s.aB s.buses.length s.cB, Value.slice s.aL s.lines.length s.cL, Value.slice s.aS s.srcs.length s.cS, Value.slice s.aY s.bays.length s.cY] 27 := by rw [← eV]; exact (HB.new _ _ _ _ rfl).q Q.i
 have hb2 : HB V (w.heap.size + 1) #[Value.slice p.aC p.closed.length p.cC, Value.slice p.aK p.rows.length p.cK] 31 := by rw [← eV]; exact HB.new (w.alloc (Obj.cells #[Value.string s.nm, Value.slice s.aB s.buses.length s.cB, Value.slice s.aL s.lines.length s.cL, Value.slice s.aS s.srcs.length s.cS, Value.slice s.aY s.bays.length s.cY] 27)) _ _ _ (by simp)
 rw [eV, hsz]
 have HQ0 := hh hq0
 have s0 := hb.cell 0
 have s1 := hb.cell 1
 have s2 := hb.cell 2
 have s3 := hb.cell 3
 have s4 := hb.cell 4
 have p0 := hb2.cell 0
 have p1 := hb2.cell 1
 simp only [List.getElem?_toArray, List.getElem?_cons_zero, List.getElem?_cons_succ] at s0 s1 s2 s3 s4 p0 p1
 have ob := hb.old
 have ob2 := hb2.old
 replace q0 := (hq0.below.cell (p := ⟨g, o + k * 12, none⟩) og.lt).trans q0
 replace q1 := (hq0.below.cell (p := ⟨g, o + k * 12 + 1, none⟩) og.lt).trans q1
 replace q2 := (hq0.below.cell (p := ⟨g, o + k * 12 + 2, none⟩) og.lt).trans q2
 replace q3 := (hq0.below.cell (p := ⟨g, o + k * 12 + 3, none⟩) og.lt).trans q3
 replace q4 := (hq0.below.cell (p := ⟨g, o + k * 12 + 4, none⟩) og.lt).trans q4
 replace q5 := (hq0.below.cell (p := ⟨g, o + k * 12 + 5, none⟩) og.lt).trans q5
 replace q6 := (hq0.below.cell (p := ⟨g, o + k * 12 + 6, none⟩) og.lt).trans q6
 replace q7 := (hq0.below.cell (p := ⟨g, o + k * 12 + 7, none⟩) og.lt).trans q7
 replace q8 := (hq0.below.cell (p := ⟨g, o + k * 12 + 8, none⟩) og.lt).trans q8
 replace q9 := (hq0.below.cell (p := ⟨g, o + k * 12 + 9, none⟩) og.lt).trans q9
 replace q10 := (hq0.below.cell (p := ⟨g, o + k * 12 + 10, none⟩) og.lt).trans q10
 replace q11 := (hq0.below.cell (p := ⟨g, o + k * 12 + 11, none⟩) og.lt).trans q11
 replace r1 := (hq0.below.cell (p := ⟨g', o' + k, none⟩) og'.lt).trans r1
 replace u0 := (hq0.below.cell (p := ⟨g3, o3, none⟩) og3.lt).trans u0
 replace a1 := (hq0.below.cell (p := ⟨g2, o2, none⟩) og2.lt).trans a1
 replace u1 := (hq0.below.cell (p := ⟨g3, o3 + 1, none⟩) og3.lt).trans u1
 replace d1 := (hq0.below.cell (p := ⟨g2, o2 + 2, none⟩) og2.lt).trans d1
 have og_ : Old g V := ⟨Nat.lt_of_lt_of_le og.lt hq0.below.size⟩
 have og2_ : Old g2 V := ⟨Nat.lt_of_lt_of_le og2.lt hq0.below.size⟩
 have og3_ : Old g3 V := ⟨Nat.lt_of_lt_of_le og3.lt hq0.below.size⟩
 have og'_ : Old g' V := ⟨Nat.lt_of_lt_of_le og'.lt hq0.below.size⟩
 have GR := hh fun (w' : World) (hq : Q V w') => GR0.o w' (HQ0.o.trans hq)
 rw [EA.o] at s4 GR
 rw [EA'.o] at p1 GR
 clear eV hb hq0 hb2 hsz
 generalize w.heap.size + 1 = b2 at p0 p1 ob2 ⊢
 generalize w.heap.size = b at s0 s1 s2 s3 s4 ob ⊢
 go_upto_region 3 with (first | (go_at_call 90; (with_reducible refine (GR.o _ Q.i).mono ?_); rintro e w' ⟨v, rfl, ⟨kg, rfl⟩, hrv⟩; obtain ⟨A, cG, rfl⟩ := own_slice' hrv; rw [LG.o] at hrv ⊢; obtain ⟨gG, rfl, hgG, hcG⟩ := rowI_win hrv LG.o (by omega); have x1 := (hcG.o b0 (by omega)).1; have x2 := (hcG.o b1 (by omega)).1; have oG : Old gG ((V.alloc (Obj.cells #[Value.int .i64 0, Value.int .i64 0, Value.int .i64 0, Value.int .i64 0] 120)).jk kg) := ⟨World.block_lt_of_cell? _ _ x1⟩; clear hrv hcG hgG) | fail)
 by_cases hk3 : y.kd = 3
 ·have SD1 : Hid (sdZ s p gl k = (1, gl.getD b0 0, 1, gl.getD b1 0)) := hh (by rw [HSD.o]; exact if_pos hk3)
  have e3 : (y.kd == 3) = true := by simpa using hk3
  clear HSA HSD hbus hc2 hln hlen hl3 hlny hb1 hb2 hb3 hb4 hc3 a2 d2 C0 C1 hrl hrl2
  have EV := SD1
  go_wp2_with fail
  refine wp_region_tail 19 (by kernel_rfl) (by kernel_rfl) ?_
  simp only [List.take_succ_cons, List.take_zero, List.drop_succ_cons, List.drop_zero]
  repeat (go_big_quiet_step (fail))
  refine wq0 fun kq => ?_
  go_wp2_with fail
  refine bodyPost_ret (v := .agg #[.int .i64 1, .int .i64 (gl.getD b0 0), .int .i64 1, .int .i64 (gl.getD b1 0)]) (by simp [results, Tryz.results82, go_sem]) rfl ⟨by rw [EV.o], HQ0.o.trans ?_⟩
  repeat' (first | exact Q.refl _ | refine Q.alloc ?_ _ | refine Q.jk ?_ _ | refine Q.drew ?_ | refine Q.setCell ?_ (by simp [World.size_jk] <;> omega) _)
 have SA1 : Hid (sdA s p gl k = if x0 = 1 then (1, gl.getD b0 0) else if x1' = 1 then (1, gl.getD b1 0) else (0, 0)) := hh (by rw [HSA.o]; show (if clB p k 0 = true then (1, busN gl ⟨(b0 : Int), pos0⟩) else if clB p k 1 = true then (1, busN gl ⟨(b1 : Int), pos1⟩) else (0, 0)) = _; rw [C0.o, C1.o]; by_cases hx : x0 = 1 <;> by_cases hx' : x1' = 1 <;> simp [hx, hx', busN])
 have SD1 : Hid (sdZ s p gl k = ((sdA s p gl k).1, (sdA s p gl k).2, if y.kd = 1 then 2 else 3, y.of)) := hh (by rw [HSD.o]; exact if_neg hk3)
 have e3 : (y.kd == 3) = false := by simpa using hk3
 clear HSA HSD hbus hc2 hln hlen hl3 hlny hb1 hb2 hb3 hb4 hc3 a2 d2 C0 C1 hrl hrl2
 have hk12 : y.kd = 1 ∨ y.kd = 2 := by omega
 rcases hk12 with hk1 | hk1
 ·have e1 : (y.kd == 2) = false := by rw [hk1]; rfl
  by_cases hx0 : x0 = 1 <;> by_cases hx1 : x1' = 1
  ·have f0 : (x0 == 1) = true := by simpa using hx0
   have f1 : (x1' == 1) = true := by simpa using hx1
   have EV : Hid (sdZ s p gl k = (1, gl.getD b0 0, 2, y.of)) := hh (by rw [SD1.o, SA1.o, if_pos hx0, if_pos hk1])
   go_wp2_with fail
   refine wp_loop_rounds 3 ?_
   rw [rounds_succ]
   go_wp2_with fail
   rw [rounds_succ]
   go_wp2_with fail
   rw [rounds_succ]
   go_wp2_with fail
   refine bodyPost_ret (v := .agg #[.int .i64 1, .int .i64 (gl.getD b0 0), .int .i64 2, .int .i64 (y.of)]) (by simp [results, Tryz.results82, go_sem]) rfl ⟨by rw [EV.o], HQ0.o.trans ?_⟩
   repeat' (first | exact Q.refl _ | refine Q.alloc ?_ _ | refine Q.jk ?_ _ | refine Q.drew ?_ | refine Q.setCell ?_ (by simp [World.size_jk] <;> omega) _)
  ·have f0 : (x0 == 1) = true := by simpa using hx0
   have f1 : (x1' == 1) = false := by simpa using hx1
   have EV : Hid (sdZ s p gl k = (1, gl.getD b0 0, 2, y.of)) := hh (by rw [SD1.o, SA1.o, if_pos hx0, if_pos hk1])
   go_wp2_with fail
   refine wp_loop_rounds 3 ?_
   rw [rounds_succ]
   go_wp2_with fail
   rw [rounds_succ]
   go_wp2_with fail
   rw [rounds_succ]
   go_wp2_with fail
   refine bodyPost_ret (v := .agg #[.int .i64 1, .int .i64 (gl.getD b0 0), .int .i64 2, .int .i64 (y.of)]) (by simp [results, Tryz.results82, go_sem]) rfl ⟨by rw [EV.o], HQ0.o.trans ?_⟩
   repeat' (first | exact Q.refl _ | refine Q.alloc ?_ _ | refine Q.jk ?_ _ | refine Q.drew ?_ | refine Q.setCell ?_ (by simp [World.size_jk] <;> omega) _)
  ·have f0 : (x0 == 1) = false := by simpa using hx0
   have f1 : (x1' == 1) = true := by simpa using hx1
   have EV : Hid (sdZ s p gl k = (1, gl.getD b1 0, 2, y.of)) := hh (by rw [SD1.o, SA1.o, if_neg hx0, if_pos hx1, if_pos hk1])
   go_wp2_with fail
   refine wp_loop_rounds 3 ?_
   rw [rounds_succ]
   go_wp2_with fail
   rw [rounds_succ]
   go_wp2_with fail
   rw [rounds_succ]
   go_wp2_with fail
   refine bodyPost_ret (v := .agg #[.int .i64 1, .int .i64 (gl.getD b1 0), .int .i64 2, .int .i64 (y.of)]) (by simp [results, Tryz.results82, go_sem]) rfl ⟨by rw [EV.o], HQ0.o.trans ?_⟩
   repeat' (first | exact Q.refl _ | refine Q.alloc ?_ _ | refine Q.jk ?_ _ | refine Q.drew ?_ | refine Q.setCell ?_ (by simp [World.size_jk] <;> omega) _)
  have f0 : (x0 == 1) = false := by simpa using hx0
  have f1 : (x1' == 1) = false := by simpa using hx1
  have EV : Hid (sdZ s p gl k = (0, 0, 2, y.of)) := hh (by rw [SD1.o, SA1.o, if_neg hx0, if_neg hx1, if_pos hk1])
  go_wp2_with fail
  refine wp_loop_rounds 3 ?_
  rw [rounds_succ]
  go_wp2_with fail
  rw [rounds_succ]
  go_wp2_with fail
  rw [rounds_succ]
  go_wp2_with fail
  refine bodyPost_ret (v := .agg #[.int .i64 0, .int .i64 (0), .int .i64 2, .int .i64 (y.of)]) (by simp [results, Tryz.results82, go_sem]) rfl ⟨by rw [EV.o], HQ0.o.trans ?_⟩
  repeat' (first | exact Q.refl _ | refine Q.alloc ?_ _ | refine Q.jk ?_ _ | refine Q.drew ?_ | refine Q.setCell ?_ (by simp [World.size_jk] <;> omega) _)
 have e1 : (y.kd == 2) = true := by rw [hk1]; rfl
 by_cases hx0 : x0 = 1 <;> by_cases hx1 : x1' = 1
 ·have f0 : (x0 == 1) = true := by simpa using hx0
  have f1 : (x1' == 1) = true := by simpa using hx1
  have EV : Hid (sdZ s p gl k = (1, gl.getD b0 0, 3, y.of)) := hh (by rw [SD1.o, SA1.o, if_pos hx0, if_neg (by omega)])
  go_wp2_with fail
  refine wp_loop_rounds 3 ?_
  rw [rounds_succ]
  go_wp2_with fail
  rw [rounds_succ]
  go_wp2_with fail
  rw [rounds_succ]
  go_wp2_with fail
  refine bodyPost_ret (v := .agg #[.int .i64 1, .int .i64 (gl.getD b0 0), .int .i64 3, .int .i64 (y.of)]) (by simp [results, Tryz.results82, go_sem]) rfl ⟨by rw [EV.o], HQ0.o.trans ?_⟩
  repeat' (first | exact Q.refl _ | refine Q.alloc ?_ _ | refine Q.jk ?_ _ | refine Q.drew ?_ | refine Q.setCell ?_ (by simp [World.size_jk] <;> omega) _)
 ·have f0 : (x0 == 1) = true := by simpa using hx0
  have f1 : (x1' == 1) = false := by simpa using hx1
  have EV : Hid (sdZ s p gl k = (1, gl.getD b0 0, 3, y.of)) := hh (by rw [SD1.o, SA1.o, if_pos hx0, if_neg (by omega)])
  go_wp2_with fail
  refine wp_loop_rounds 3 ?_
  rw [rounds_succ]
  go_wp2_with fail
  rw [rounds_succ]
  go_wp2_with fail
  rw [rounds_succ]
  go_wp2_with fail
  refine bodyPost_ret (v := .agg #[.int .i64 1, .int .i64 (gl.getD b0 0), .int .i64 3, .int .i64 (y.of)]) (by simp [results, Tryz.results82, go_sem]) rfl ⟨by rw [EV.o], HQ0.o.trans ?_⟩
  repeat' (first | exact Q.refl _ | refine Q.alloc ?_ _ | refine Q.jk ?_ _ | refine Q.drew ?_ | refine Q.setCell ?_ (by simp [World.size_jk] <;> omega) _)
 ·have f0 : (x0 == 1) = false := by simpa using hx0
  have f1 : (x1' == 1) = true := by simpa using hx1
  have EV : Hid (sdZ s p gl k = (1, gl.getD b1 0, 3, y.of)) := hh (by rw [SD1.o, SA1.o, if_neg hx0, if_pos hx1, if_neg (by omega)])
  go_wp2_with fail
  refine wp_loop_rounds 3 ?_
  rw [rounds_succ]
  go_wp2_with fail
  rw [rounds_succ]
  go_wp2_with fail
  rw [rounds_succ]
  go_wp2_with fail
  refine bodyPost_ret (v := .agg #[.int .i64 1, .int .i64 (gl.getD b1 0), .int .i64 3, .int .i64 (y.of)]) (by simp [results, Tryz.results82, go_sem]) rfl ⟨by rw [EV.o], HQ0.o.trans ?_⟩
  repeat' (first | exact Q.refl _ | refine Q.alloc ?_ _ | refine Q.jk ?_ _ | refine Q.drew ?_ | refine Q.setCell ?_ (by simp [World.size_jk] <;> omega) _)
 have f0 : (x0 == 1) = false := by simpa using hx0
 have f1 : (x1' == 1) = false := by simpa using hx1
 have EV : Hid (sdZ s p gl k = (0, 0, 3, y.of)) := hh (by rw [SD1.o, SA1.o, if_neg hx0, if_neg hx1, if_neg (by omega)])
 go_wp2_with fail
 refine wp_loop_rounds 3 ?_
 rw [rounds_succ]
 go_wp2_with fail
 rw [rounds_succ]
 go_wp2_with fail
 rw [rounds_succ]
 go_wp2_with fail
 refine bodyPost_ret (v := .agg #[.int .i64 0, .int .i64 (0), .int .i64 3, .int .i64 (y.of)]) (by simp [results, Tryz.results82, go_sem]) rfl ⟨by rw [EV.o], HQ0.o.trans ?_⟩
 repeat' (first | exact Q.refl _ | refine Q.alloc ?_ _ | refine Q.jk ?_ _ | refine Q.drew ?_ | refine Q.setCell ?_ (by simp [World.size_jk] <;> omega) _)
theorem r6Sides_g (s : Sta) (p : Pos) (k : Nat) (w : World) (h : GoodAt w s p) (hk : k < s.bays.length) :
  Calls Tryz.prog 49 #[.agg #[Value.string s.nm, Value.slice s.aB s.buses.length s.cB, Value.slice s.aL s.lines.length s.cL, Value.slice s.aS s.srcs.length s.cS, Value.slice s.aY s.bays.length s.cY], .agg #[Value.slice p.aC p.closed.length p.cC, Value.slice p.aK p.rows.length p.cK], .int .i64 k] w fun e w' => e = .returned (.agg #[.int .i64 (sdZ s p (grI s p) k).1, .int .i64 (sdZ s p (grI s p) k).2.1, .int .i64 (sdZ s p (grI s p) k).2.2.1, .int .i64 (sdZ s p (grI s p) k).2.2.2]) ∧ Q w w' := by
 have FN := hh fun (w' : World) (hq : Q w w') => r6fine_g s p w' (h.q hq)
 have SD := hh fun (w' : World) (hq : Q w w') => r6sides_c s p k (s.bays[k]'hk) w' (h.q hq) (List.getElem?_eq_getElem hk)
 have k0 : ¬ (k : Int) < 0 := by omega
 have k1 : ¬ (s.bays.length : Int) ≤ (k : Int) := by omega
 obtain ⟨⟨za, zb, zc, zd⟩, ez⟩ : ∃ z, sdZ s p (grI s p) k = z := ⟨_, rfl⟩
 rw [ez] at SD ⊢
 dsimp only at SD ⊢
 clear h ez
 go_enter Tryz.func49, Tryz.ntmps49
 go_wp2_with (first | (go_at_call 81; (with_reducible refine (FN.o _ Q.i).q ?_); intro k1) | (go_at_call 82; (with_reducible refine (SD.o _ Q.i).q ?_); intro k2) | fail)
 refine bodyPost_ret (v := .agg #[.int .i64 za, .int .i64 zb, .int .i64 zc, .int .i64 zd]) (by simp [results, Tryz.results49, go_sem]) rfl ⟨rfl, ?_⟩
 repeat' (first | exact Q.refl _ | refine Q.alloc ?_ _ | refine Q.jk ?_ _ | refine Q.drew ?_ | refine Q.setCell ?_ (by simp [World.size_jk] <;> omega) _)
theorem r6node_c (s : Sta) (p : Pos) (of : Nat) (w : World) (h : GoodAt w s p) (hof : of < s.buses.length) :
  Calls Tryz.prog 83 #[.agg #[Value.string s.nm, Value.slice s.aB s.buses.length s.cB, Value.slice s.aL s.lines.length s.cL, Value.slice s.aS s.srcs.length s.cS, Value.slice s.aY s.bays.length s.cY], .agg #[Value.slice p.aC p.closed.length p.cC, Value.slice p.aK p.rows.length p.cK], .agg #[.int .i64 1, .int .i64 of]] w fun e w' => e = .returned (.agg #[.int .i64 1, .int .i64 ((grI s p).getD of 0)]) ∧ Q w w' := by
 have HGA := hh h
 have GR0 : Hid (∀ (w' : World) (hq : Q w w'), Calls Tryz.prog 90 #[.agg #[Value.string s.nm, Value.slice s.aB s.buses.length s.cB, Value.slice s.aL s.lines.length s.cL, Value.slice s.aS s.srcs.length s.cS, Value.slice s.aY s.bays.length s.cY], .agg #[Value.slice p.aC p.closed.length p.cC, Value.slice p.aK p.rows.length p.cK]] w' (RetI (grI s p) w')) := hh fun w' hq => r6groups_c s p w' (h.q hq)
 have LG : Hid ((grI s p).length = s.buses.length) := hh (grI_len s p)
 have k0 : (0 : Int) ≤ (of : Int) := by omega
 have k1 : (of : Int) < (s.buses.length : Int) := by omega
 generalize grI s p = gl at GR0 LG ⊢
 clear h
 go_enter Tryz.func83, Tryz.ntmps83
 go_upto_region 1 with fail
 obtain ⟨V, eV⟩ : ∃ V, (w.alloc (Obj.cells #[Value.string s.nm, Value.slice s.aB s.buses.length s.cB, Value.slice s.aL s.lines.length s.cL, Value.slice s.aS s.srcs.length s.cS, Value.slice s.aY s.bays.length s.cY] 27)).alloc (Obj.cells #[Value.slice p.aC p.closed.length p.cC, Value.slice p.aK p.rows.length p.cK] 31) = V := ⟨_, rfl⟩
 have hsz : w.heap.size + 1 + 1 = V.heap.size := by rw [← eV]; simp
 have hq0 : Q w V := by rw [← eV]; exact Q.i
 have hb : HB V w.heap.size #[Value.string s.nm, Value.slice s.aB s.buses.length s.cB, Value.slice s.aL s.lines.length s.cL, Value.slice s.aS s.srcs.length s.cS, Value.slice s.aY s.bays.length s.cY] 27 := by rw [← eV]; exact (HB.new _ _ _ _ rfl).q Q.i
 have hb2 : HB V (w.heap.size + 1) #[Value.slice p.aC p.closed.length p.cC, Value.slice p.aK p.rows.length p.cK] 31 := by rw [← eV]; exact HB.new (w.alloc (Obj.cells #[Value.string s.nm, Value.slice s.aB s.buses.length s.cB, Value.slice s.aL s.lines.length s.cL, Value.slice s.aS s.srcs.length s.cS, Value.slice s.aY s.bays.length s.cY] 27)) _ _ _ (by simp)
 rw [eV, hsz]
 have HQ0 := hh hq0
 have s0 := hb.cell 0
 have s1 := hb.cell 1
 have s2 := hb.cell 2
 have s3 := hb.cell 3
 have s4 := hb.cell 4
 have p0 := hb2.cell 0
 have p1 := hb2.cell 1
 simp only [List.getElem?_toArray, List.getElem?_cons_zero, List.getElem?_cons_succ] at s0 s1 s2 s3 s4 p0 p1
 have ob := hb.old
 have ob2 := hb2.old
 have HGA : Hid (GoodAt V s p) := hh (HGA.o.q hq0)
 have GR := hh fun (w' : World) (hq : Q V w') => GR0.o w' (HQ0.o.trans hq)
 clear eV hb hq0 hb2 hsz
 generalize w.heap.size + 1 = b2 at p0 p1 ob2 ⊢
 generalize w.heap.size = b at s0 s1 s2 s3 s4 ob ⊢
 go_wp2_with fail
 go_region_law (first | ((refine step_call2 rfl _ _ _ rfl 90 #[.agg #[Value.string s.nm, Value.slice s.aB s.buses.length s.cB, Value.slice s.aL s.lines.length s.cL, Value.slice s.aS s.srcs.length s.cS, Value.slice s.aY s.bays.length s.cY], .agg #[Value.slice p.aC p.closed.length p.cC, Value.slice p.aK p.rows.length p.cK]] _ (by simp [execOp, resolve, invoke, go_sem]; done) (GR.o _ Q.i) ?_); rintro e w' ⟨v, rfl, ⟨kg, rfl⟩, hrv⟩; obtain ⟨A, cG, rfl⟩ := own_slice' hrv; rw [LG.o] at hrv ⊢; obtain ⟨gG, rfl, hgG, hcG⟩ := rowI_win hrv LG.o (by omega); have x1 := (hcG.o of (by omega)).1; try simp only [World.jk_drew] at x1; clear hrv hcG hgG; refine ⟨_, rfl, ?_⟩))
 all_goals
  go_wp2_with fail
  refine bodyPost_ret (v := .agg #[.int .i64 1, .int .i64 (gl.getD of 0)]) (by simp [results, Tryz.results83, go_sem]) rfl ⟨rfl, HQ0.o.trans ?_⟩
  repeat' (first | exact Q.refl _ | refine Q.alloc ?_ _ | refine Q.jk ?_ _ | refine Q.drew ?_ | refine Q.setCell ?_ (by simp [World.size_jk] <;> omega) _)
theorem r6around_c (s : Sta) (p : Pos) (k : Nat) (q : Int) (y : Byr) (w : World) (h : GoodAt w s p) (hy : s.bays[k]? = some y) :
  Calls Tryz.prog 84 #[.agg #[Value.string s.nm, Value.slice s.aB s.buses.length s.cB, Value.slice s.aL s.lines.length s.cL, Value.slice s.aS s.srcs.length s.cS, Value.slice s.aY s.bays.length s.cY], .agg #[Value.slice p.aC p.closed.length p.cC, Value.slice p.aK p.rows.length p.cK], .agg #[.int .i64 1, .int .i64 q], .int .i64 k] w fun e w' => e = .returned (.bool (bdB q (sdZ s p (grI s p) k))) ∧ Q w w' := by
 have HGA := hh h
 have SD0 : Hid (∀ (w' : World) (hq : Q w w'), Calls Tryz.prog 82 #[.agg #[Value.string s.nm, Value.slice s.aB s.buses.length s.cB, Value.slice s.aL s.lines.length s.cL, Value.slice s.aS s.srcs.length s.cS, Value.slice s.aY s.bays.length s.cY], .agg #[Value.slice p.aC p.closed.length p.cC, Value.slice p.aK p.rows.length p.cK], .int .i64 k] w' fun e w'' => e = .returned (.agg #[.int .i64 (sdZ s p (grI s p) k).1, .int .i64 (sdZ s p (grI s p) k).2.1, .int .i64 (sdZ s p (grI s p) k).2.2.1, .int .i64 (sdZ s p (grI s p) k).2.2.2]) ∧ Q w' w'') := hh fun w' hq => r6sides_c s p k y w' (h.q hq) hy
 have hok := h.ok k y hy
 have hlt := (List.getElem?_eq_some_iff.1 hy).1
 obtain ⟨g, o, eA, og, hc⟩ := h.st.bayAt hy
 have q1 : w.cell? ⟨g, o + k * 12 + 1, none⟩ = some (Value.int .i64 y.kd) := hc.o 1 _ rfl
 have k0 : (0 : Int) ≤ (k : Int) := by omega
 have k1 : (k : Int) < (s.bays.length : Int) := by omega
 have hne : ¬ (s.lks k) = [] := by intro e; have := hok.ln; rw [e] at this; simp at this
 have SC : y.kd = 3 → ∃ a b, sdZ s p (grI s p) k = (1, a, 1, b) := by
  intro h3
  unfold sdZ
  rw [hy]
  match hl : s.lks k, hne with
  | l0 :: rest, _ => exact ⟨_, _, if_pos h3⟩
 have SN : y.kd ≠ 3 → ∃ a b c d, sdZ s p (grI s p) k = (a, b, c, d) ∧ c ≠ 1 := by
  intro h3
  unfold sdZ
  rw [hy]
  match hl : s.lks k, hne with
  | l0 :: rest, _ =>
   refine ⟨_, _, _, _, if_neg h3, ?_⟩
   split <;> decide
 obtain ⟨Z, hZ⟩ : ∃ z, sdZ s p (grI s p) k = z := ⟨_, rfl⟩
 rw [hZ] at SD0 SC SN ⊢
 obtain ⟨R, hR⟩ : ∃ r, bdB q Z = r := ⟨_, rfl⟩
 rw [hR]
 have HR := hh hR
 have EA := hh eA
 clear h hok hlt hc hne hZ eA hy hR
 go_enter Tryz.func84, Tryz.ntmps84
 go_upto_region 1 with fail
 obtain ⟨V, eV⟩ : ∃ V, (w.alloc (Obj.cells #[Value.string s.nm, Value.slice s.aB s.buses.length s.cB, Value.slice s.aL s.lines.length s.cL, Value.slice s.aS s.srcs.length s.cS, Value.slice s.aY s.bays.length s.cY] 27)).alloc (Obj.cells #[Value.slice p.aC p.closed.length p.cC, Value.slice p.aK p.rows.length p.cK] 31) = V := ⟨_, rfl⟩
 have hsz : w.heap.size + 1 + 1 = V.heap.size := by rw [← eV]; simp
 have hq0 : Q w V := by rw [← eV]; exact Q.i
 have hb : HB V w.heap.size #[Value.string s.nm, Value.slice s.aB s.buses.length s.cB, Value.slice s.aL s.lines.length s.cL, Value.slice s.aS s.srcs.length s.cS, Value.slice s.aY s.bays.length s.cY] 27 := by rw [← eV]; exact (HB.new _ _ _ _ rfl).q Q.i
 have hb2 : HB V (w.heap.size + 1) #[Value.slice p.aC p.closed.length p.cC, Value.slice p.aK p.rows.length p.cK] 31 := by rw [← eV]; exact HB.new (w.alloc (Obj.cells #[Value.string s.nm, Value.slice s.aB s.buses.length s.cB, Value.slice s.aL s.lines.length s.cL, Value.slice s.aS s.srcs.length s.cS, Value.slice s.aY s.bays.length s.cY] 27)) _ _ _ (by simp)
 rw [eV, hsz]
 have HQ0 := hh hq0
 have s0 := hb.cell 0
 have s1 := hb.cell 1
 have s2 := hb.cell 2
 have s3 := hb.cell 3
 have s4 := hb.cell 4
 have p0 := hb2.cell 0
 have p1 := hb2.cell 1
 simp only [List.getElem?_toArray, List.getElem?_cons_zero, List.getElem?_cons_succ] at s0 s1 s2 s3 s4 p0 p1
 have ob := hb.old
 have ob2 := hb2.old
 have HGA : Hid (GoodAt V s p) := hh (HGA.o.q hq0)
 have SD := hh fun (w' : World) (hq : Q V w') => SD0.o w' (HQ0.o.trans hq)
 replace q1 := (hq0.below.cell (p := ⟨g, o + k * 12 + 1, none⟩) og.lt).trans q1
 have og_ : Old g V := ⟨Nat.lt_of_lt_of_le og.lt hq0.below.size⟩
 rw [EA.o] at s4 SD
 clear eV hb hq0 hb2 hsz
 generalize w.heap.size + 1 = b2 at p0 p1 ob2 ⊢
 generalize w.heap.size = b at s0 s1 s2 s3 s4 ob ⊢
 by_cases h3 : y.kd = 3
 rotate_left
 ·have e3 : (y.kd == 3) = false := by simpa using h3
  obtain ⟨a, b', c, d, rfl, hcn⟩ := SN h3
  dsimp only at SD
  clear SC SN h3
  by_cases ha : a = 1 <;> by_cases hb' : b' = q
  ·have f1 : (a == 1) = true := by simpa using ha
   have f2 : (b' == q) = true := by simpa using hb'
   have EV : bdB q (a, b', c, d) = true := by simp [bdB, ha, hb', hcn]
   have EV := hh EV
   clear ha hb' hcn
   go_wp2_with (first | (go_at_call 82; (with_reducible refine (SD.o _ Q.i).q ?_); intro ks) | fail)
   go_ret
   refine ⟨by rw [← HR.o, EV.o]; first | done | rfl, HQ0.o.trans ?_⟩
   repeat' (first | exact Q.refl _ | refine Q.alloc ?_ _ | refine Q.jk ?_ _ | refine Q.drew ?_ | refine Q.setCell ?_ (by simp [World.size_jk] <;> omega) _)
  ·have f1 : (a == 1) = true := by simpa using ha
   have f2 : (b' == q) = false := by simpa using hb'
   have EV : bdB q (a, b', c, d) = false := by simp [bdB, ha, hb', hcn]
   have EV := hh EV
   clear ha hb' hcn
   go_wp2_with (first | (go_at_call 82; (with_reducible refine (SD.o _ Q.i).q ?_); intro ks) | fail)
   go_ret
   refine ⟨by rw [← HR.o, EV.o]; first | done | rfl, HQ0.o.trans ?_⟩
   repeat' (first | exact Q.refl _ | refine Q.alloc ?_ _ | refine Q.jk ?_ _ | refine Q.drew ?_ | refine Q.setCell ?_ (by simp [World.size_jk] <;> omega) _)
  ·have f1 : (a == 1) = false := by simpa using ha
   have f2 : (b' == q) = true := by simpa using hb'
   have EV : bdB q (a, b', c, d) = false := by simp [bdB, ha, hb', hcn]
   have EV := hh EV
   clear ha hb' hcn
   go_wp2_with (first | (go_at_call 82; (with_reducible refine (SD.o _ Q.i).q ?_); intro ks) | fail)
   go_ret
   refine ⟨by rw [← HR.o, EV.o]; first | done | rfl, HQ0.o.trans ?_⟩
   repeat' (first | exact Q.refl _ | refine Q.alloc ?_ _ | refine Q.jk ?_ _ | refine Q.drew ?_ | refine Q.setCell ?_ (by simp [World.size_jk] <;> omega) _)
  have f1 : (a == 1) = false := by simpa using ha
  have f2 : (b' == q) = false := by simpa using hb'
  have EV : bdB q (a, b', c, d) = false := by simp [bdB, ha, hb', hcn]
  have EV := hh EV
  clear ha hb' hcn
  go_wp2_with (first | (go_at_call 82; (with_reducible refine (SD.o _ Q.i).q ?_); intro ks) | fail)
  go_ret
  refine ⟨by rw [← HR.o, EV.o]; first | done | rfl, HQ0.o.trans ?_⟩
  repeat' (first | exact Q.refl _ | refine Q.alloc ?_ _ | refine Q.jk ?_ _ | refine Q.drew ?_ | refine Q.setCell ?_ (by simp [World.size_jk] <;> omega) _)
 have e3 : (y.kd == 3) = true := by simpa using h3
 obtain ⟨a, b', rfl⟩ := SC h3
 dsimp only at SD
 clear SC SN h3
 by_cases ha : a = q <;> by_cases hb' : b' = q
 ·have f1 : (a == q) = true := by simpa using ha
  have f2 : (b' == q) = true := by simpa using hb'
  have EV : bdB q (1, a, 1, b') = false := by simp [bdB, ha, hb']
  have EV := hh EV
  clear ha hb'
  go_wp2_with (first | (go_at_call 82; (with_reducible refine (SD.o _ Q.i).q ?_); intro ks) | fail)
  refine wrj (by kernel_rfl) ?_
  repeat (go_big_quiet_step (fail))
  refine wq0 fun kq => ?_
  go_wp2_with fail
  go_ret
  refine ⟨by rw [← HR.o, EV.o]; first | done | rfl, HQ0.o.trans ?_⟩
  repeat' (first | exact Q.refl _ | refine Q.alloc ?_ _ | refine Q.jk ?_ _ | refine Q.drew ?_ | refine Q.setCell ?_ (by simp [World.size_jk] <;> omega) _)
 ·have f1 : (a == q) = true := by simpa using ha
  have f2 : (b' == q) = false := by simpa using hb'
  have EV : bdB q (1, a, 1, b') = true := by simp [bdB, ha, hb']
  have EV := hh EV
  clear ha hb'
  go_wp2_with (first | (go_at_call 82; (with_reducible refine (SD.o _ Q.i).q ?_); intro ks) | fail)
  refine wrj (by kernel_rfl) ?_
  repeat (go_big_quiet_step (fail))
  refine wq0 fun kq => ?_
  go_wp2_with fail
  go_ret
  refine ⟨by rw [← HR.o, EV.o]; first | done | rfl, HQ0.o.trans ?_⟩
  repeat' (first | exact Q.refl _ | refine Q.alloc ?_ _ | refine Q.jk ?_ _ | refine Q.drew ?_ | refine Q.setCell ?_ (by simp [World.size_jk] <;> omega) _)
 ·have f1 : (a == q) = false := by simpa using ha
  have f2 : (b' == q) = true := by simpa using hb'
  have EV : bdB q (1, a, 1, b') = true := by simp [bdB, ha, hb']
  have EV := hh EV
  clear ha hb'
  go_wp2_with (first | (go_at_call 82; (with_reducible refine (SD.o _ Q.i).q ?_); intro ks) | fail)
  refine wrj (by kernel_rfl) ?_
  repeat (go_big_quiet_step (fail))
  refine wq0 fun kq => ?_
  go_wp2_with fail
  go_ret
  refine ⟨by rw [← HR.o, EV.o]; first | done | rfl, HQ0.o.trans ?_⟩
  repeat' (first | exact Q.refl _ | refine Q.alloc ?_ _ | refine Q.jk ?_ _ | refine Q.drew ?_ | refine Q.setCell ?_ (by simp [World.size_jk] <;> omega) _)
 have f1 : (a == q) = false := by simpa using ha
 have f2 : (b' == q) = false := by simpa using hb'
 have EV : bdB q (1, a, 1, b') = false := by simp [bdB, ha, hb']
 have EV := hh EV
 clear ha hb'
 go_wp2_with (first | (go_at_call 82; (with_reducible refine (SD.o _ Q.i).q ?_); intro ks) | fail)
 refine wrj (by kernel_rfl) ?_
 repeat (go_big_quiet_step (fail))
 refine wq0 fun kq => ?_
 go_wp2_with fail
 go_ret
 refine ⟨by rw [← HR.o, EV.o]; first | done | rfl, HQ0.o.trans ?_⟩
 repeat' (first | exact Q.refl _ | refine Q.alloc ?_ _ | refine Q.jk ?_ _ | refine Q.drew ?_ | refine Q.setCell ?_ (by simp [World.size_jk] <;> omega) _)
theorem r6Boundary_g (s : Sta) (p : Pos) (of : Nat) (w : World) (h : GoodAt w s p) (hof : of < s.buses.length) :
  Calls Tryz.prog 50 #[.agg #[Value.string s.nm, Value.slice s.aB s.buses.length s.cB, Value.slice s.aL s.lines.length s.cL, Value.slice s.aS s.srcs.length s.cS, Value.slice s.aY s.bays.length s.cY], .agg #[Value.slice p.aC p.closed.length p.cC, Value.slice p.aK p.rows.length p.cK], .agg #[.int .i64 1, .int .i64 of]] w (RetI (bdI s p (grI s p) ((grI s p).getD of 0) s.bays.length) w) := by
 have HGA := hh h
 have lens := h.lens
 have y0 : (0 : Int) ≤ (s.bays.length : Int) := by omega
 have y1 : (s.bays.length : Int) ≤ 16 := by omega
 have y2 : s.bays.length ≤ 16 := lens.2.2.2.2.1
 have FN0 := hh fun (w' : World) (hq : Q w w') => r6fine_g s p w' (h.q hq)
 have ND0 := hh fun (w' : World) (hq : Q w w') => r6node_c s p of w' (h.q hq) hof
 have AR0 := hh fun (k : Nat) (y : Byr) (hy : s.bays[k]? = some y) (w' : World) (hq : Q w w') => r6around_c s p k ((grI s p).getD of 0) y w' (h.q hq) hy
 generalize (grI s p).getD of 0 = q at ND0 AR0 ⊢
 generalize grI s p = gl at AR0 ⊢
 clear h lens hof
 go_enter Tryz.func50, Tryz.ntmps50
 go_upto_region 1 with fail
 obtain ⟨V, eV⟩ : ∃ V, (w.alloc (Obj.cells #[Value.string s.nm, Value.slice s.aB s.buses.length s.cB, Value.slice s.aL s.lines.length s.cL, Value.slice s.aS s.srcs.length s.cS, Value.slice s.aY s.bays.length s.cY] 27)).alloc (Obj.cells #[Value.slice p.aC p.closed.length p.cC, Value.slice p.aK p.rows.length p.cK] 31) = V := ⟨_, rfl⟩
 have hsz : w.heap.size + 1 + 1 = V.heap.size := by rw [← eV]; simp
 have hq0 : Q w V := by rw [← eV]; exact Q.i
 have hb : HB V w.heap.size #[Value.string s.nm, Value.slice s.aB s.buses.length s.cB, Value.slice s.aL s.lines.length s.cL, Value.slice s.aS s.srcs.length s.cS, Value.slice s.aY s.bays.length s.cY] 27 := by rw [← eV]; exact (HB.new _ _ _ _ rfl).q Q.i
 have hb2 : HB V (w.heap.size + 1) #[Value.slice p.aC p.closed.length p.cC, Value.slice p.aK p.rows.length p.cK] 31 := by rw [← eV]; exact HB.new (w.alloc (Obj.cells #[Value.string s.nm, Value.slice s.aB s.buses.length s.cB, Value.slice s.aL s.lines.length s.cL, Value.slice s.aS s.srcs.length s.cS, Value.slice s.aY s.bays.length s.cY] 27)) _ _ _ (by simp)
 rw [eV, hsz]
 have HQ0 := hh hq0
 have s0 := hb.cell 0
 have s1 := hb.cell 1
 have s2 := hb.cell 2
 have s3 := hb.cell 3
 have s4 := hb.cell 4
 have p0 := hb2.cell 0
 have p1 := hb2.cell 1
 simp only [List.getElem?_toArray, List.getElem?_cons_zero, List.getElem?_cons_succ] at s0 s1 s2 s3 s4 p0 p1
 have ob := hb.old
 have ob2 := hb2.old
 have HGA : Hid (GoodAt V s p) := hh (HGA.o.q hq0)
 have FN := hh fun (w' : World) (hq : Q V w') => FN0.o w' (HQ0.o.trans hq)
 have ND := hh fun (w' : World) (hq : Q V w') => ND0.o w' (HQ0.o.trans hq)
 have AR := hh fun (k : Nat) (y : Byr) (hy : s.bays[k]? = some y) (w' : World) (hq : Q V w') => AR0.o k y hy w' (HQ0.o.trans hq)
 clear eV hb hq0 hb2 hsz
 generalize w.heap.size + 1 = b2 at p0 p1 ob2 ⊢
 generalize w.heap.size = b at s0 s1 s2 s3 s4 ob ⊢
 go_upto_region 4 with (first | (go_at_call 81; (with_reducible refine (FN.o _ Q.i).q ?_); intro k1) | (go_at_call 83; (with_reducible refine (ND.o _ Q.i).q ?_); intro k2) | fail)
 refine wp_world ?_
 intro U eU
 have hqU : Q V U := by rw [eU]; repeat' (first | exact Q.refl _ | refine Q.alloc ?_ _ | refine Q.jk ?_ _ | refine Q.drew ?_ | refine Q.setCell ?_ (by simp [World.size_jk] <;> omega) _)
 have HQU := hh hqU
 have hn : HB U ((V.alloc (Obj.cells #[Value.int .i64 1, Value.int .i64 of] 109)).jk k1 |>.jk k2).heap.size #[Value.int .i64 1, Value.int .i64 q] 119 := by rw [eU]; exact HB.new _ _ _ _ rfl
 replace s0 := (hqU.below.cell (p := ⟨b, 0, none⟩) ob.lt).trans s0
 replace s1 := (hqU.below.cell (p := ⟨b, 1, none⟩) ob.lt).trans s1
 replace s2 := (hqU.below.cell (p := ⟨b, 2, none⟩) ob.lt).trans s2
 replace s3 := (hqU.below.cell (p := ⟨b, 3, none⟩) ob.lt).trans s3
 replace s4 := (hqU.below.cell (p := ⟨b, 4, none⟩) ob.lt).trans s4
 replace p0 := (hqU.below.cell (p := ⟨b2, 0, none⟩) ob2.lt).trans p0
 replace p1 := (hqU.below.cell (p := ⟨b2, 1, none⟩) ob2.lt).trans p1
 have u0 := hn.cell 0
 have u1 := hn.cell 1
 simp only [List.getElem?_toArray, List.getElem?_cons_zero, List.getElem?_cons_succ] at u0 u1
 have on := hn.old
 have obU : Old b U := ⟨Nat.lt_of_lt_of_le ob.lt hqU.below.size⟩
 have obU2 : Old b2 U := ⟨Nat.lt_of_lt_of_le ob2.lt hqU.below.size⟩
 clear eU hn hqU
 simp only [World.size_jk, World.size_alloc] at u0 u1 on
 go_wp2_with fail
 go_loopw [8, 9] (fun lv i wr => ∃ (k : Nat), i = .int .i64 k ∧ k ≤ s.bays.length ∧ Q U wr ∧ Hid (RowI U wr lv (bdI s p gl q k))) (fun _ i _ => s.bays.length - (intOf i).toNat)
 case atStart => exact ⟨0, rfl, Nat.zero_le _, (by repeat' (first | exact Q.refl _ | refine Q.alloc ?_ _ | refine Q.jk ?_ _ | refine Q.drew ?_)), hh (RowI.nil _ _)⟩
 case round =>
  obtain ⟨k, rfl, hk, ⟨kk, rfl⟩, HRI⟩ := hrel
  by_cases hlt : k < s.bays.length
  rotate_left
  ·obtain rfl : k = s.bays.length := by omega
   go_wp2_with fail
   go_ret
   exact ⟨_, rfl, HQ0.o.trans (HQU.o.trans Q.i), HRI.o.low (HQ0.o.trans HQU.o) |>.q Q.i⟩
  obtain ⟨v8, rfl⟩ : ∃ v, v = u8 := ⟨_, rfl⟩
  obtain ⟨y, hy⟩ : ∃ y, s.bays[k]? = some y := ⟨_, List.getElem?_eq_getElem hlt⟩
  have ARK := hh fun (w' : World) (hq : Q U w') => AR.o k y hy w' (HQU.o.trans hq)
  have ES0 := hh (bdI_succ s p gl q k)
  have k0 : (0 : Int) ≤ (k : Int) := by omega
  have k1 : (k : Int) < (s.bays.length : Int) := by omega
  generalize bdB q (sdZ s p gl k) = R at ARK ES0
  clear hy
  cases R with
  | true =>
   have ES : Hid (bdI s p gl q (k + 1) = bdI s p gl q k ++ [(k : Int)]) := hh (by rw [ES0.o, if_pos rfl])
   clear ES0
   go_wp2_with (first | (go_at_call 84; (with_reducible refine (ARK.o _ Q.i).q ?_); intro ka) | (at_builtin; refine wpList_app_int rfl _ _ rfl U v8 (bdI s p gl q k) (k : Int) _ rfl rfl (HRI.o.q Q.i) (by simp [go_sem, World.size_jk]) (by have := bdI_len s p gl q k; omega) Q.i ?_; intro v8' kx' hri hgr) | fail)
   go_roundw
   case rel => exact ⟨k + 1, by go_num, by omega, ⟨kx', rfl⟩, hh (by rw [ES.o]; exact hri)⟩
   case measure => simp [intOf] <;> omega
  | false =>
   have ES : Hid (bdI s p gl q (k + 1) = bdI s p gl q k) := hh (by rw [ES0.o, if_neg (by decide)])
   clear ES0
   go_wp2_with (first | (go_at_call 84; (with_reducible refine (ARK.o _ Q.i).q ?_); intro ka) | fail)
   go_roundw
   case rel => exact ⟨k + 1, by go_num, by omega, Q.i, hh (by rw [ES.o]; exact HRI.o.q Q.i)⟩
   case measure => simp [intOf] <;> omega
end Go.Proofs.YtcjflafjmdfanaaGreatDoor
