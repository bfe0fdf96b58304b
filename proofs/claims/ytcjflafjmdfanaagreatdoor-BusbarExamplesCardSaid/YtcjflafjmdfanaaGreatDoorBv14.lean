
/- What first returns for the elements of a station. -/
import Derived.Test.YtcjflafjmdfanaaGreatDoorBv13
import Derived.Test.YtcjflafjmdfanaaGreatDoorBv12
import Derived.Deep.RegionLaw
import Derived.Deep.DeepCutAuto
import Derived.Deep.CutBlock
set_option maxHeartbeats 64000000
set_option maxRecDepth 100000
set_option linter.unusedSimpArgs false
set_option linter.unusedVariables false
/- What the method bay of a builder returns. -/
namespace Go.Sub
open Go
def cntI (nl ns : Nat) (kd : Int) : Int := if kd = 1 then (nl : Int) else if kd = 2 then (ns : Int) else 1
def cfB (y p : Byr) : Bool := (decide (y.kd ≠ 3) && decide (y.kd = p.kd) && decide (y.of = p.of) && decide (y.en = p.en))
def cfL (prev : List Byr) (y : Byr) : Bool := prev.any (cfB y)
def byE (nb nl ns : Nat) (seen : List ByteArray) (prev : List Byr) (y : Byr) (lk : List Lk) : Int :=
 if nmE seen y.nm = 0 then
  if y.kd = 1 ∨ y.kd = 2 ∨ y.kd = 3 then
   if winB y.of 0 (cntI nl ns y.kd - 1) = true then
    if rgB y.kd y.en y.zr y.zx y.ct y.vt y.sa y.tr = true then
     if cfL prev y = true then 12 else lkE nb y.kd lk
    else 2
   else 9
  else 10
 else nmE seen y.nm
theorem byC_get (l : List Byr) (k j : Nat) (c : Byr) (h : l[k]? = some c) (hj : j < 12) : (l.flatMap byC)[k * 12 + j]? = (byC c)[j]? := by
 induction l generalizing k with
 | nil => simp at h
 | cons d l ih =>
  rw [List.flatMap_cons]
  cases k with
  | zero =>
   simp only [List.getElem?_cons_zero, Option.some.injEq] at h
   subst h
   rw [List.getElem?_append_left (by simp only [byC, List.length_cons, List.length_nil]; omega), Nat.zero_mul, Nat.zero_add]
  | succ k =>
   simp only [List.getElem?_cons_succ] at h
   rw [List.getElem?_append_right (by simp only [byC, List.length_cons, List.length_nil]; omega)]
   have e : (k + 1) * 12 + j - (byC d).length = k * 12 + j := by
    simp only [byC, List.length_cons, List.length_nil]
    omega
   rw [e]
   exact ih k h
end Go.Sub
namespace Go.Proofs.YtcjflafjmdfanaaGreatDoor
open Go.RowKit Go.Sub
attribute [local go_sem ↓] Go.wp_at_zero Go.wp_at_succ
theorem bay_c (W0 w : World) (b m : Nat) (vB vL vS vY : Value) (seen : List ByteArray) (nb nl ns : Nat) (ys : List Byr) (y : Byr) (lk : List Lk) (h : Bld W0 w b m vB vL vS vY seen nb nl ns ys) (hk : LkAt w y lk) (hx : (y.nm.size : Int) ≤ 9223372036854775807) (hl : seen.length < 1000) (hb : nb < 1000) (hL : nl < 1000) (hS : ns < 1000) (hY : ys.length < 1000) (hlk : lk.length ≤ 9223372036854775807) :
  Calls Tryz.prog 64 #[.pointer (some ⟨b, 0, none⟩), Value.agg #[Value.string y.nm, Value.int .i64 y.kd, Value.int .i64 y.of, Value.int .i64 y.en, Value.int .i64 y.zr, Value.int .i64 y.zx, Value.slice y.la y.ln y.lc, Value.bool y.cl, Value.int .i64 y.ct, Value.int .i64 y.vt, Value.int .i64 y.sa, Value.int .i64 y.tr]] w (RetB W0 (byE nb nl ns seen ys y lk) fun w' => ∃ v', Bld W0 w' b m vB vL vS v' (seen ++ [y.nm]) nb nl ns (ys ++ [y])) := by
 have h0 := h.to (Q.alloc (Q.refl w) (Obj.cells #[Value.string y.nm, Value.int .i64 y.kd, Value.int .i64 y.of, Value.int .i64 y.en, Value.int .i64 y.zr, Value.int .i64 y.zx, Value.slice y.la y.ln y.lc, Value.bool y.cl, Value.int .i64 y.ct, Value.int .i64 y.vt, Value.int .i64 y.sa, Value.int .i64 y.tr] 91))
 have NM := hh (bname_c b m _ y.nm seen _ h0.hb rfl h0.sn hx)
 have HQ := hh h.q
 by_cases hE : nmE seen y.nm = 0
 rotate_left
 ·have HE := hh hE
  have EE : byE nb nl ns seen ys y lk = nmE seen y.nm := by unfold byE; rw [if_neg hE]
  rw [EE]
  generalize nmE seen y.nm = E at NM HE ⊢
  have hE' : ¬ E = 0 := HE.o
  clear h h0 hE EE
  go_enter Tryz.func64, Tryz.ntmps64
  go_wp2_with (first | (go_at_call 91; (with_reducible refine NM.o.p ?_)) | fail)
  go_ret
  refine ⟨rfl, ?_, fun e => absurd e HE.o⟩
  repeat' (first | exact HQ.o | refine Q.alloc ?_ _ | refine Q.jk ?_ _ | refine Q.drew ?_)
 have hn12 := nmB_size (nmE_zero hE)
 rw [hE] at NM
 have EE : byE nb nl ns seen ys y lk = if y.kd = 1 ∨ y.kd = 2 ∨ y.kd = 3 then if winB y.of 0 (cntI nl ns y.kd - 1) = true then if rgB y.kd y.en y.zr y.zx y.ct y.vt y.sa y.tr = true then if cfL ys y = true then 12 else lkE nb y.kd lk else 2 else 9 else 10 := by unfold byE; rw [if_pos hE]
 obtain ⟨E0, hE0⟩ : ∃ E0, byE nb nl ns seen ys y lk = E0 := ⟨_, rfl⟩
 rw [hE0] at EE ⊢
 clear hE hE0
 by_cases hkd : y.kd = 1 ∨ y.kd = 2 ∨ y.kd = 3
 rotate_left
 ·have HE0 : Hid (E0 = 10) := hh (by rw [EE, if_neg hkd])
  clear EE
  have n1 : (y.kd == 1) = false := by simp; omega
  have n2 : (y.kd == 2) = false := by simp; omega
  have n3 : (y.kd == 3) = false := by simp; omega
  clear h h0 hkd
  go_enter Tryz.func64, Tryz.ntmps64
  go_wp2_with (first | (go_at_call 91; (with_reducible refine NM.o.p ?_)) | fail)
  all_goals
   go_ret
   refine ⟨by rw [HE0.o]; rfl, ?_, fun e => absurd (HE0.o.symm.trans e) (by decide)⟩
   repeat' (first | exact HQ.o | refine Q.alloc ?_ _ | refine Q.jk ?_ _ | refine Q.drew ?_)
 rw [if_pos hkd] at EE
 obtain ⟨xL, hrL⟩ := h.rL
 obtain ⟨xS, hrS⟩ := h.rS
 obtain ⟨aL, cL, rfl⟩ := own_slice' hrL
 obtain ⟨aS, cS, rfl⟩ := own_slice' hrS
 have c2 := h.hb.cell 2
 have c3 := h.hb.cell 3
 have c4 := h.hb.cell 4
 have c5 := h.hb.cell 5
 simp only [List.getElem?_toArray, List.getElem?_cons_zero, List.getElem?_cons_succ] at c2 c3 c4 c5
 have ob := h.hb.old
 have WO := hh fun w => stwithin_c y.of 0 (cntI nl ns y.kd - 1) w
 have RG := hh fun w => strange_c y.nm y.kd y.of y.en y.zr y.zx y.la y.ln y.lc y.cl y.ct y.vt y.sa y.tr w
 have ci : 0 ≤ cntI nl ns y.kd ∧ cntI nl ns y.kd ≤ 1000 := by unfold cntI; split <;> (try split) <;> omega
 obtain ⟨ci0, ci1⟩ := ci
 generalize winB y.of 0 (cntI nl ns y.kd - 1) = pO at WO EE
 generalize rgB y.kd y.en y.zr y.zx y.ct y.vt y.sa y.tr = pR at RG EE
 have EC : ∀ k, k = y.kd → cntI nl ns k = cntI nl ns y.kd := fun k e => by rw [e]
 have HC := hh EC
 have HEE := hh EE
 clear EE
 clear EC
 go_enter Tryz.func64, Tryz.ntmps64
 go_upto_block 0 with (first | (go_at_call 91; (with_reducible refine NM.o.p ?_)) | fail)
 go_cut [6] (fun s6 wx => s6 = .int .i64 (cntI nl ns y.kd) ∧ (w.alloc (Obj.cells #[Value.string y.nm, Value.int .i64 y.kd, Value.int .i64 y.of, Value.int .i64 y.en, Value.int .i64 y.zr, Value.int .i64 y.zx, Value.slice y.la y.ln y.lc, Value.bool y.cl, Value.int .i64 y.ct, Value.int .i64 y.vt, Value.int .i64 y.sa, Value.int .i64 y.tr] 91)) = wx)
 case first =>
  have hw3 : ∀ P : Prop, (y.kd = 1 → P) → (y.kd = 2 → P) → (y.kd = 3 → P) → P := fun P a b c => hkd.elim a (fun h => h.elim b c)
  clear NM WO RG h h0
  rcases hkd with hkd | hkd | hkd
  ·have e : cntI nl ns y.kd = (nl : Int) := by unfold cntI; rw [if_pos hkd]
   have E1 := hh e
   clear e ci0 ci1
   go_wp2_with fail
   go_meet
   exact ⟨by rw [E1.o], by rw [hkd]⟩
  ·have e : cntI nl ns y.kd = (ns : Int) := by unfold cntI; rw [if_neg (by omega), if_pos hkd]
   have E1 := hh e
   clear e ci0 ci1
   go_wp2_with fail
   go_meet
   exact ⟨by rw [E1.o], by rw [hkd]⟩
  have e : cntI nl ns y.kd = 1 := by unfold cntI; rw [if_neg (by omega), if_neg (by omega)]
  have E1 := hh e
  clear e ci0 ci1
  go_wp2_with fail
  go_meet
  exact ⟨by rw [E1.o], by rw [hkd]⟩
 case rest =>
 obtain ⟨rfl, rfl⟩ := hcut
 generalize cntI nl ns y.kd = cn at WO ci0 ci1
 clear HC
 cases pO with
 | false =>
  have HE0 : Hid (E0 = 9) := hh (by rw [HEE.o]; rfl)
  clear h h0
  go_wp2_with (first | (go_at_call 91; (with_reducible refine NM.o.p ?_)) | (go_at_call 93; (with_reducible refine (WO.o _).p ?_)) | (go_at_call 94; (with_reducible refine (RG.o _).q ?_); intro kr) | fail)
  all_goals
   go_ret
   refine ⟨by rw [HE0.o]; rfl, ?_, fun e => absurd (HE0.o.symm.trans e) (by decide)⟩
   repeat' (first | exact HQ.o | refine Q.alloc ?_ _ | refine Q.jk ?_ _ | refine Q.drew ?_)
 | true =>
  cases pR with
  | false =>
   have HE0 : Hid (E0 = 2) := hh (by rw [HEE.o]; rfl)
   clear h h0
   go_wp2_with (first | (go_at_call 91; (with_reducible refine NM.o.p ?_)) | (go_at_call 93; (with_reducible refine (WO.o _).p ?_)) | (go_at_call 94; (with_reducible refine (RG.o _).q ?_); intro kr) | fail)
   all_goals
    go_ret
    refine ⟨by rw [HE0.o]; rfl, ?_, fun e => absurd (HE0.o.symm.trans e) (by decide)⟩
    repeat' (first | exact HQ.o | refine Q.alloc ?_ _ | refine Q.jk ?_ _ | refine Q.drew ?_)
  | true =>
   have HE1 : Hid (E0 = if cfL ys y = true then 12 else lkE nb y.kd lk) := hh (by rw [HEE.o]; rfl)
   clear HEE
   have hY0 := h.rY
   obtain ⟨aY, cY, rfl⟩ := own_slice' hY0
   have HYc : Hid (∀ k p, ys[k]? = some p → ∃ gY, aY = some ⟨gY, 0, none⟩ ∧ gY < w.heap.size ∧ ∀ j u, (byC p)[j]? = some u → w.cell? ⟨gY, k * 12 + j, none⟩ = some u) := hh (fun k p hkp => by
    obtain ⟨gY, c', e⟩ := own_slice hY0 (by have := (List.getElem?_eq_some_iff.1 hkp).1; omega)
    injection e with e1 e2 e3
    subst e1
    subst e3
    refine ⟨gY, rfl, (hY0.lt gY rfl).2, fun j u hj => ?_⟩
    have hj12 : j < 12 := by have := (List.getElem?_eq_some_iff.1 hj).1; simpa [byC] using this
    have := hY0.cells (g := gY) rfl (k * 12 + j) u (by rw [byC_get ys k j p hkp hj12]; exact hj)
    have e : (⟨gY, 0, none⟩ : Addr).add (k * 12 + j) = ⟨gY, k * 12 + j, none⟩ := by unfold Addr.add; split <;> simp_all
    rwa [e] at this)
   have HK := hh hk
   have y0 : (0 : Int) ≤ (ys.length : Int) := by omega
   have y1 : (ys.length : Int) < 1000 := by omega
   obtain ⟨ny, hny⟩ : ∃ ny, ys.length = ny := ⟨_, rfl⟩
   rw [hny] at c4 y0 y1 h
   have HH := hh h
   have HNY := hh hny
   clear h h0 hY0 hrL hrS hny hk
   go_wp2_with (first | (go_at_call 91; (with_reducible refine NM.o.p ?_)) | (go_at_call 93; (with_reducible refine (WO.o _).p ?_)) | (go_at_call 94; (with_reducible refine (RG.o _).q ?_); intro kr) | fail)
   go_loopw [52] (fun i wr => ∃ k : Nat, i = .int .i64 k ∧ k ≤ ny ∧ Hid (∀ j p, j < k → ys[j]? = some p → cfB y p = false) ∧ Q ((w.alloc (Obj.cells #[Value.string y.nm, Value.int .i64 y.kd, Value.int .i64 y.of, Value.int .i64 y.en, Value.int .i64 y.zr, Value.int .i64 y.zx, Value.slice y.la y.ln y.lc, Value.bool y.cl, Value.int .i64 y.ct, Value.int .i64 y.vt, Value.int .i64 y.sa, Value.int .i64 y.tr] 91)).jk kr) wr) (fun i _ => ny - (intOf i).toNat)
   case atStart => exact ⟨0, rfl, Nat.zero_le _, hh (fun j p hj => absurd hj (Nat.not_lt_zero _)), Q.refl _⟩
   case round =>
   obtain ⟨k, rfl, hkn, HG, kk, rfl⟩ := hrel
   by_cases hlt : k < ny
   rotate_left
   ·obtain rfl : ny = k := by omega
    have HE2 : Hid (E0 = lkE nb y.kd lk) := hh (by
     rw [HE1.o, if_neg]
     intro h
     obtain ⟨p, hp, hc⟩ := List.any_eq_true.1 h
     obtain ⟨j, hj, rfl⟩ := List.getElem_of_mem hp
     rw [HG.o j _ (by rw [← HNY.o]; exact hj) (List.getElem?_eq_getElem hj)] at hc
     cases hc)
    have LK := hh fun (w' : World) (hq : Q w w') => links_c W0 w' b m _ _ _ _ _ nb nl ns ys y lk (HH.o.to hq) (HK.o.q hq) hb hlk
    rw [← HE2.o] at LK
    by_cases hE : E0 = 0
    rotate_left
    ·have HE0 := hh hE
     have hE' : ¬ E0 = 0 := hE
     clear hE
     go_wp2_with (first | (go_at_call 95; (with_reducible refine (LK.o _ Q.i).q ?_); intro kl) | fail)
     go_ret
     refine ⟨rfl, ?_, fun e => absurd e HE0.o⟩
     repeat' (first | exact HQ.o | refine Q.alloc ?_ _ | refine Q.jk ?_ _ | refine Q.drew ?_)
    have HE0 := hh hE
    rw [hE] at LK
    clear hE HE1 HE2
    go_wp2_with (first | (go_at_call 95; (with_reducible refine (LK.o _ Q.i).q ?_); intro kl) | fail)
    refine wp_region_tail 6 (by kernel_rfl) (by kernel_rfl) ?_
    simp only [List.take_succ_cons, List.take_zero, List.drop_succ_cons, List.drop_zero]
    repeat (go_big_quiet_step (fail))
    refine wq0 fun kq => ?_
    have HX := hh (HH.o.to (show Q w (((((w.alloc (Obj.cells #[Value.string y.nm, Value.int .i64 y.kd, Value.int .i64 y.of, Value.int .i64 y.en, Value.int .i64 y.zr, Value.int .i64 y.zx, Value.slice y.la y.ln y.lc, Value.bool y.cl, Value.int .i64 y.ct, Value.int .i64 y.vt, Value.int .i64 y.sa, Value.int .i64 y.tr] 91)).jk kr).jk kk).jk kl).jk kq) by exact Q.i))
    have HY : Hid (HB (((((w.alloc (Obj.cells #[Value.string y.nm, Value.int .i64 y.kd, Value.int .i64 y.of, Value.int .i64 y.en, Value.int .i64 y.zr, Value.int .i64 y.zx, Value.slice y.la y.ln y.lc, Value.bool y.cl, Value.int .i64 y.ct, Value.int .i64 y.vt, Value.int .i64 y.sa, Value.int .i64 y.tr] 91)).jk kr).jk kk).jk kl).jk kq) w.heap.size #[Value.string y.nm, Value.int .i64 y.kd, Value.int .i64 y.of, Value.int .i64 y.en, Value.int .i64 y.zr, Value.int .i64 y.zx, Value.slice y.la y.ln y.lc, Value.bool y.cl, Value.int .i64 y.ct, Value.int .i64 y.vt, Value.int .i64 y.sa, Value.int .i64 y.tr] 91) := hh (((((HB.new _ _ _ _ rfl).jk _).jk _).jk _).jk _)
    go_wp2_with (first | (at_mapUpdate; refine wpList_put rfl _ _ _ rfl m y.nm seen rfl rfl rfl HX.o.sn hn12 hl ?_; intro w1 hs1 hg1) | fail)
    have h1 := HX.o.seen hs1 hg1
    have hy1 := HY.o.grown hg1 (fun e => by
     obtain ⟨D, ⟨es, clock, hh, _⟩, _⟩ := HX.o.sn
     have e' := Option.some.inj e
     have hb : _ = some (Obj.cells _ _) := HY.o
     rw [e'] at hb
     rw [hb] at hh
     cases hh)
    have HB1 := hh (h1.to (Q.drew (Q.refl w1)))
    have hK := h1.rY
    rw [HNY.o] at hK
    have HKr := hh hK
    have c4' := h1.hb.cell 4
    simp only [List.getElem?_toArray, List.getElem?_cons_zero, List.getElem?_cons_succ] at c4'
    have ob1 := h1.hb.old
    have oy1 := hy1.old
    have z0 := hy1.cell 0
    have z1 := hy1.cell 1
    have z2 := hy1.cell 2
    have z3 := hy1.cell 3
    have z4 := hy1.cell 4
    have z5 := hy1.cell 5
    have z6 := hy1.cell 6
    have z7 := hy1.cell 7
    have z8 := hy1.cell 8
    have z9 := hy1.cell 9
    have z10 := hy1.cell 10
    have z11 := hy1.cell 11
    simp only [List.getElem?_toArray, List.getElem?_cons_zero, List.getElem?_cons_succ] at z0 z1 z2 z3 z4 z5 z6 z7 z8 z9 z10 z11
    have hz := h1.q.below.size
    have hny1 : ny < 1000 := by omega
    clear h1 hs1 hg1 hK hy1 HX HY NM LK
    go_region_law (go_loud (refine step_appY rfl _ _ rfl W0.heap.size (Value.slice aY ny cY) ny _ (by rfl) (ownsRow_q HKr.o Q.i) _ (by rfl) (byC y) rfl (cells_of (HB.new _ _ _ _ (by simp))) (by intro u hu; simp only [byC, List.mem_cons, List.mem_nil_iff, or_false] at hu; rcases hu with rfl | rfl | rfl | rfl | rfl | rfl | rfl | rfl | rfl | rfl | rfl | rfl <;> rfl) hny1 (by simp; omega) ?_); intro v' w2 hown hg2; obtain ⟨gv, cv, rfl⟩ := own_slice hown (by omega); have hb2 := HB1.o.boxY hg2; have f1 := hb2.soft 4; have c5' := hb2.cell 4; simp only [List.getElem?_toArray, List.getElem?_cons_zero, List.getElem?_cons_succ] at c5'; have ob2 := hb2.old; have HF := hh (HB1.o.putY (y := y) hg2 (by rw [List.length_append, HNY.o, List.flatMap_append]; simpa using hown)); clear hb2 hown hg2)
    all_goals
     go_wp2_with fail
     go_ret
     exact ⟨by rw [HE0.o]; rfl, HF.o.q, fun _ => ⟨_, HF.o⟩⟩
   obtain ⟨p, hp⟩ : ∃ p, ys[k]? = some p := ⟨_, List.getElem?_eq_getElem (by rw [HNY.o]; exact hlt)⟩
   obtain ⟨gY, rfl, hgY, hcY⟩ := HYc.o k p hp
   have oY : Old gY w := ⟨hgY⟩
   have q0 : w.cell? ⟨gY, k * 12, none⟩ = some (Value.string p.nm) := hcY 0 _ rfl
   have q1 : w.cell? ⟨gY, k * 12 + 1, none⟩ = some (Value.int .i64 p.kd) := hcY 1 _ rfl
   have q2 : w.cell? ⟨gY, k * 12 + 2, none⟩ = some (Value.int .i64 p.of) := hcY 2 _ rfl
   have q3 : w.cell? ⟨gY, k * 12 + 3, none⟩ = some (Value.int .i64 p.en) := hcY 3 _ rfl
   have q4 : w.cell? ⟨gY, k * 12 + 4, none⟩ = some (Value.int .i64 p.zr) := hcY 4 _ rfl
   have q5 : w.cell? ⟨gY, k * 12 + 5, none⟩ = some (Value.int .i64 p.zx) := hcY 5 _ rfl
   have q6 : w.cell? ⟨gY, k * 12 + 6, none⟩ = some (Value.slice p.la p.ln p.lc) := hcY 6 _ rfl
   have q7 : w.cell? ⟨gY, k * 12 + 7, none⟩ = some (Value.bool p.cl) := hcY 7 _ rfl
   have q8 : w.cell? ⟨gY, k * 12 + 8, none⟩ = some (Value.int .i64 p.ct) := hcY 8 _ rfl
   have q9 : w.cell? ⟨gY, k * 12 + 9, none⟩ = some (Value.int .i64 p.vt) := hcY 9 _ rfl
   have q10 : w.cell? ⟨gY, k * 12 + 10, none⟩ = some (Value.int .i64 p.sa) := hcY 10 _ rfl
   have q11 : w.cell? ⟨gY, k * 12 + 11, none⟩ = some (Value.int .i64 p.tr) := hcY 11 _ rfl
   have k0 : (0 : Int) ≤ (k : Int) := by omega
   have k1 : (k : Int) < (ny : Int) := by omega
   have HP := hh hp
   clear hcY hgY
   cases hcf : cfB y p with
   | true =>
    have HE0 : Hid (E0 = 12) := hh (by rw [HE1.o, if_pos (show cfL ys y = true from List.any_eq_true.2 ⟨p, List.mem_of_getElem? hp, hcf⟩)])
    have hcf' : y.kd ≠ 3 ∧ y.kd = p.kd ∧ y.of = p.of ∧ y.en = p.en := by
     unfold cfB at hcf
     simp only [Bool.and_eq_true, decide_eq_true_eq] at hcf
     exact ⟨hcf.1.1.1, hcf.1.1.2, hcf.1.2, hcf.2⟩
    obtain ⟨d0, d1, d2, d3⟩ := hcf'
    have b0 : (y.kd != 3) = true := by simpa using d0
    have b1 : (y.kd == p.kd) = true := by simpa using d1
    have b2 : (y.of == p.of) = true := by simpa using d2
    have b3 : (y.en == p.en) = true := by simpa using d3
    clear hp hcf d0 d1 d2 d3
    go_wp2_with fail
    all_goals
     go_ret
     refine ⟨by rw [HE0.o]; rfl, ?_, fun e => absurd (HE0.o.symm.trans e) (by decide)⟩
     repeat' (first | exact HQ.o | refine Q.alloc ?_ _ | refine Q.jk ?_ _ | refine Q.drew ?_)
   | false =>
    have HC := hh hcf
    have hw : y.kd = 3 ∨ (y.kd ≠ 3 ∧ y.kd ≠ p.kd) ∨ (y.kd ≠ 3 ∧ y.kd = p.kd ∧ y.of ≠ p.of) ∨ (y.kd ≠ 3 ∧ y.kd = p.kd ∧ y.of = p.of ∧ y.en ≠ p.en) := by
     unfold cfB at hcf
     by_cases a : y.kd = 3
     ·exact .inl a
     by_cases a1 : y.kd = p.kd
     rotate_left
     ·exact .inr (.inl ⟨a, a1⟩)
     by_cases a2 : y.of = p.of
     rotate_left
     ·exact .inr (.inr (.inl ⟨a, a1, a2⟩))
     by_cases a3 : y.en = p.en
     rotate_left
     ·exact .inr (.inr (.inr ⟨a, a1, a2, a3⟩))
     simp [a1, a2, a3] at hcf
     exact absurd (a1.trans hcf) a
    clear hcf
    rcases hw with d0 | ⟨d0, d1⟩ | ⟨d0, d1, d2⟩ | ⟨d0, d1, d2, d3⟩
    ·have b0 : (y.kd != 3) = false := by simpa using d0
     clear hp d0
     go_wp2_with fail
     go_roundw
     case rel =>
      refine ⟨k + 1, by go_num, by omega, hh (fun j q hj hq => ?_), ?_⟩
      ·by_cases e : j = k
       rotate_left
       ·exact HG.o j q (by omega) hq
       subst e
       rw [HP.o] at hq
       obtain rfl := Option.some.inj hq
       exact HC.o
      exact Q.i
     case measure => simp [intOf]; omega
    ·have b0 : (y.kd != 3) = true := by simpa using d0
     have b1 : (y.kd == p.kd) = false := by simpa using d1
     clear hp d0 d1
     go_wp2_with fail
     go_roundw
     case rel =>
      refine ⟨k + 1, by go_num, by omega, hh (fun j q hj hq => ?_), ?_⟩
      ·by_cases e : j = k
       rotate_left
       ·exact HG.o j q (by omega) hq
       subst e
       rw [HP.o] at hq
       obtain rfl := Option.some.inj hq
       exact HC.o
      exact Q.i
     case measure => simp [intOf]; omega
    ·have b0 : (y.kd != 3) = true := by simpa using d0
     have b1 : (y.kd == p.kd) = true := by simpa using d1
     have b2 : (y.of == p.of) = false := by simpa using d2
     clear hp d0 d1 d2
     go_wp2_with fail
     go_roundw
     case rel =>
      refine ⟨k + 1, by go_num, by omega, hh (fun j q hj hq => ?_), ?_⟩
      ·by_cases e : j = k
       rotate_left
       ·exact HG.o j q (by omega) hq
       subst e
       rw [HP.o] at hq
       obtain rfl := Option.some.inj hq
       exact HC.o
      exact Q.i
     case measure => simp [intOf]; omega
    have b0 : (y.kd != 3) = true := by simpa using d0
    have b1 : (y.kd == p.kd) = true := by simpa using d1
    have b2 : (y.of == p.of) = true := by simpa using d2
    have b3 : (y.en == p.en) = false := by simpa using d3
    clear hp d0 d1 d2 d3
    go_wp2_with fail
    go_roundw
    case rel =>
     refine ⟨k + 1, by go_num, by omega, hh (fun j q hj hq => ?_), ?_⟩
     ·by_cases e : j = k
      rotate_left
      ·exact HG.o j q (by omega) hq
      subst e
      rw [HP.o] at hq
      obtain rfl := Option.some.inj hq
      exact HC.o
     exact Q.i
    case measure => simp [intOf]; omega
end Go.Proofs.YtcjflafjmdfanaaGreatDoor
namespace Go.Sub
open Go
theorem lnC_get (l : List Lnr) (k j : Nat) (c : Lnr) (h : l[k]? = some c) (hj : j < 5) : (l.flatMap lnC)[k * 5 + j]? = (lnC c)[j]? := by
 induction l generalizing k with
 | nil => simp at h
 | cons d l ih =>
  rw [List.flatMap_cons]
  cases k with
  | zero =>
   simp only [List.getElem?_cons_zero, Option.some.injEq] at h
   subst h
   rw [List.getElem?_append_left (by simp only [lnC, List.length_cons, List.length_nil]; omega), Nat.zero_mul, Nat.zero_add]
  | succ k =>
   simp only [List.getElem?_cons_succ] at h
   rw [List.getElem?_append_right (by simp only [lnC, List.length_cons, List.length_nil]; omega)]
   have e : (k + 1) * 5 + j - (lnC d).length = k * 5 + j := by
    simp only [lnC, List.length_cons, List.length_nil]
    omega
   rw [e]
   exact ih k h
theorem srC_get (l : List Srr) (k j : Nat) (c : Srr) (h : l[k]? = some c) (hj : j < 6) : (l.flatMap srC)[k * 6 + j]? = (srC c)[j]? := by
 induction l generalizing k with
 | nil => simp at h
 | cons d l ih =>
  rw [List.flatMap_cons]
  cases k with
  | zero =>
   simp only [List.getElem?_cons_zero, Option.some.injEq] at h
   subst h
   rw [List.getElem?_append_left (by simp only [srC, List.length_cons, List.length_nil]; omega), Nat.zero_mul, Nat.zero_add]
  | succ k =>
   simp only [List.getElem?_cons_succ] at h
   rw [List.getElem?_append_right (by simp only [srC, List.length_cons, List.length_nil]; omega)]
   have e : (k + 1) * 6 + j - (srC d).length = k * 6 + j := by
    simp only [srC, List.length_cons, List.length_nil]
    omega
   rw [e]
   exact ih k h
end Go.Sub
namespace Go.Proofs.YtcjflafjmdfanaaGreatDoor
open Go.RowKit Go.Sub
attribute [local go_sem ↓] Go.wp_at_zero Go.wp_at_succ
theorem first_bus (W0 w : World) (b m : Nat) (vB vL vS vY : Value) (seen : List ByteArray) (nb nl ns : Nat) (ys : List Byr) (xs : List ByteArray) (A : Option Addr) (n ca : Nat) (h : Bld W0 w b m vB vL vS vY seen nb nl ns ys) (hR : RdV W0 A n ca 1 (xs.map Value.string)) (hlen : xs.length = n) (hx : ∀ x ∈ xs, (x.size : Int) ≤ 9223372036854775807) (hl : seen.length + n < 1000) (hn : nb + n < 1000)
  (E : Nat → Int) (hE : ∀ k x, xs[k]? = some x → E k = nmE (seen ++ xs.take k) x) :
  Calls Tryz.prog 57 #[.slice A n ca, .func (.func 58) #[.pointer (some ⟨b, 0, none⟩)] #[]] w (RetB W0 (fstE E n) fun w' => ∃ v', Bld W0 w' b m v' vL vS vY (seen ++ xs) (nb + n) nl ns ys) := by
 have HL := hh hlen
 have h1 : Bld W0 w b m vB vL vS vY (seen ++ xs.take 0) (nb + 0) nl ns ys := by simpa using h
 have H1 := hh h1
 have hn0 : (0 : Int) ≤ (n : Int) := by omega
 have hn1 : (n : Int) < 1000 := by omega
 clear h h1 hlen
 go_enter Tryz.func57, Tryz.ntmps57
 go_wp2_with fail
 go_loopw [10] (fun i wr => ∃ (k : Nat) (v' : Value), i = .int .i64 k ∧ k ≤ n ∧ Hid (∀ j, j < k → E j = 0) ∧ Hid (Bld W0 wr b m v' vL vS vY (seen ++ xs.take k) (nb + k) nl ns ys)) (fun i _ => n - (intOf i).toNat)
 case atStart => exact ⟨0, vB, rfl, Nat.zero_le _, hh (fun j hj => absurd hj (Nat.not_lt_zero _)), H1⟩
 case round =>
  obtain ⟨k, v', rfl, hk, HZ, HBk⟩ := hrel
  by_cases hlt : k < n
  rotate_left
  ·obtain rfl : n = k := by omega
   have ER : Hid (fstE E n = 0) := hh (fstE_none HZ.o)
   have ET : Hid (xs.take n = xs) := hh (List.take_of_length_le (by rw [HL.o]; exact Nat.le_refl _))
   rw [ET.o] at HBk
   go_wp2_with fail
   go_ret
   exact ⟨by rw [ER.o]; rfl, HBk.o.q, fun _ => ⟨_, HBk.o⟩⟩
  obtain ⟨x, hxk⟩ : ∃ x, xs[k]? = some x := ⟨_, List.getElem?_eq_getElem (by rw [HL.o]; exact hlt)⟩
  have hm := List.mem_of_getElem? hxk
  obtain ⟨g, o, eA, hg, hc⟩ := hR.2.2.1 (by omega)
  cases eA
  have og : Old g wr := ⟨Nat.lt_of_lt_of_le hg HBk.o.q.below.size⟩
  have q0 : wr.cell? ⟨g, o + k, none⟩ = some (.string x) := (HBk.o.q.below.cell (p := ⟨g, o + k, none⟩) hg).trans (hc _ _ (by rw [List.getElem?_map, hxk]; rfl))
  have CT0 := bus_c W0 wr b m _ _ _ _ _ _ _ _ _ x HBk.o (hx x hm) (by rw [List.length_append, List.length_take]; omega) (by omega)
  rw [← hE k x hxk] at CT0
  have CT := hh CT0
  have ES : Hid (seen ++ xs.take (k + 1) = seen ++ xs.take k ++ [x]) := hh (by
   have hx' := hxk
   rw [List.append_assoc]
   congr 1
   rw [List.take_add_one, hx']; rfl)
  have EY : Hid (xs.take (k + 1) = xs.take k ++ [x]) := hh (by rw [List.take_add_one, hxk]; rfl)
  have k0 : (0 : Int) ≤ (k : Int) := by omega
  have k1 : (k : Int) < (n : Int) := by omega
  by_cases hE0 : E k = 0
  rotate_left
  ·have HE0 := hh hE0
   have ER : Hid (fstE E n = E k) := hh (fstE_hit HZ.o hE0 hlt)
   generalize E k = ek at CT HE0 ER
   have hek : ¬ ek = 0 := HE0.o
   clear CT0 hxk hm hg hc hE0
   go_wp2_with (first | (go_at_call 58; (with_reducible refine CT.o.mono ?_); rintro e w1 ⟨rfl, hq1, _⟩; have HQ1 := hh hq1; clear hq1) | fail)
   go_ret
   exact ⟨by rw [ER.o]; rfl, HQ1.o, fun e => absurd (ER.o.symm.trans e) HE0.o⟩
  rw [hE0] at CT
  have HE0 := hh hE0
  clear CT0 hxk hm hg hc hE0
  go_wp2_with (first | (go_at_call 58; (with_reducible refine CT.o.mono ?_); rintro e w1 ⟨rfl, hq1, hI⟩; obtain ⟨v1, hB1⟩ := hI rfl; have HB1 := hh hB1; clear hI hB1 hq1) | fail)
  go_roundw
  case rel =>
   refine ⟨k + 1, v1, by go_num, by omega, hh (fun j hj => ?_), hh ?_⟩
   ·by_cases e : j = k
    ·subst e; exact HE0.o
    exact HZ.o j (by omega)
   rw [ES.o]
   exact HB1.o
  case measure => simp [intOf]; omega
theorem first_line (W0 w : World) (b m : Nat) (vB vL vS vY : Value) (seen : List ByteArray) (nb nl ns : Nat) (ys : List Byr) (xs : List Lnr) (A : Option Addr) (n ca : Nat) (h : Bld W0 w b m vB vL vS vY seen nb nl ns ys) (hR : RdV W0 A n ca 5 (xs.flatMap lnC)) (hlen : xs.length = n) (hx : ∀ x ∈ xs, (x.nm.size : Int) ≤ 9223372036854775807) (hl : seen.length + n < 1000) (hn : nl + n < 1000)
  (E : Nat → Int) (hE : ∀ k x, xs[k]? = some x → E k = lnE (seen ++ (xs.take k).map Lnr.nm) x) :
  Calls Tryz.prog 59 #[.slice A n ca, .func (.func 60) #[.pointer (some ⟨b, 0, none⟩)] #[]] w (RetB W0 (fstE E n) fun w' => ∃ v', Bld W0 w' b m vB v' vS vY (seen ++ (xs).map Lnr.nm) nb (nl + n) ns ys) := by
 have HL := hh hlen
 have h1 : Bld W0 w b m vB vL vS vY (seen ++ (xs.take 0).map Lnr.nm) nb (nl + 0) ns ys := by simpa using h
 have H1 := hh h1
 have hn0 : (0 : Int) ≤ (n : Int) := by omega
 have hn1 : (n : Int) < 1000 := by omega
 clear h h1 hlen
 go_enter Tryz.func59, Tryz.ntmps59
 go_wp2_with fail
 go_loopw [10] (fun i wr => ∃ (k : Nat) (v' : Value), i = .int .i64 k ∧ k ≤ n ∧ Hid (∀ j, j < k → E j = 0) ∧ Hid (Bld W0 wr b m vB v' vS vY (seen ++ (xs.take k).map Lnr.nm) nb (nl + k) ns ys)) (fun i _ => n - (intOf i).toNat)
 case atStart => exact ⟨0, vL, rfl, Nat.zero_le _, hh (fun j hj => absurd hj (Nat.not_lt_zero _)), H1⟩
 case round =>
  obtain ⟨k, v', rfl, hk, HZ, HBk⟩ := hrel
  by_cases hlt : k < n
  rotate_left
  ·obtain rfl : n = k := by omega
   have ER : Hid (fstE E n = 0) := hh (fstE_none HZ.o)
   have ET : Hid (xs.take n = xs) := hh (List.take_of_length_le (by rw [HL.o]; exact Nat.le_refl _))
   rw [ET.o] at HBk
   go_wp2_with fail
   go_ret
   exact ⟨by rw [ER.o]; rfl, HBk.o.q, fun _ => ⟨_, HBk.o⟩⟩
  obtain ⟨x, hxk⟩ : ∃ x, xs[k]? = some x := ⟨_, List.getElem?_eq_getElem (by rw [HL.o]; exact hlt)⟩
  have hm := List.mem_of_getElem? hxk
  obtain ⟨g, o, eA, hg, hc⟩ := hR.2.2.1 (by omega)
  cases eA
  have og : Old g wr := ⟨Nat.lt_of_lt_of_le hg HBk.o.q.below.size⟩
  have q0 : wr.cell? ⟨g, o + k * 5, none⟩ = some (Value.string x.nm) := (HBk.o.q.below.cell (p := ⟨g, o + k * 5, none⟩) hg).trans (by rw [← Nat.add_zero (k * 5)]; exact (hc (k * 5 + 0) _ (lnC_get xs k 0 x hxk (by decide))))
  have q1 : wr.cell? ⟨g, o + k * 5 + 1, none⟩ = some (Value.int .i64 x.z1.r) := (HBk.o.q.below.cell (p := ⟨g, o + k * 5 + 1, none⟩) hg).trans (by rw [Nat.add_assoc o (k * 5) 1]; exact (hc (k * 5 + 1) _ (lnC_get xs k 1 x hxk (by decide))))
  have q2 : wr.cell? ⟨g, o + k * 5 + 2, none⟩ = some (Value.int .i64 x.z1.x) := (HBk.o.q.below.cell (p := ⟨g, o + k * 5 + 2, none⟩) hg).trans (by rw [Nat.add_assoc o (k * 5) 2]; exact (hc (k * 5 + 2) _ (lnC_get xs k 2 x hxk (by decide))))
  have q3 : wr.cell? ⟨g, o + k * 5 + 3, none⟩ = some (Value.int .i64 x.z0.r) := (HBk.o.q.below.cell (p := ⟨g, o + k * 5 + 3, none⟩) hg).trans (by rw [Nat.add_assoc o (k * 5) 3]; exact (hc (k * 5 + 3) _ (lnC_get xs k 3 x hxk (by decide))))
  have q4 : wr.cell? ⟨g, o + k * 5 + 4, none⟩ = some (Value.int .i64 x.z0.x) := (HBk.o.q.below.cell (p := ⟨g, o + k * 5 + 4, none⟩) hg).trans (by rw [Nat.add_assoc o (k * 5) 4]; exact (hc (k * 5 + 4) _ (lnC_get xs k 4 x hxk (by decide))))
  have CT0 := line_c W0 (wr.alloc (Obj.cells #[Value.string x.nm, Value.int .i64 x.z1.r, Value.int .i64 x.z1.x, Value.int .i64 x.z0.r, Value.int .i64 x.z0.x] 115)) b m _ _ _ _ _ _ _ _ _ x (HBk.o.to (Q.alloc (Q.refl wr) _)) (hx x hm) (by rw [List.length_append, List.length_map, List.length_take]; omega) (by omega)
  rw [← hE k x hxk] at CT0
  have CT := hh CT0
  have ES : Hid (seen ++ (xs.take (k + 1)).map Lnr.nm = seen ++ (xs.take k).map Lnr.nm ++ [x.nm]) := hh (by
   have hx' := hxk
   rw [List.append_assoc]
   congr 1
   rw [List.take_add_one, hx', List.map_append]; rfl)
  have EY : Hid (xs.take (k + 1) = xs.take k ++ [x]) := hh (by rw [List.take_add_one, hxk]; rfl)
  have k0 : (0 : Int) ≤ (k : Int) := by omega
  have k1 : (k : Int) < (n : Int) := by omega
  by_cases hE0 : E k = 0
  rotate_left
  ·have HE0 := hh hE0
   have ER : Hid (fstE E n = E k) := hh (fstE_hit HZ.o hE0 hlt)
   generalize E k = ek at CT HE0 ER
   have hek : ¬ ek = 0 := HE0.o
   clear CT0 hxk hm hg hc hE0
   go_wp2_with (first | (go_at_call 60; (with_reducible refine CT.o.mono ?_); rintro e w1 ⟨rfl, hq1, _⟩; have HQ1 := hh hq1; clear hq1) | fail)
   go_ret
   exact ⟨by rw [ER.o]; rfl, HQ1.o, fun e => absurd (ER.o.symm.trans e) HE0.o⟩
  rw [hE0] at CT
  have HE0 := hh hE0
  clear CT0 hxk hm hg hc hE0
  go_wp2_with (first | (go_at_call 60; (with_reducible refine CT.o.mono ?_); rintro e w1 ⟨rfl, hq1, hI⟩; obtain ⟨v1, hB1⟩ := hI rfl; have HB1 := hh hB1; clear hI hB1 hq1) | fail)
  go_roundw
  case rel =>
   refine ⟨k + 1, v1, by go_num, by omega, hh (fun j hj => ?_), hh ?_⟩
   ·by_cases e : j = k
    ·subst e; exact HE0.o
    exact HZ.o j (by omega)
   rw [ES.o]
   exact HB1.o
  case measure => simp [intOf]; omega
theorem first_source (W0 w : World) (b m : Nat) (vB vL vS vY : Value) (seen : List ByteArray) (nb nl ns : Nat) (ys : List Byr) (xs : List Srr) (A : Option Addr) (n ca : Nat) (h : Bld W0 w b m vB vL vS vY seen nb nl ns ys) (hR : RdV W0 A n ca 6 (xs.flatMap srC)) (hlen : xs.length = n) (hx : ∀ x ∈ xs, (x.nm.size : Int) ≤ 9223372036854775807) (hl : seen.length + n < 1000) (hn : ns + n < 1000)
  (E : Nat → Int) (hE : ∀ k x, xs[k]? = some x → E k = srE (seen ++ (xs.take k).map Srr.nm) x) :
  Calls Tryz.prog 61 #[.slice A n ca, .func (.func 62) #[.pointer (some ⟨b, 0, none⟩)] #[]] w (RetB W0 (fstE E n) fun w' => ∃ v', Bld W0 w' b m vB vL v' vY (seen ++ (xs).map Srr.nm) nb nl (ns + n) ys) := by
 have HL := hh hlen
 have h1 : Bld W0 w b m vB vL vS vY (seen ++ (xs.take 0).map Srr.nm) nb nl (ns + 0) ys := by simpa using h
 have H1 := hh h1
 have hn0 : (0 : Int) ≤ (n : Int) := by omega
 have hn1 : (n : Int) < 1000 := by omega
 clear h h1 hlen
 go_enter Tryz.func61, Tryz.ntmps61
 go_wp2_with fail
 go_loopw [10] (fun i wr => ∃ (k : Nat) (v' : Value), i = .int .i64 k ∧ k ≤ n ∧ Hid (∀ j, j < k → E j = 0) ∧ Hid (Bld W0 wr b m vB vL v' vY (seen ++ (xs.take k).map Srr.nm) nb nl (ns + k) ys)) (fun i _ => n - (intOf i).toNat)
 case atStart => exact ⟨0, vS, rfl, Nat.zero_le _, hh (fun j hj => absurd hj (Nat.not_lt_zero _)), H1⟩
 case round =>
  obtain ⟨k, v', rfl, hk, HZ, HBk⟩ := hrel
  by_cases hlt : k < n
  rotate_left
  ·obtain rfl : n = k := by omega
   have ER : Hid (fstE E n = 0) := hh (fstE_none HZ.o)
   have ET : Hid (xs.take n = xs) := hh (List.take_of_length_le (by rw [HL.o]; exact Nat.le_refl _))
   rw [ET.o] at HBk
   go_wp2_with fail
   go_ret
   exact ⟨by rw [ER.o]; rfl, HBk.o.q, fun _ => ⟨_, HBk.o⟩⟩
  obtain ⟨x, hxk⟩ : ∃ x, xs[k]? = some x := ⟨_, List.getElem?_eq_getElem (by rw [HL.o]; exact hlt)⟩
  have hm := List.mem_of_getElem? hxk
  obtain ⟨g, o, eA, hg, hc⟩ := hR.2.2.1 (by omega)
  cases eA
  have og : Old g wr := ⟨Nat.lt_of_lt_of_le hg HBk.o.q.below.size⟩
  have q0 : wr.cell? ⟨g, o + k * 6, none⟩ = some (Value.string x.nm) := (HBk.o.q.below.cell (p := ⟨g, o + k * 6, none⟩) hg).trans (by rw [← Nat.add_zero (k * 6)]; exact (hc (k * 6 + 0) _ (srC_get xs k 0 x hxk (by decide))))
  have q1 : wr.cell? ⟨g, o + k * 6 + 1, none⟩ = some (Value.int .i64 x.em) := (HBk.o.q.below.cell (p := ⟨g, o + k * 6 + 1, none⟩) hg).trans (by rw [Nat.add_assoc o (k * 6) 1]; exact (hc (k * 6 + 1) _ (srC_get xs k 1 x hxk (by decide))))
  have q2 : wr.cell? ⟨g, o + k * 6 + 2, none⟩ = some (Value.int .i64 x.z1.r) := (HBk.o.q.below.cell (p := ⟨g, o + k * 6 + 2, none⟩) hg).trans (by rw [Nat.add_assoc o (k * 6) 2]; exact (hc (k * 6 + 2) _ (srC_get xs k 2 x hxk (by decide))))
  have q3 : wr.cell? ⟨g, o + k * 6 + 3, none⟩ = some (Value.int .i64 x.z1.x) := (HBk.o.q.below.cell (p := ⟨g, o + k * 6 + 3, none⟩) hg).trans (by rw [Nat.add_assoc o (k * 6) 3]; exact (hc (k * 6 + 3) _ (srC_get xs k 3 x hxk (by decide))))
  have q4 : wr.cell? ⟨g, o + k * 6 + 4, none⟩ = some (Value.int .i64 x.z0.r) := (HBk.o.q.below.cell (p := ⟨g, o + k * 6 + 4, none⟩) hg).trans (by rw [Nat.add_assoc o (k * 6) 4]; exact (hc (k * 6 + 4) _ (srC_get xs k 4 x hxk (by decide))))
  have q5 : wr.cell? ⟨g, o + k * 6 + 5, none⟩ = some (Value.int .i64 x.z0.x) := (HBk.o.q.below.cell (p := ⟨g, o + k * 6 + 5, none⟩) hg).trans (by rw [Nat.add_assoc o (k * 6) 5]; exact (hc (k * 6 + 5) _ (srC_get xs k 5 x hxk (by decide))))
  have CT0 := source_c W0 (wr.alloc (Obj.cells #[Value.string x.nm, Value.int .i64 x.em, Value.int .i64 x.z1.r, Value.int .i64 x.z1.x, Value.int .i64 x.z0.r, Value.int .i64 x.z0.x] 95)) b m _ _ _ _ _ _ _ _ _ x (HBk.o.to (Q.alloc (Q.refl wr) _)) (hx x hm) (by rw [List.length_append, List.length_map, List.length_take]; omega) (by omega)
  rw [← hE k x hxk] at CT0
  have CT := hh CT0
  have ES : Hid (seen ++ (xs.take (k + 1)).map Srr.nm = seen ++ (xs.take k).map Srr.nm ++ [x.nm]) := hh (by
   have hx' := hxk
   rw [List.append_assoc]
   congr 1
   rw [List.take_add_one, hx', List.map_append]; rfl)
  have EY : Hid (xs.take (k + 1) = xs.take k ++ [x]) := hh (by rw [List.take_add_one, hxk]; rfl)
  have k0 : (0 : Int) ≤ (k : Int) := by omega
  have k1 : (k : Int) < (n : Int) := by omega
  by_cases hE0 : E k = 0
  rotate_left
  ·have HE0 := hh hE0
   have ER : Hid (fstE E n = E k) := hh (fstE_hit HZ.o hE0 hlt)
   generalize E k = ek at CT HE0 ER
   have hek : ¬ ek = 0 := HE0.o
   clear CT0 hxk hm hg hc hE0
   go_wp2_with (first | (go_at_call 62; (with_reducible refine CT.o.mono ?_); rintro e w1 ⟨rfl, hq1, _⟩; have HQ1 := hh hq1; clear hq1) | fail)
   go_ret
   exact ⟨by rw [ER.o]; rfl, HQ1.o, fun e => absurd (ER.o.symm.trans e) HE0.o⟩
  rw [hE0] at CT
  have HE0 := hh hE0
  clear CT0 hxk hm hg hc hE0
  go_wp2_with (first | (go_at_call 62; (with_reducible refine CT.o.mono ?_); rintro e w1 ⟨rfl, hq1, hI⟩; obtain ⟨v1, hB1⟩ := hI rfl; have HB1 := hh hB1; clear hI hB1 hq1) | fail)
  go_roundw
  case rel =>
   refine ⟨k + 1, v1, by go_num, by omega, hh (fun j hj => ?_), hh ?_⟩
   ·by_cases e : j = k
    ·subst e; exact HE0.o
    exact HZ.o j (by omega)
   rw [ES.o]
   exact HB1.o
  case measure => simp [intOf]; omega
theorem first_bay (W0 w : World) (b m : Nat) (vB vL vS vY : Value) (seen : List ByteArray) (nb nl ns : Nat) (xs : List Byr) (A : Option Addr) (n ca : Nat) (lks : Nat → List Lk) (hlk : ∀ k x, xs[k]? = some x → LkAt W0 x (lks k) ∧ (lks k).length ≤ 9223372036854775807) (h : Bld W0 w b m vB vL vS vY seen nb nl ns []) (hR : RdV W0 A n ca 12 (xs.flatMap byC)) (hlen : xs.length = n) (hx : ∀ x ∈ xs, (x.nm.size : Int) ≤ 9223372036854775807) (hl : seen.length + n < 1000) (hb : nb < 1000) (hL : nl < 1000) (hS : ns < 1000) (hY : n < 1000)
  (E : Nat → Int) (hE : ∀ k x, xs[k]? = some x → E k = byE nb nl ns (seen ++ (xs.take k).map Byr.nm) (xs.take k) x (lks k)) :
  Calls Tryz.prog 63 #[.slice A n ca, .func (.func 64) #[.pointer (some ⟨b, 0, none⟩)] #[]] w (RetB W0 (fstE E n) fun w' => ∃ v', Bld W0 w' b m vB vL vS v' (seen ++ (xs).map Byr.nm) nb nl ns (xs)) := by
 have HL := hh hlen
 have h1 : Bld W0 w b m vB vL vS vY (seen ++ (xs.take 0).map Byr.nm) nb nl ns (xs.take 0) := by simpa using h
 have H1 := hh h1
 have hn0 : (0 : Int) ≤ (n : Int) := by omega
 have hn1 : (n : Int) < 1000 := by omega
 clear h h1 hlen
 go_enter Tryz.func63, Tryz.ntmps63
 go_wp2_with fail
 go_loopw [10] (fun i wr => ∃ (k : Nat) (v' : Value), i = .int .i64 k ∧ k ≤ n ∧ Hid (∀ j, j < k → E j = 0) ∧ Hid (Bld W0 wr b m vB vL vS v' (seen ++ (xs.take k).map Byr.nm) nb nl ns (xs.take k))) (fun i _ => n - (intOf i).toNat)
 case atStart => exact ⟨0, vY, rfl, Nat.zero_le _, hh (fun j hj => absurd hj (Nat.not_lt_zero _)), H1⟩
 case round =>
  obtain ⟨k, v', rfl, hk, HZ, HBk⟩ := hrel
  by_cases hlt : k < n
  rotate_left
  ·obtain rfl : n = k := by omega
   have ER : Hid (fstE E n = 0) := hh (fstE_none HZ.o)
   have ET : Hid (xs.take n = xs) := hh (List.take_of_length_le (by rw [HL.o]; exact Nat.le_refl _))
   rw [ET.o] at HBk
   go_wp2_with fail
   go_ret
   exact ⟨by rw [ER.o]; rfl, HBk.o.q, fun _ => ⟨_, HBk.o⟩⟩
  obtain ⟨x, hxk⟩ : ∃ x, xs[k]? = some x := ⟨_, List.getElem?_eq_getElem (by rw [HL.o]; exact hlt)⟩
  have hm := List.mem_of_getElem? hxk
  obtain ⟨g, o, eA, hg, hc⟩ := hR.2.2.1 (by omega)
  cases eA
  have og : Old g wr := ⟨Nat.lt_of_lt_of_le hg HBk.o.q.below.size⟩
  have q0 : wr.cell? ⟨g, o + k * 12, none⟩ = some (Value.string x.nm) := (HBk.o.q.below.cell (p := ⟨g, o + k * 12, none⟩) hg).trans (by rw [← Nat.add_zero (k * 12)]; exact (hc (k * 12 + 0) _ (byC_get xs k 0 x hxk (by decide))))
  have q1 : wr.cell? ⟨g, o + k * 12 + 1, none⟩ = some (Value.int .i64 x.kd) := (HBk.o.q.below.cell (p := ⟨g, o + k * 12 + 1, none⟩) hg).trans (by rw [Nat.add_assoc o (k * 12) 1]; exact (hc (k * 12 + 1) _ (byC_get xs k 1 x hxk (by decide))))
  have q2 : wr.cell? ⟨g, o + k * 12 + 2, none⟩ = some (Value.int .i64 x.of) := (HBk.o.q.below.cell (p := ⟨g, o + k * 12 + 2, none⟩) hg).trans (by rw [Nat.add_assoc o (k * 12) 2]; exact (hc (k * 12 + 2) _ (byC_get xs k 2 x hxk (by decide))))
  have q3 : wr.cell? ⟨g, o + k * 12 + 3, none⟩ = some (Value.int .i64 x.en) := (HBk.o.q.below.cell (p := ⟨g, o + k * 12 + 3, none⟩) hg).trans (by rw [Nat.add_assoc o (k * 12) 3]; exact (hc (k * 12 + 3) _ (byC_get xs k 3 x hxk (by decide))))
  have q4 : wr.cell? ⟨g, o + k * 12 + 4, none⟩ = some (Value.int .i64 x.zr) := (HBk.o.q.below.cell (p := ⟨g, o + k * 12 + 4, none⟩) hg).trans (by rw [Nat.add_assoc o (k * 12) 4]; exact (hc (k * 12 + 4) _ (byC_get xs k 4 x hxk (by decide))))
  have q5 : wr.cell? ⟨g, o + k * 12 + 5, none⟩ = some (Value.int .i64 x.zx) := (HBk.o.q.below.cell (p := ⟨g, o + k * 12 + 5, none⟩) hg).trans (by rw [Nat.add_assoc o (k * 12) 5]; exact (hc (k * 12 + 5) _ (byC_get xs k 5 x hxk (by decide))))
  have q6 : wr.cell? ⟨g, o + k * 12 + 6, none⟩ = some (Value.slice x.la x.ln x.lc) := (HBk.o.q.below.cell (p := ⟨g, o + k * 12 + 6, none⟩) hg).trans (by rw [Nat.add_assoc o (k * 12) 6]; exact (hc (k * 12 + 6) _ (byC_get xs k 6 x hxk (by decide))))
  have q7 : wr.cell? ⟨g, o + k * 12 + 7, none⟩ = some (Value.bool x.cl) := (HBk.o.q.below.cell (p := ⟨g, o + k * 12 + 7, none⟩) hg).trans (by rw [Nat.add_assoc o (k * 12) 7]; exact (hc (k * 12 + 7) _ (byC_get xs k 7 x hxk (by decide))))
  have q8 : wr.cell? ⟨g, o + k * 12 + 8, none⟩ = some (Value.int .i64 x.ct) := (HBk.o.q.below.cell (p := ⟨g, o + k * 12 + 8, none⟩) hg).trans (by rw [Nat.add_assoc o (k * 12) 8]; exact (hc (k * 12 + 8) _ (byC_get xs k 8 x hxk (by decide))))
  have q9 : wr.cell? ⟨g, o + k * 12 + 9, none⟩ = some (Value.int .i64 x.vt) := (HBk.o.q.below.cell (p := ⟨g, o + k * 12 + 9, none⟩) hg).trans (by rw [Nat.add_assoc o (k * 12) 9]; exact (hc (k * 12 + 9) _ (byC_get xs k 9 x hxk (by decide))))
  have q10 : wr.cell? ⟨g, o + k * 12 + 10, none⟩ = some (Value.int .i64 x.sa) := (HBk.o.q.below.cell (p := ⟨g, o + k * 12 + 10, none⟩) hg).trans (by rw [Nat.add_assoc o (k * 12) 10]; exact (hc (k * 12 + 10) _ (byC_get xs k 10 x hxk (by decide))))
  have q11 : wr.cell? ⟨g, o + k * 12 + 11, none⟩ = some (Value.int .i64 x.tr) := (HBk.o.q.below.cell (p := ⟨g, o + k * 12 + 11, none⟩) hg).trans (by rw [Nat.add_assoc o (k * 12) 11]; exact (hc (k * 12 + 11) _ (byC_get xs k 11 x hxk (by decide))))
  have CT0 := bay_c W0 (wr.alloc (Obj.cells #[Value.string x.nm, Value.int .i64 x.kd, Value.int .i64 x.of, Value.int .i64 x.en, Value.int .i64 x.zr, Value.int .i64 x.zx, Value.slice x.la x.ln x.lc, Value.bool x.cl, Value.int .i64 x.ct, Value.int .i64 x.vt, Value.int .i64 x.sa, Value.int .i64 x.tr] 91)) b m _ _ _ _ _ _ _ _ _ x (lks k) (HBk.o.to (Q.alloc (Q.refl wr) _)) (((hlk k x hxk).1.q HBk.o.q).q (Q.alloc (Q.refl wr) _)) (hx x hm) (by rw [List.length_append, List.length_map, List.length_take]; omega) hb hL hS (by rw [List.length_take]; omega) (hlk k x hxk).2
  rw [← hE k x hxk] at CT0
  have CT := hh CT0
  have ES : Hid (seen ++ (xs.take (k + 1)).map Byr.nm = seen ++ (xs.take k).map Byr.nm ++ [x.nm]) := hh (by
   have hx' := hxk
   rw [List.append_assoc]
   congr 1
   rw [List.take_add_one, hx', List.map_append]; rfl)
  have EY : Hid (xs.take (k + 1) = xs.take k ++ [x]) := hh (by rw [List.take_add_one, hxk]; rfl)
  have k0 : (0 : Int) ≤ (k : Int) := by omega
  have k1 : (k : Int) < (n : Int) := by omega
  by_cases hE0 : E k = 0
  rotate_left
  ·have HE0 := hh hE0
   have ER : Hid (fstE E n = E k) := hh (fstE_hit HZ.o hE0 hlt)
   generalize E k = ek at CT HE0 ER
   have hek : ¬ ek = 0 := HE0.o
   clear CT0 hxk hm hg hc hE0
   go_wp2_with (first | (go_at_call 64; (with_reducible refine CT.o.mono ?_); rintro e w1 ⟨rfl, hq1, _⟩; have HQ1 := hh hq1; clear hq1) | fail)
   go_ret
   exact ⟨by rw [ER.o]; rfl, HQ1.o, fun e => absurd (ER.o.symm.trans e) HE0.o⟩
  rw [hE0] at CT
  have HE0 := hh hE0
  clear CT0 hxk hm hg hc hE0
  go_wp2_with (first | (go_at_call 64; (with_reducible refine CT.o.mono ?_); rintro e w1 ⟨rfl, hq1, hI⟩; obtain ⟨v1, hB1⟩ := hI rfl; have HB1 := hh hB1; clear hI hB1 hq1) | fail)
  go_roundw
  case rel =>
   refine ⟨k + 1, v1, by go_num, by omega, hh (fun j hj => ?_), hh ?_⟩
   ·by_cases e : j = k
    ·subst e; exact HE0.o
    exact HZ.o j (by omega)
   rw [ES.o, EY.o]
   exact HB1.o
  case measure => simp [intOf]; omega
end Go.Proofs.YtcjflafjmdfanaaGreatDoor
