
/- What groups and Groups of the reference 06 return for a station and a position that have no error. -/
import Derived.Test.YtcjflafjmdfanaaGreatDoorBv28
set_option maxHeartbeats 64000000
set_option maxRecDepth 100000
set_option linter.unusedSimpArgs false
set_option linter.unusedVariables false
namespace Go.Proofs.YtcjflafjmdfanaaGreatDoor
open Go.RowKit Go.Sub
attribute [local go_sem ↓] Go.wp_at_zero Go.wp_at_succ
theorem r6groups_c (s : Sta) (p : Pos) (w : World) (h : GoodAt w s p) :
  Calls Tryz.prog 90 #[.agg #[Value.string s.nm, Value.slice s.aB s.buses.length s.cB, Value.slice s.aL s.lines.length s.cL, Value.slice s.aS s.srcs.length s.cS, Value.slice s.aY s.bays.length s.cY], .agg #[Value.slice p.aC p.closed.length p.cC, Value.slice p.aK p.rows.length p.cK]] w (RetI (grI s p) w) := by
 have HGA := hh h
 have lens := h.lens
 have c0 : (0 : Int) ≤ (s.buses.length : Int) := by omega
 have c1 : (0 : Int) ≤ (s.bays.length : Int) := by omega
 have c2 : (s.buses.length : Int) ≤ 4 := by omega
 have c3 : (s.bays.length : Int) ≤ 16 := by omega
 obtain ⟨l1, l2, l3, l4, l5, l6, l7⟩ := lens
 have L7 := hh l7
 have GZ : Hid (grF s p 0 = (List.range s.buses.length).map Int.ofNat) := hh rfl
 have GL := hh (grF_len s p)
 have GI : Hid (grI s p = grF s p s.bays.length) := hh rfl
 generalize grI s p = gI at GI ⊢
 clear h l3 l4 l6 l7
 go_enter Tryz.func90, Tryz.ntmps90
 go_upto_region 1 with fail
 refine wp_world ?_
 intro V eV
 have hq0 : Q w V := by rw [eV]; exact Q.i
 have hb : HB V w.heap.size #[Value.string s.nm, Value.slice s.aB s.buses.length s.cB, Value.slice s.aL s.lines.length s.cL, Value.slice s.aS s.srcs.length s.cS, Value.slice s.aY s.bays.length s.cY] 27 := by rw [eV]; exact (HB.new _ _ _ _ rfl).q Q.i
 have hb2 : HB V (w.heap.size + 1) #[Value.slice p.aC p.closed.length p.cC, Value.slice p.aK p.rows.length p.cK] 31 := by rw [eV]; exact (HB.new (w.alloc (Obj.cells #[Value.string s.nm, Value.slice s.aB s.buses.length s.cB, Value.slice s.aL s.lines.length s.cL, Value.slice s.aS s.srcs.length s.cS, Value.slice s.aY s.bays.length s.cY] 27)) _ _ _ (by simp)).q Q.i
 have HQ0 := hh hq0
 have s0 := hb.cell 0
 have s1 := hb.cell 1
 have s2 := hb.cell 2
 have s3 := hb.cell 3
 have s4 := hb.cell 4
 have p0 := hb2.cell 0
 have p1 := hb2.cell 1
 simp only [List.getElem?_toArray, List.getElem?_cons_zero, List.getElem?_cons_succ] at s0 s1 s2 s3 s4 p0 p1
 have ob := hb.old
 have ob2 := hb2.old
 have HGA : Hid (GoodAt V s p) := hh (HGA.o.q hq0)
 clear eV hb hq0 hb2
 generalize w.heap.size + 1 = b2 at p0 p1 ob2 ⊢
 generalize w.heap.size = b at s0 s1 s2 s3 s4 ob ⊢
 go_wp2_with fail
 go_loopw [5, 6] (fun lv i wr => ∃ (k : Nat) (A : Option Addr) (c : Nat), i = .int .i64 k ∧ k ≤ s.buses.length ∧ lv = .slice A k c ∧ Q V wr ∧ Hid (RowI V wr (.slice A k c) ((List.range k).map Int.ofNat))) (fun _ i _ => s.buses.length - (intOf i).toNat)
 case atStart => exact ⟨0, none, 0, rfl, Nat.zero_le _, rfl, (by repeat' (first | exact Q.refl _ | refine Q.alloc ?_ _ | refine Q.jk ?_ _ | refine Q.drew ?_)), hh (RowI.nil _ _)⟩
 case round =>
  obtain ⟨k, A, c, rfl, hk, rfl, ⟨kk, rfl⟩, HR⟩ := hrel
  by_cases hlt : k < s.buses.length
  ·have k00 : (0 : Int) ≤ (k : Int) := by omega
   have k01 : (k : Int) < (s.buses.length : Int) := by omega
   have ER : Hid ((List.range (k + 1)).map Int.ofNat = (List.range k).map Int.ofNat ++ [(k : Int)]) := hh (by rw [List.range_succ, List.map_append]; rfl)
   have LR : Hid (((List.range k).map Int.ofNat).length = k) := hh (by simp)
   generalize (List.range k).map Int.ofNat = l at HR ER LR
   go_wp2_with (first | (at_builtin; refine wpList_app_int rfl _ _ rfl V (.slice A k c) l (k : Int) _ rfl rfl (HR.o.q Q.i) (by simp [go_sem, World.size_jk]) (by rw [LR.o]; omega) Q.i ?_; intro v' kx hri hgr; obtain ⟨A', c', rfl⟩ := own_slice' hri; rw [show (l ++ [(k : Int)]).length = k + 1 by rw [List.length_append, LR.o]; rfl] at hri ⊢) | fail)
   go_roundw
   case rel =>
    exact ⟨k + 1, A', c', by go_num, by omega, rfl, Q.i, hh (by rw [ER.o]; exact hri)⟩
   case measure => simp [intOf] <;> omega
  obtain rfl : k = s.buses.length := by omega
  have HG0 : Hid (RowI V (V.jk kk) (.slice A s.buses.length c) (grF s p 0)) := hh (by rw [GZ.o]; exact HR.o)
  clear HR hlt hk
  go_wp2_with fail
  go_loopw [7] (fun i wr => ∃ k : Nat, i = .int .i64 k ∧ k ≤ s.bays.length ∧ Q V wr ∧ Hid (RowI V wr (.slice A s.buses.length c) (grF s p k))) (fun i _ => s.bays.length - (intOf i).toNat)
  case atStart => exact ⟨0, rfl, Nat.zero_le _, (by repeat' (first | exact Q.refl _ | refine Q.alloc ?_ _ | refine Q.jk ?_ _ | refine Q.drew ?_)), hh (HG0.o.q (by repeat' (first | exact Q.refl _ | refine Q.alloc ?_ _ | refine Q.jk ?_ _ | refine Q.drew ?_)))⟩
  case round =>
   obtain ⟨k, rfl, hk, ⟨kk2, rfl⟩, HR⟩ := hrel
   by_cases hlt : k < s.bays.length
   rotate_left
   ·obtain rfl : k = s.bays.length := by omega
    have HGI : Hid (RowI V (V.jk kk2) (.slice A s.buses.length c) gI) := hh (by rw [GI.o]; exact HR.o)
    clear HR
    go_wp2_with fail
    go_ret
    exact ⟨_, rfl, HQ0.o.trans Q.i, HGI.o.low HQ0.o |>.q Q.i⟩
   obtain ⟨y, hy⟩ : ∃ y, s.bays[k]? = some y := ⟨_, List.getElem?_eq_getElem hlt⟩
   obtain ⟨g, o, eA, og, hc⟩ := HGA.o.st.bayAt hy
   obtain ⟨q0, q1, q2, q3, q4, q5, q6, q7, q8, q9, q10, q11⟩ := by12 hc
   have hok := HGA.o.ok k y hy
   have hlk := (HGA.o.st.lk k y hy).1
   have hln := hlk.2
   obtain ⟨r, hr, hrl⟩ := hok.row
   obtain ⟨g', o', eA', og', r1⟩ := HGA.o.ps.rowAt hr
   obtain ⟨g2, o2, eL, og2, hc2⟩ := hlk.at_ (by rcases hok.ln with h | h <;> omega)
   obtain ⟨g3, o3, eR, og3, hc3⟩ := (HGA.o.ps.row r (List.mem_of_getElem? hr)).1.at_ (by rw [hrl]; rcases hok.ln with h | h <;> omega)
   rw [eL] at q6
   rw [eA] at s4
   rw [eA'] at p1
   rw [eR, hrl, hln] at r1
   have hrl2 := hrl.trans hln
   have y0 : (0 : Int) ≤ (y.ln : Int) := by omega
   have k00 : (0 : Int) ≤ (k : Int) := by omega
   have k01 : (k : Int) < (s.bays.length : Int) := by omega
   have k02 : (k : Int) < (p.rows.length : Int) := by have := L7.o; omega
   have EQ0 := hh (grF_same s p k y hy hln)
   have ET0 := hh fun l0 l1 => grF_step s p k y l0 l1 hy
   have ECL : Hid (∀ j, clB p k j = decide (r.l.getD j 0 = 1)) := hh fun j => by unfold clB; rw [hr]
   have hbus := hok.bus
   generalize s.lks k = lk at hln hrl hbus hc2 ET0
   clear hok hlk hc hr hy eL eA eA' eR
   by_cases h3 : y.kd = 3
   ·have e3 : (y.kd == 3) = true := by simpa using h3
    have EQ : Hid (grF s p (k + 1) = grF s p k) := hh (EQ0.o (.inl h3))
    clear EQ0 ET0 h3 ECL hc2 hbus hln hrl hrl2 hc3
    go_wp2_with fail
    go_roundw
    case rel => exact ⟨k + 1, by go_num, by omega, Q.i, hh (by rw [EQ.o]; exact HR.o.q Q.i)⟩
    case measure => simp [intOf] <;> omega
   have e3 : (y.kd == 3) = false := by simpa using h3
   by_cases h4 : y.ln = 2
   rotate_left
   ·have e4 : ((y.ln : Int) != 2) = true := by rw [bne_iff_ne]; omega
    have EQ : Hid (grF s p (k + 1) = grF s p k) := hh (EQ0.o (.inr (.inl h4)))
    clear EQ0 ET0 h3 h4 ECL hc3 hln hrl hrl2 hc2 hbus
    go_wp2_with fail
    go_roundw
    case rel => exact ⟨k + 1, by go_num, by omega, Q.i, hh (by rw [EQ.o]; exact HR.o.q Q.i)⟩
    case measure => simp [intOf] <;> omega
   obtain ⟨l0, l1, rfl⟩ : ∃ l0 l1, lk = [l0, l1] := by
    match lk, hln.trans h4 with
    | [l0, l1], _ => exact ⟨l0, l1, rfl⟩
   have u0 := hc3.o 0 (by omega)
   have u1 := hc3.o 1 (by omega)
   rw [Nat.add_zero] at u0
   have C0 := hh (ECL.o 0)
   have C1 := hh (ECL.o 1)
   generalize r.l.getD 0 0 = x0 at u0 C0
   generalize r.l.getD 1 0 = x1 at u1 C1
   generalize hlny : y.ln = ln at *
   subst h4
   by_cases hp0 : x0 = 1
   rotate_left
   ·have e5 : (x0 != 1) = true := by simpa using hp0
    have EQ : Hid (grF s p (k + 1) = grF s p k) := hh (EQ0.o (.inr (.inr (.inl (by rw [C0.o]; exact decide_eq_false hp0)))))
    clear EQ0 ET0 h3 C0 C1 ECL hc3 hlny hc2 hbus hln hrl hrl2
    go_wp2_with fail
    go_roundw
    case rel => exact ⟨k + 1, by go_num, by omega, Q.i, hh (by rw [EQ.o]; exact HR.o.q Q.i)⟩
    case measure => simp [intOf] <;> omega
   have e5 : (x0 != 1) = false := by rw [hp0]; rfl
   by_cases hp1 : x1 = 1
   rotate_left
   ·have e6 : (x1 != 1) = true := by simpa using hp1
    have EQ : Hid (grF s p (k + 1) = grF s p k) := hh (EQ0.o (.inr (.inr (.inr (by rw [C1.o]; exact decide_eq_false hp1)))))
    clear EQ0 ET0 h3 C0 C1 ECL hc3 hlny hc2 hbus hln hrl hrl2
    go_wp2_with fail
    go_roundw
    case rel => exact ⟨k + 1, by go_num, by omega, Q.i, hh (by rw [EQ.o]; exact HR.o.q Q.i)⟩
    case measure => simp [intOf] <;> omega
   have e6 : (x1 != 1) = false := by rw [hp1]; rfl
   have EQ := hh (ET0.o l0 l1 rfl h3 (by rw [C0.o, hp0]; rfl) (by rw [C1.o, hp1]; rfl))
   obtain ⟨a1, a2⟩ := hc2.o 0 l0 rfl
   obtain ⟨d1, d2⟩ := hc2.o 1 l1 rfl
   rw [Nat.zero_mul, Nat.add_zero] at a1 a2
   rw [Nat.one_mul] at d1 d2
   obtain ⟨hb1, hb2⟩ := hbus l0 (by simp)
   obtain ⟨hb3, hb4⟩ := hbus l1 (by simp)
   have LG := hh (GL.o k)
   unfold busN at EQ
   obtain ⟨bus0, pos0⟩ := l0
   obtain ⟨bus1, pos1⟩ := l1
   dsimp only at a1 a2 d1 d2 hb1 hb2 hb3 hb4 EQ
   obtain ⟨b0, rfl⟩ := Int.eq_ofNat_of_zero_le hb1
   obtain ⟨b1, rfl⟩ := Int.eq_ofNat_of_zero_le hb3
   rw [Int.toNat_natCast, Int.toNat_natCast] at EQ
   obtain ⟨gG, rfl, hgG, hcG⟩ := rowI_win HR.o LG.o (by omega)
   generalize grF s p k = gl at HR EQ LG hcG
   have x1' := (hcG.o b0 (by omega)).1
   have x2' := (hcG.o b1 (by omega)).1
   have oG : Old gG (V.jk kk2) := ⟨World.block_lt_of_cell? _ _ x1'⟩
   generalize gl.getD b0 0 = xx at EQ x1'
   generalize gl.getD b1 0 = xy at EQ x2'
   clear EQ0 ET0 h3 C0 C1 ECL hc3 hlny hc2 hbus hln hrl hrl2 hcG hp0 hp1
   have ELN := hlt
   clear hlt
   rcases Int.lt_trichotomy xx xy with hlt | rfl | hlt
   ·rw [lowF_lt hlt] at EQ
    go_wp2_with fail
    refine wrj (by kernel_rfl) ?_
    repeat (go_big_quiet_step (fail))
    refine wq0 fun kq => ?_
    go_wp2_with fail
    go_loopw [11] (fun i wr => ∃ j : Nat, i = .int .i64 j ∧ j ≤ s.buses.length ∧ Q V wr ∧ Hid (RowI V wr (.slice (some ⟨gG, 0, none⟩) s.buses.length c) (mixL (repF xy xx) gl j))) (fun i _ => s.buses.length - (intOf i).toNat)
    case atStart => exact ⟨0, rfl, Nat.zero_le _, (by repeat' (first | exact Q.refl _ | refine Q.alloc ?_ _ | refine Q.jk ?_ _ | refine Q.drew ?_)), hh (by rw [mixL_zero]; exact HR.o.q (by repeat' (first | exact Q.refl _ | refine Q.alloc ?_ _ | refine Q.jk ?_ _ | refine Q.drew ?_)))⟩
    case round =>
     obtain ⟨j, rfl, hj, ⟨k3, rfl⟩, HM⟩ := hrel
     by_cases hlj : j < s.buses.length
     rotate_left
     ·obtain rfl : j = s.buses.length := by omega
      have HO9 : Hid (RowI V (V.jk k3) (.slice (some ⟨gG, 0, none⟩) s.buses.length c) (grF s p (k + 1))) := hh (by rw [EQ.o, ← mixL_all (repF xy xx) gl LG.o]; exact HM.o)
      clear HM hlj hj
      go_wp2_with fail
      go_roundw
      case rel => exact ⟨k + 1, by go_num, by have := ELN; omega, Q.i, HO9⟩
      case measure => simp [intOf] <;> omega
     have hjr : j < gl.length := by rw [LG.o]; exact hlj
     obtain ⟨g8, e8, hg8, hc8⟩ := rowI_win HM.o (by rw [mixL_len _ _ _ (by omega), LG.o]) (by omega)
     injection e8 with e8
     injection e8 with e8
     subst e8
     have x3 := (hc8.o j hlj).1
     have x4 := (hc8.o j hlj).2
     rw [mixL_getD _ _ _ hjr] at x3
     have j0 : (0 : Int) ≤ (j : Int) := by omega
     have j1 : (j : Int) < (s.buses.length : Int) := by omega
     have MS := hh (mixL_set (repF xy xx) gl j hjr)
     have MN := hh (mixL_same (repF xy xx) gl j hjr)
     have LM : Hid ((mixL (repF xy xx) gl j).length = s.buses.length) := hh (by rw [mixL_len _ _ _ (by omega), LG.o])
     generalize gl.getD j 0 = x at x3 MS MN
     have o8 : Old gG (V.jk k3) := ⟨World.block_lt_of_cell? _ _ x3⟩
     have HG8 := hh hg8
     clear hjr hc8 hg8
     by_cases hx : x = xx
     ·have ME : Hid ((mixL (repF xy xx) gl j).set j xx = mixL (repF xy xx) gl (j + 1)) := hh (by rw [← MS.o]; congr 1; unfold repF; split <;> omega)
      have hx' : (x == xx) = true := by simpa using hx
      clear hx MN MS
      go_wp2_with fail
      go_roundw
      case rel =>
       exact ⟨j + 1, by go_num, by omega, (Q.refl _).jk k3 |>.setCell HG8.o _, hh (by rw [← ME.o]; exact rowI_set HM.o LM.o j _)⟩
      case measure => simp [intOf] <;> omega
     have hx' : (x == xx) = false := by simpa using hx
     by_cases hy : x = xy
     ·have ME : Hid ((mixL (repF xy xx) gl j).set j xx = mixL (repF xy xx) gl (j + 1)) := hh (by rw [← MS.o]; congr 1; unfold repF; split <;> omega)
      have hy' : (x == xy) = true := by simpa using hy
      clear hx hy MN MS
      go_wp2_with fail
      go_roundw
      case rel =>
       exact ⟨j + 1, by go_num, by omega, (Q.refl _).jk k3 |>.setCell HG8.o _, hh (by rw [← ME.o]; exact rowI_set HM.o LM.o j _)⟩
      case measure => simp [intOf] <;> omega
     have hy' : (x == xy) = false := by simpa using hy
     have ME : Hid (mixL (repF xy xx) gl j = mixL (repF xy xx) gl (j + 1)) := hh (MN.o (if_neg (by first | exact hx | exact hy)))
     clear hx hy MN MS
     go_wp2_with fail
     go_roundw
     case rel =>
      exact ⟨j + 1, by go_num, by omega, (Q.refl _).jk k3, hh (by rw [← ME.o]; exact HM.o)⟩
     case measure => simp [intOf] <;> omega
   ·rw [lowF_eq] at EQ
    go_wp2_with fail
    refine wrj (by kernel_rfl) ?_
    repeat (go_big_quiet_step (fail))
    refine wq0 fun kq => ?_
    go_wp2_with fail
    go_loopw [11] (fun i wr => ∃ j : Nat, i = .int .i64 j ∧ j ≤ s.buses.length ∧ Q V wr ∧ Hid (RowI V wr (.slice (some ⟨gG, 0, none⟩) s.buses.length c) (mixL (repF xx xx) gl j))) (fun i _ => s.buses.length - (intOf i).toNat)
    case atStart => exact ⟨0, rfl, Nat.zero_le _, (by repeat' (first | exact Q.refl _ | refine Q.alloc ?_ _ | refine Q.jk ?_ _ | refine Q.drew ?_)), hh (by rw [mixL_zero]; exact HR.o.q (by repeat' (first | exact Q.refl _ | refine Q.alloc ?_ _ | refine Q.jk ?_ _ | refine Q.drew ?_)))⟩
    case round =>
     obtain ⟨j, rfl, hj, ⟨k3, rfl⟩, HM⟩ := hrel
     by_cases hlj : j < s.buses.length
     rotate_left
     ·obtain rfl : j = s.buses.length := by omega
      have HO9 : Hid (RowI V (V.jk k3) (.slice (some ⟨gG, 0, none⟩) s.buses.length c) (grF s p (k + 1))) := hh (by rw [EQ.o, ← mixL_all (repF xx xx) gl LG.o]; exact HM.o)
      clear HM hlj hj
      go_wp2_with fail
      go_roundw
      case rel => exact ⟨k + 1, by go_num, by have := ELN; omega, Q.i, HO9⟩
      case measure => simp [intOf] <;> omega
     have hjr : j < gl.length := by rw [LG.o]; exact hlj
     obtain ⟨g8, e8, hg8, hc8⟩ := rowI_win HM.o (by rw [mixL_len _ _ _ (by omega), LG.o]) (by omega)
     injection e8 with e8
     injection e8 with e8
     subst e8
     have x3 := (hc8.o j hlj).1
     have x4 := (hc8.o j hlj).2
     rw [mixL_getD _ _ _ hjr] at x3
     have j0 : (0 : Int) ≤ (j : Int) := by omega
     have j1 : (j : Int) < (s.buses.length : Int) := by omega
     have MS := hh (mixL_set (repF xx xx) gl j hjr)
     have MN := hh (mixL_same (repF xx xx) gl j hjr)
     have LM : Hid ((mixL (repF xx xx) gl j).length = s.buses.length) := hh (by rw [mixL_len _ _ _ (by omega), LG.o])
     generalize gl.getD j 0 = x at x3 MS MN
     have o8 : Old gG (V.jk k3) := ⟨World.block_lt_of_cell? _ _ x3⟩
     have HG8 := hh hg8
     clear hjr hc8 hg8
     by_cases hx : x = xx
     ·have ME : Hid ((mixL (repF xx xx) gl j).set j xx = mixL (repF xx xx) gl (j + 1)) := hh (by rw [← MS.o]; congr 1; unfold repF; split <;> omega)
      have hx' : (x == xx) = true := by simpa using hx
      clear hx MN MS
      go_wp2_with fail
      go_roundw
      case rel =>
       exact ⟨j + 1, by go_num, by omega, (Q.refl _).jk k3 |>.setCell HG8.o _, hh (by rw [← ME.o]; exact rowI_set HM.o LM.o j _)⟩
      case measure => simp [intOf] <;> omega
     have hx' : (x == xx) = false := by simpa using hx
     have ME : Hid (mixL (repF xx xx) gl j = mixL (repF xx xx) gl (j + 1)) := hh (MN.o (if_neg hx))
     clear hx MN MS
     go_wp2_with fail
     go_roundw
     case rel =>
      exact ⟨j + 1, by go_num, by omega, (Q.refl _).jk k3, hh (by rw [← ME.o]; exact HM.o)⟩
     case measure => simp [intOf] <;> omega
   rw [lowF_gt hlt] at EQ
   go_wp2_with fail
   refine wrj (by kernel_rfl) ?_
   repeat (go_big_quiet_step (fail))
   refine wq0 fun kq => ?_
   go_wp2_with fail
   go_loopw [11] (fun i wr => ∃ j : Nat, i = .int .i64 j ∧ j ≤ s.buses.length ∧ Q V wr ∧ Hid (RowI V wr (.slice (some ⟨gG, 0, none⟩) s.buses.length c) (mixL (repF xx xy) gl j))) (fun i _ => s.buses.length - (intOf i).toNat)
   case atStart => exact ⟨0, rfl, Nat.zero_le _, (by repeat' (first | exact Q.refl _ | refine Q.alloc ?_ _ | refine Q.jk ?_ _ | refine Q.drew ?_)), hh (by rw [mixL_zero]; exact HR.o.q (by repeat' (first | exact Q.refl _ | refine Q.alloc ?_ _ | refine Q.jk ?_ _ | refine Q.drew ?_)))⟩
   case round =>
    obtain ⟨j, rfl, hj, ⟨k3, rfl⟩, HM⟩ := hrel
    by_cases hlj : j < s.buses.length
    rotate_left
    ·obtain rfl : j = s.buses.length := by omega
     have HO9 : Hid (RowI V (V.jk k3) (.slice (some ⟨gG, 0, none⟩) s.buses.length c) (grF s p (k + 1))) := hh (by rw [EQ.o, ← mixL_all (repF xx xy) gl LG.o]; exact HM.o)
     clear HM hlj hj
     go_wp2_with fail
     go_roundw
     case rel => exact ⟨k + 1, by go_num, by have := ELN; omega, Q.i, HO9⟩
     case measure => simp [intOf] <;> omega
    have hjr : j < gl.length := by rw [LG.o]; exact hlj
    obtain ⟨g8, e8, hg8, hc8⟩ := rowI_win HM.o (by rw [mixL_len _ _ _ (by omega), LG.o]) (by omega)
    injection e8 with e8
    injection e8 with e8
    subst e8
    have x3 := (hc8.o j hlj).1
    have x4 := (hc8.o j hlj).2
    rw [mixL_getD _ _ _ hjr] at x3
    have j0 : (0 : Int) ≤ (j : Int) := by omega
    have j1 : (j : Int) < (s.buses.length : Int) := by omega
    have MS := hh (mixL_set (repF xx xy) gl j hjr)
    have MN := hh (mixL_same (repF xx xy) gl j hjr)
    have LM : Hid ((mixL (repF xx xy) gl j).length = s.buses.length) := hh (by rw [mixL_len _ _ _ (by omega), LG.o])
    generalize gl.getD j 0 = x at x3 MS MN
    have o8 : Old gG (V.jk k3) := ⟨World.block_lt_of_cell? _ _ x3⟩
    have HG8 := hh hg8
    clear hjr hc8 hg8
    by_cases hx : x = xx
    ·have ME : Hid ((mixL (repF xx xy) gl j).set j xy = mixL (repF xx xy) gl (j + 1)) := hh (by rw [← MS.o]; congr 1; unfold repF; split <;> omega)
     have hx' : (x == xx) = true := by simpa using hx
     clear hx MN MS
     go_wp2_with fail
     go_roundw
     case rel =>
      exact ⟨j + 1, by go_num, by omega, (Q.refl _).jk k3 |>.setCell HG8.o _, hh (by rw [← ME.o]; exact rowI_set HM.o LM.o j _)⟩
     case measure => simp [intOf] <;> omega
    have hx' : (x == xx) = false := by simpa using hx
    by_cases hy : x = xy
    ·have ME : Hid ((mixL (repF xx xy) gl j).set j xy = mixL (repF xx xy) gl (j + 1)) := hh (by rw [← MS.o]; congr 1; unfold repF; split <;> omega)
     have hy' : (x == xy) = true := by simpa using hy
     clear hx hy MN MS
     go_wp2_with fail
     go_roundw
     case rel =>
      exact ⟨j + 1, by go_num, by omega, (Q.refl _).jk k3 |>.setCell HG8.o _, hh (by rw [← ME.o]; exact rowI_set HM.o LM.o j _)⟩
     case measure => simp [intOf] <;> omega
    have hy' : (x == xy) = false := by simpa using hy
    have ME : Hid (mixL (repF xx xy) gl j = mixL (repF xx xy) gl (j + 1)) := hh (MN.o (if_neg (by first | exact hx | exact hy)))
    clear hx hy MN MS
    go_wp2_with fail
    go_roundw
    case rel =>
     exact ⟨j + 1, by go_num, by omega, (Q.refl _).jk k3, hh (by rw [← ME.o]; exact HM.o)⟩
    case measure => simp [intOf] <;> omega
theorem r6Groups_g (s : Sta) (p : Pos) (w : World) (h : GoodAt w s p) :
  Calls Tryz.prog 54 #[.agg #[Value.string s.nm, Value.slice s.aB s.buses.length s.cB, Value.slice s.aL s.lines.length s.cL, Value.slice s.aS s.srcs.length s.cS, Value.slice s.aY s.bays.length s.cY], .agg #[Value.slice p.aC p.closed.length p.cC, Value.slice p.aK p.rows.length p.cK]] w (RetI (grI s p) w) := by
 have FN := hh fun (w' : World) (hq : Q w w') => r6fine_g s p w' (h.q hq)
 have GR := hh fun (w' : World) (hq : Q w w') => r6groups_c s p w' (h.q hq)
 unfold RetI at GR ⊢
 clear h
 go_enter Tryz.func54, Tryz.ntmps54
 go_wp2_with (first | (go_at_call 81; (with_reducible refine (FN.o _ Q.i).q ?_); intro k1) | (go_at_call 90; (with_reducible refine (GR.o _ Q.i).mono ?_); rintro e w' ⟨v, rfl, ⟨k2, rfl⟩, hrv⟩) | fail)
 go_ret
 exact ⟨_, rfl, Q.i, hrv.low Q.i |>.q Q.i⟩
end Go.Proofs.YtcjflafjmdfanaaGreatDoor
