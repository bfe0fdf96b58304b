
/- What sides and Sides of the reference 06 return for a station and a position that have no error. -/
import Derived.Test.YtcjflafjmdfanaaGreatDoorBr13
set_option linter.unusedSimpArgs false
set_option linter.unusedVariables false
/- What groups and Groups of the reference 06 return for a station and a position that have no error. -/
set_option linter.unusedVariables false
set_option linter.unusedSimpArgs false
namespace Go.Proofs.YtcjflafjmdfanaaGreatDoor
open Go.RowKit Go.Sub
attribute [local go_sem ↓] Go.wp_at_zero Go.wp_at_succ
set_option maxRecDepth 100000 in
set_option maxHeartbeats 16000000 in
theorem r6groups_c (s : Sta) (p : Pos) (w : World) (h : GoodAt w s p) :
  Calls Tryz.prog 90 #[.agg #[Value.string s.nm, Value.slice s.aB s.buses.length s.cB, Value.slice s.aL s.lines.length s.cL, Value.slice s.aS s.srcs.length s.cS, Value.slice s.aY s.bays.length s.cY], .agg #[Value.slice p.aC p.closed.length p.cC, Value.slice p.aK p.rows.length p.cK]] w (RetI (grI s p) w) := by
 have HGA := Lib.hid h
 have lens := h.lens
 have c0 : (0 : Int) ≤ (s.buses.length : Int) := by omega
 have c1 : (0 : Int) ≤ (s.bays.length : Int) := by omega
 have c2 : (s.buses.length : Int) ≤ 4 := by omega
 have c3 : (s.bays.length : Int) ≤ 16 := by omega
 obtain ⟨l1, l2, l3, l4, l5, l6, l7⟩ := lens
 have L7 := Lib.hid l7
 have GZ : Hid (grF s p 0 = (List.range s.buses.length).map Int.ofNat) := Lib.hid rfl
 have GL := Lib.hid (grF_len s p)
 have GI : Hid (grI s p = grF s p s.bays.length) := Lib.hid rfl
 generalize grI s p = gI at GI ⊢
 clear h l3 l4 l6 l7
 go_enter Tryz.func90, Tryz.ntmps90
 go_upto_region 1 with fail
 refine wp_world ?_
 intro V eV
 have hq0 : Q w V := by rw [eV]; repeat' (first | exact Q.refl _ | refine Q.alloc ?_ _ | refine Q.jk ?_ _ | refine Q.drew ?_)
 have hb : HB V w.heap.size #[Value.string s.nm, Value.slice s.aB s.buses.length s.cB, Value.slice s.aL s.lines.length s.cL, Value.slice s.aS s.srcs.length s.cS, Value.slice s.aY s.bays.length s.cY] 27 := by rw [eV]; exact (HB.new _ _ _ _ rfl).q (by repeat' (first | exact Q.refl _ | refine Q.alloc ?_ _ | refine Q.jk ?_ _ | refine Q.drew ?_))
 have hb2 : HB V (w.heap.size + 1) #[Value.slice p.aC p.closed.length p.cC, Value.slice p.aK p.rows.length p.cK] 31 := by rw [eV]; exact (HB.new (w.alloc (Obj.cells #[Value.string s.nm, Value.slice s.aB s.buses.length s.cB, Value.slice s.aL s.lines.length s.cL, Value.slice s.aS s.srcs.length s.cS, Value.slice s.aY s.bays.length s.cY] 27)) _ _ _ (by simp)).q (by repeat' (first | exact Q.refl _ | refine Q.alloc ?_ _ | refine Q.jk ?_ _ | refine Q.drew ?_))
 have HQ0 := Lib.hid hq0
 have s0 := hb.cell 0
 have s1 := hb.cell 1
 have s2 := hb.cell 2
 have s3 := hb.cell 3
 have s4 := hb.cell 4
 have p0 := hb2.cell 0
 have p1 := hb2.cell 1
 simp only [List.getElem?_toArray, List.getElem?_cons_zero, List.getElem?_cons_succ] at s0 s1 s2 s3 s4 p0 p1
 have ob := hb.old
 have ob2 := hb2.old
 have HGA : Hid (GoodAt V s p) := Lib.hid (HGA.out.q hq0)
 clear eV hb hq0 hb2
 generalize w.heap.size + 1 = b2 at p0 p1 ob2 ⊢
 generalize w.heap.size = b at s0 s1 s2 s3 s4 ob ⊢
 go_wp2_with fail
 go_loopw [5, 6] (fun lv i wr => ∃ (k : Nat) (A : Option Addr) (c : Nat), i = .int .i64 k ∧ k ≤ s.buses.length ∧ lv = .slice A k c ∧ Q V wr ∧ Hid (RowI V wr (.slice A k c) ((List.range k).map Int.ofNat))) (fun _ i _ => s.buses.length - (intOf i).toNat)
 case atStart => exact ⟨0, none, 0, rfl, Nat.zero_le _, rfl, (by repeat' (first | exact Q.refl _ | refine Q.alloc ?_ _ | refine Q.jk ?_ _ | refine Q.drew ?_)), Lib.hid (RowI.nil _ _)⟩
 case round =>
  obtain ⟨k, A, c, rfl, hk, rfl, ⟨kk, rfl⟩, HR⟩ := hrel
  by_cases hlt : k < s.buses.length
  ·have k00 : (0 : Int) ≤ (k : Int) := by omega
   have k01 : (k : Int) < (s.buses.length : Int) := by omega
   have ER : Hid ((List.range (k + 1)).map Int.ofNat = (List.range k).map Int.ofNat ++ [(k : Int)]) := Lib.hid (by rw [List.range_succ, List.map_append]; rfl)
   have LR : Hid (((List.range k).map Int.ofNat).length = k) := Lib.hid (by simp)
   generalize (List.range k).map Int.ofNat = l at HR ER LR
   go_wp2_with (first
    | (at_builtin; refine wpList_app_int rfl _ _ rfl V (.slice A k c) l (k : Int) _ rfl rfl (HR.out.q (by repeat' (first | exact Q.refl _ | refine Q.alloc ?_ _ | refine Q.jk ?_ _ | refine Q.drew ?_))) (by simp [go_sem, World.size_jk]) (by rw [LR.out]; omega) (by repeat' (first | exact Q.refl _ | refine Q.alloc ?_ _ | refine Q.jk ?_ _ | refine Q.drew ?_)) ?_; intro v' kx hri hgr; obtain ⟨A', c', rfl⟩ := own_slice' hri; rw [show (l ++ [(k : Int)]).length = k + 1 by rw [List.length_append, LR.out]; rfl] at hri ⊢)
    | fail)
   go_roundw
   case rel =>
    exact ⟨k + 1, A', c', by go_num, by omega, rfl, (by repeat' (first | exact Q.refl _ | refine Q.alloc ?_ _ | refine Q.jk ?_ _ | refine Q.drew ?_)), Lib.hid (by rw [ER.out]; exact hri)⟩
   case measure => simp [intOf] <;> omega
  ·obtain rfl : k = s.buses.length := by omega
   have HG0 : Hid (RowI V (V.jk kk) (.slice A s.buses.length c) (grF s p 0)) := Lib.hid (by rw [GZ.out]; exact HR.out)
   clear HR hlt hk
   go_wp2_with fail
   go_loopw [7] (fun i wr => ∃ k : Nat, i = .int .i64 k ∧ k ≤ s.bays.length ∧ Q V wr ∧ Hid (RowI V wr (.slice A s.buses.length c) (grF s p k))) (fun i _ => s.bays.length - (intOf i).toNat)
   case atStart => exact ⟨0, rfl, Nat.zero_le _, (by repeat' (first | exact Q.refl _ | refine Q.alloc ?_ _ | refine Q.jk ?_ _ | refine Q.drew ?_)), Lib.hid (HG0.out.q (by repeat' (first | exact Q.refl _ | refine Q.alloc ?_ _ | refine Q.jk ?_ _ | refine Q.drew ?_)))⟩
   case round =>
    obtain ⟨k, rfl, hk, ⟨kk2, rfl⟩, HR⟩ := hrel
    by_cases hlt : k < s.bays.length
    ·obtain ⟨y, hy⟩ : ∃ y, s.bays[k]? = some y := ⟨_, List.getElem?_eq_getElem hlt⟩
     obtain ⟨g, o, eA, og, hc⟩ := HGA.out.st.bayAt hy
     have q0 : V.cell? ⟨g, o + k * 12, none⟩ = some (Value.string y.nm) := hc.out 0 _ rfl
     have q1 : V.cell? ⟨g, o + k * 12 + 1, none⟩ = some (Value.int .i64 y.kd) := hc.out 1 _ rfl
     have q2 : V.cell? ⟨g, o + k * 12 + 2, none⟩ = some (Value.int .i64 y.of) := hc.out 2 _ rfl
     have q3 : V.cell? ⟨g, o + k * 12 + 3, none⟩ = some (Value.int .i64 y.en) := hc.out 3 _ rfl
     have q4 : V.cell? ⟨g, o + k * 12 + 4, none⟩ = some (Value.int .i64 y.zr) := hc.out 4 _ rfl
     have q5 : V.cell? ⟨g, o + k * 12 + 5, none⟩ = some (Value.int .i64 y.zx) := hc.out 5 _ rfl
     have q6 : V.cell? ⟨g, o + k * 12 + 6, none⟩ = some (Value.slice y.la y.ln y.lc) := hc.out 6 _ rfl
     have q7 : V.cell? ⟨g, o + k * 12 + 7, none⟩ = some (Value.bool y.cl) := hc.out 7 _ rfl
     have q8 : V.cell? ⟨g, o + k * 12 + 8, none⟩ = some (Value.int .i64 y.ct) := hc.out 8 _ rfl
     have q9 : V.cell? ⟨g, o + k * 12 + 9, none⟩ = some (Value.int .i64 y.vt) := hc.out 9 _ rfl
     have q10 : V.cell? ⟨g, o + k * 12 + 10, none⟩ = some (Value.int .i64 y.sa) := hc.out 10 _ rfl
     have q11 : V.cell? ⟨g, o + k * 12 + 11, none⟩ = some (Value.int .i64 y.tr) := hc.out 11 _ rfl
     have hok := HGA.out.ok k y hy
     have hlk := (HGA.out.st.lk k y hy).1
     have hln := hlk.2
     obtain ⟨r, hr, hrl⟩ := hok.row
     obtain ⟨g', o', eA', og', r1⟩ := HGA.out.ps.rowAt hr
     obtain ⟨g2, o2, eL, og2, hc2⟩ := hlk.at_ (by rcases hok.ln with h | h <;> omega)
     obtain ⟨g3, o3, eR, og3, hc3⟩ := (HGA.out.ps.row r (List.mem_of_getElem? hr)).1.at_ (by rw [hrl]; rcases hok.ln with h | h <;> omega)
     rw [eL] at q6
     rw [eA] at s4
     rw [eA'] at p1
     rw [eR, hrl, hln] at r1
     have hrl2 := hrl.trans hln
     have y0 : (0 : Int) ≤ (y.ln : Int) := by omega
     have k00 : (0 : Int) ≤ (k : Int) := by omega
     have k01 : (k : Int) < (s.bays.length : Int) := by omega
     have k02 : (k : Int) < (p.rows.length : Int) := by have := L7.out; omega
     have EQ0 := Lib.hid (grF_same s p k y hy hln)
     have ET0 := Lib.hid fun l0 l1 => grF_step s p k y l0 l1 hy
     have ECL : Hid (∀ j, clB p k j = decide (r.l.getD j 0 = 1)) := Lib.hid fun j => by unfold clB; rw [hr]
     have hbus := hok.bus
     generalize s.lks k = lk at hln hrl hbus hc2 ET0
     clear hok hlk hc hr hy eL eA eA' eR
     by_cases h3 : y.kd = 3
     ·have e3 : (y.kd == 3) = true := by simpa using h3
      have EQ : Hid (grF s p (k + 1) = grF s p k) := Lib.hid (EQ0.out (.inl h3))
      clear EQ0 ET0 h3 ECL hc2 hbus hln hrl hrl2 hc3
      go_wp2_with fail
      go_roundw
      case rel => exact ⟨k + 1, by go_num, by omega, (by repeat' (first | exact Q.refl _ | refine Q.alloc ?_ _ | refine Q.jk ?_ _ | refine Q.drew ?_)), Lib.hid (by rw [EQ.out]; exact HR.out.q (by repeat' (first | exact Q.refl _ | refine Q.alloc ?_ _ | refine Q.jk ?_ _ | refine Q.drew ?_)))⟩
      case measure => simp [intOf] <;> omega
     ·have e3 : (y.kd == 3) = false := by simpa using h3
      by_cases h4 : y.ln = 2
      ·obtain ⟨l0, l1, rfl⟩ : ∃ l0 l1, lk = [l0, l1] := by
        match lk, hln.trans h4 with
        | [l0, l1], _ => exact ⟨l0, l1, rfl⟩
       have u0 := hc3.out 0 (by omega)
       have u1 := hc3.out 1 (by omega)
       rw [Nat.add_zero] at u0
       have C0 := Lib.hid (ECL.out 0)
       have C1 := Lib.hid (ECL.out 1)
       generalize r.l.getD 0 0 = x0 at u0 C0
       generalize r.l.getD 1 0 = x1 at u1 C1
       generalize hlny : y.ln = ln at *
       subst h4
       by_cases hp0 : x0 = 1
       ·have e5 : (x0 != 1) = false := by rw [hp0]; rfl
        by_cases hp1 : x1 = 1
        ·have e6 : (x1 != 1) = false := by rw [hp1]; rfl
         have EQ := Lib.hid (ET0.out l0 l1 rfl h3 (by rw [C0.out, hp0]; rfl) (by rw [C1.out, hp1]; rfl))
         obtain ⟨a1, a2⟩ := hc2.out 0 l0 rfl
         obtain ⟨d1, d2⟩ := hc2.out 1 l1 rfl
         rw [Nat.zero_mul, Nat.add_zero] at a1 a2
         rw [Nat.one_mul] at d1 d2
         obtain ⟨hb1, hb2⟩ := hbus l0 (by simp)
         obtain ⟨hb3, hb4⟩ := hbus l1 (by simp)
         have LG := Lib.hid (GL.out k)
         unfold busN at EQ
         obtain ⟨bus0, pos0⟩ := l0
         obtain ⟨bus1, pos1⟩ := l1
         dsimp only at a1 a2 d1 d2 hb1 hb2 hb3 hb4 EQ
         obtain ⟨b0, rfl⟩ := Int.eq_ofNat_of_zero_le hb1
         obtain ⟨b1, rfl⟩ := Int.eq_ofNat_of_zero_le hb3
         rw [Int.toNat_natCast, Int.toNat_natCast] at EQ
         obtain ⟨gG, rfl, hgG, hcG⟩ := rowI_win HR.out LG.out (by omega)
         generalize grF s p k = gl at HR EQ LG hcG
         have x1' := (hcG.out b0 (by omega)).1
         have x2' := (hcG.out b1 (by omega)).1
         have oG : Old gG (V.jk kk2) := ⟨World.block_lt_of_cell? _ _ x1'⟩
         generalize gl.getD b0 0 = xx at EQ x1'
         generalize gl.getD b1 0 = xy at EQ x2'
         clear EQ0 ET0 h3 C0 C1 ECL hc3 hlny hc2 hbus hln hrl hrl2 hcG hp0 hp1
         have ELN := hlt
         clear hlt
         rcases Int.lt_trichotomy xx xy with hlt | rfl | hlt
         ·rw [lowF_lt hlt] at EQ
          go_wp2_with fail
          refine wp_region_jk (by kernel_rfl) (by kernel_rfl) ?_
          repeat (go_big_quiet_step (fail))
          refine wpQuiet_nil ?_
          intro _ hw'
          obtain ⟨kq, rfl⟩ := hw'
          go_wp2_with fail
          go_loopw [11] (fun i wr => ∃ j : Nat, i = .int .i64 j ∧ j ≤ s.buses.length ∧ Q V wr ∧ Hid (RowI V wr (.slice (some ⟨gG, 0, none⟩) s.buses.length c) (mixL (repF xy xx) gl j))) (fun i _ => s.buses.length - (intOf i).toNat)
          case atStart => exact ⟨0, rfl, Nat.zero_le _, (by repeat' (first | exact Q.refl _ | refine Q.alloc ?_ _ | refine Q.jk ?_ _ | refine Q.drew ?_)), Lib.hid (by rw [mixL_zero]; exact HR.out.q (by repeat' (first | exact Q.refl _ | refine Q.alloc ?_ _ | refine Q.jk ?_ _ | refine Q.drew ?_)))⟩
          case round =>
           obtain ⟨j, rfl, hj, ⟨k3, rfl⟩, HM⟩ := hrel
           by_cases hlj : j < s.buses.length
           ·have hjr : j < gl.length := by rw [LG.out]; exact hlj
            obtain ⟨g8, e8, hg8, hc8⟩ := rowI_win HM.out (by rw [mixL_len _ _ _ (by omega), LG.out]) (by omega)
            injection e8 with e8
            injection e8 with e8
            subst e8
            have x3 := (hc8.out j hlj).1
            have x4 := (hc8.out j hlj).2
            rw [mixL_getD _ _ _ hjr] at x3
            have j0 : (0 : Int) ≤ (j : Int) := by omega
            have j1 : (j : Int) < (s.buses.length : Int) := by omega
            have MS := Lib.hid (mixL_set (repF xy xx) gl j hjr)
            have MN := Lib.hid (mixL_same (repF xy xx) gl j hjr)
            have LM : Hid ((mixL (repF xy xx) gl j).length = s.buses.length) := Lib.hid (by rw [mixL_len _ _ _ (by omega), LG.out])
            generalize gl.getD j 0 = x at x3 MS MN
            have o8 : Old gG (V.jk k3) := ⟨World.block_lt_of_cell? _ _ x3⟩
            have HG8 := Lib.hid hg8
            clear hjr hc8 hg8
            by_cases hx : x = xx
            ·have ME : Hid ((mixL (repF xy xx) gl j).set j xx = mixL (repF xy xx) gl (j + 1)) := Lib.hid (by rw [← MS.out]; congr 1; unfold repF; split <;> omega)
             have hx' : (x == xx) = true := by simpa using hx
             clear hx MN MS
             go_wp2_with fail
             go_roundw
             case rel =>
              exact ⟨j + 1, by go_num, by omega, (Q.refl _).jk k3 |>.setCell HG8.out _, Lib.hid (by rw [← ME.out]; exact rowI_set HM.out LM.out j _)⟩
             case measure => simp [intOf] <;> omega
            ·have hx' : (x == xx) = false := by simpa using hx
             by_cases hy : x = xy
             ·have ME : Hid ((mixL (repF xy xx) gl j).set j xx = mixL (repF xy xx) gl (j + 1)) := Lib.hid (by rw [← MS.out]; congr 1; unfold repF; split <;> omega)
              have hy' : (x == xy) = true := by simpa using hy
              clear hx hy MN MS
              go_wp2_with fail
              go_roundw
              case rel =>
               exact ⟨j + 1, by go_num, by omega, (Q.refl _).jk k3 |>.setCell HG8.out _, Lib.hid (by rw [← ME.out]; exact rowI_set HM.out LM.out j _)⟩
              case measure => simp [intOf] <;> omega
             ·have hy' : (x == xy) = false := by simpa using hy
              have ME : Hid (mixL (repF xy xx) gl j = mixL (repF xy xx) gl (j + 1)) := Lib.hid (MN.out (if_neg (by first | exact hx | exact hy)))
              clear hx hy MN MS
              go_wp2_with fail
              go_roundw
              case rel =>
               exact ⟨j + 1, by go_num, by omega, (Q.refl _).jk k3, Lib.hid (by rw [← ME.out]; exact HM.out)⟩
              case measure => simp [intOf] <;> omega
           ·obtain rfl : j = s.buses.length := by omega
            have HO9 : Hid (RowI V (V.jk k3) (.slice (some ⟨gG, 0, none⟩) s.buses.length c) (grF s p (k + 1))) := Lib.hid (by rw [EQ.out, ← mixL_all (repF xy xx) gl LG.out]; exact HM.out)
            clear HM hlj hj
            go_wp2_with fail
            go_roundw
            case rel => exact ⟨k + 1, by go_num, by have := ELN; omega, (by repeat' (first | exact Q.refl _ | refine Q.alloc ?_ _ | refine Q.jk ?_ _ | refine Q.drew ?_)), HO9⟩
            case measure => simp [intOf] <;> omega
         ·rw [lowF_eq] at EQ
          go_wp2_with fail
          refine wp_region_jk (by kernel_rfl) (by kernel_rfl) ?_
          repeat (go_big_quiet_step (fail))
          refine wpQuiet_nil ?_
          intro _ hw'
          obtain ⟨kq, rfl⟩ := hw'
          go_wp2_with fail
          go_loopw [11] (fun i wr => ∃ j : Nat, i = .int .i64 j ∧ j ≤ s.buses.length ∧ Q V wr ∧ Hid (RowI V wr (.slice (some ⟨gG, 0, none⟩) s.buses.length c) (mixL (repF xx xx) gl j))) (fun i _ => s.buses.length - (intOf i).toNat)
          case atStart => exact ⟨0, rfl, Nat.zero_le _, (by repeat' (first | exact Q.refl _ | refine Q.alloc ?_ _ | refine Q.jk ?_ _ | refine Q.drew ?_)), Lib.hid (by rw [mixL_zero]; exact HR.out.q (by repeat' (first | exact Q.refl _ | refine Q.alloc ?_ _ | refine Q.jk ?_ _ | refine Q.drew ?_)))⟩
          case round =>
           obtain ⟨j, rfl, hj, ⟨k3, rfl⟩, HM⟩ := hrel
           by_cases hlj : j < s.buses.length
           ·have hjr : j < gl.length := by rw [LG.out]; exact hlj
            obtain ⟨g8, e8, hg8, hc8⟩ := rowI_win HM.out (by rw [mixL_len _ _ _ (by omega), LG.out]) (by omega)
            injection e8 with e8
            injection e8 with e8
            subst e8
            have x3 := (hc8.out j hlj).1
            have x4 := (hc8.out j hlj).2
            rw [mixL_getD _ _ _ hjr] at x3
            have j0 : (0 : Int) ≤ (j : Int) := by omega
            have j1 : (j : Int) < (s.buses.length : Int) := by omega
            have MS := Lib.hid (mixL_set (repF xx xx) gl j hjr)
            have MN := Lib.hid (mixL_same (repF xx xx) gl j hjr)
            have LM : Hid ((mixL (repF xx xx) gl j).length = s.buses.length) := Lib.hid (by rw [mixL_len _ _ _ (by omega), LG.out])
            generalize gl.getD j 0 = x at x3 MS MN
            have o8 : Old gG (V.jk k3) := ⟨World.block_lt_of_cell? _ _ x3⟩
            have HG8 := Lib.hid hg8
            clear hjr hc8 hg8
            by_cases hx : x = xx
            ·have ME : Hid ((mixL (repF xx xx) gl j).set j xx = mixL (repF xx xx) gl (j + 1)) := Lib.hid (by rw [← MS.out]; congr 1; unfold repF; split <;> omega)
             have hx' : (x == xx) = true := by simpa using hx
             clear hx MN MS
             go_wp2_with fail
             go_roundw
             case rel =>
              exact ⟨j + 1, by go_num, by omega, (Q.refl _).jk k3 |>.setCell HG8.out _, Lib.hid (by rw [← ME.out]; exact rowI_set HM.out LM.out j _)⟩
             case measure => simp [intOf] <;> omega
            ·have hx' : (x == xx) = false := by simpa using hx
             have ME : Hid (mixL (repF xx xx) gl j = mixL (repF xx xx) gl (j + 1)) := Lib.hid (MN.out (if_neg hx))
             clear hx MN MS
             go_wp2_with fail
             go_roundw
             case rel =>
              exact ⟨j + 1, by go_num, by omega, (Q.refl _).jk k3, Lib.hid (by rw [← ME.out]; exact HM.out)⟩
             case measure => simp [intOf] <;> omega
           ·obtain rfl : j = s.buses.length := by omega
            have HO9 : Hid (RowI V (V.jk k3) (.slice (some ⟨gG, 0, none⟩) s.buses.length c) (grF s p (k + 1))) := Lib.hid (by rw [EQ.out, ← mixL_all (repF xx xx) gl LG.out]; exact HM.out)
            clear HM hlj hj
            go_wp2_with fail
            go_roundw
            case rel => exact ⟨k + 1, by go_num, by have := ELN; omega, (by repeat' (first | exact Q.refl _ | refine Q.alloc ?_ _ | refine Q.jk ?_ _ | refine Q.drew ?_)), HO9⟩
            case measure => simp [intOf] <;> omega
         ·rw [lowF_gt hlt] at EQ
          go_wp2_with fail
          refine wp_region_jk (by kernel_rfl) (by kernel_rfl) ?_
          repeat (go_big_quiet_step (fail))
          refine wpQuiet_nil ?_
          intro _ hw'
          obtain ⟨kq, rfl⟩ := hw'
          go_wp2_with fail
          go_loopw [11] (fun i wr => ∃ j : Nat, i = .int .i64 j ∧ j ≤ s.buses.length ∧ Q V wr ∧ Hid (RowI V wr (.slice (some ⟨gG, 0, none⟩) s.buses.length c) (mixL (repF xx xy) gl j))) (fun i _ => s.buses.length - (intOf i).toNat)
          case atStart => exact ⟨0, rfl, Nat.zero_le _, (by repeat' (first | exact Q.refl _ | refine Q.alloc ?_ _ | refine Q.jk ?_ _ | refine Q.drew ?_)), Lib.hid (by rw [mixL_zero]; exact HR.out.q (by repeat' (first | exact Q.refl _ | refine Q.alloc ?_ _ | refine Q.jk ?_ _ | refine Q.drew ?_)))⟩
          case round =>
           obtain ⟨j, rfl, hj, ⟨k3, rfl⟩, HM⟩ := hrel
           by_cases hlj : j < s.buses.length
           ·have hjr : j < gl.length := by rw [LG.out]; exact hlj
            obtain ⟨g8, e8, hg8, hc8⟩ := rowI_win HM.out (by rw [mixL_len _ _ _ (by omega), LG.out]) (by omega)
            injection e8 with e8
            injection e8 with e8
            subst e8
            have x3 := (hc8.out j hlj).1
            have x4 := (hc8.out j hlj).2
            rw [mixL_getD _ _ _ hjr] at x3
            have j0 : (0 : Int) ≤ (j : Int) := by omega
            have j1 : (j : Int) < (s.buses.length : Int) := by omega
            have MS := Lib.hid (mixL_set (repF xx xy) gl j hjr)
            have MN := Lib.hid (mixL_same (repF xx xy) gl j hjr)
            have LM : Hid ((mixL (repF xx xy) gl j).length = s.buses.length) := Lib.hid (by rw [mixL_len _ _ _ (by omega), LG.out])
            generalize gl.getD j 0 = x at x3 MS MN
            have o8 : Old gG (V.jk k3) := ⟨World.block_lt_of_cell? _ _ x3⟩
            have HG8 := Lib.hid hg8
            clear hjr hc8 hg8
            by_cases hx : x = xx
            ·have ME : Hid ((mixL (repF xx xy) gl j).set j xy = mixL (repF xx xy) gl (j + 1)) := Lib.hid (by rw [← MS.out]; congr 1; unfold repF; split <;> omega)
             have hx' : (x == xx) = true := by simpa using hx
             clear hx MN MS
             go_wp2_with fail
             go_roundw
             case rel =>
              exact ⟨j + 1, by go_num, by omega, (Q.refl _).jk k3 |>.setCell HG8.out _, Lib.hid (by rw [← ME.out]; exact rowI_set HM.out LM.out j _)⟩
             case measure => simp [intOf] <;> omega
            ·have hx' : (x == xx) = false := by simpa using hx
             by_cases hy : x = xy
             ·have ME : Hid ((mixL (repF xx xy) gl j).set j xy = mixL (repF xx xy) gl (j + 1)) := Lib.hid (by rw [← MS.out]; congr 1; unfold repF; split <;> omega)
              have hy' : (x == xy) = true := by simpa using hy
              clear hx hy MN MS
              go_wp2_with fail
              go_roundw
              case rel =>
               exact ⟨j + 1, by go_num, by omega, (Q.refl _).jk k3 |>.setCell HG8.out _, Lib.hid (by rw [← ME.out]; exact rowI_set HM.out LM.out j _)⟩
              case measure => simp [intOf] <;> omega
             ·have hy' : (x == xy) = false := by simpa using hy
              have ME : Hid (mixL (repF xx xy) gl j = mixL (repF xx xy) gl (j + 1)) := Lib.hid (MN.out (if_neg (by first | exact hx | exact hy)))
              clear hx hy MN MS
              go_wp2_with fail
              go_roundw
              case rel =>
               exact ⟨j + 1, by go_num, by omega, (Q.refl _).jk k3, Lib.hid (by rw [← ME.out]; exact HM.out)⟩
              case measure => simp [intOf] <;> omega
           ·obtain rfl : j = s.buses.length := by omega
            have HO9 : Hid (RowI V (V.jk k3) (.slice (some ⟨gG, 0, none⟩) s.buses.length c) (grF s p (k + 1))) := Lib.hid (by rw [EQ.out, ← mixL_all (repF xx xy) gl LG.out]; exact HM.out)
            clear HM hlj hj
            go_wp2_with fail
            go_roundw
            case rel => exact ⟨k + 1, by go_num, by have := ELN; omega, (by repeat' (first | exact Q.refl _ | refine Q.alloc ?_ _ | refine Q.jk ?_ _ | refine Q.drew ?_)), HO9⟩
            case measure => simp [intOf] <;> omega
        ·have e6 : (x1 != 1) = true := by simpa using hp1
         have EQ : Hid (grF s p (k + 1) = grF s p k) := Lib.hid (EQ0.out (.inr (.inr (.inr (by rw [C1.out]; exact decide_eq_false hp1)))))
         clear EQ0 ET0 h3 C0 C1 ECL hc3 hlny hc2 hbus hln hrl hrl2
         go_wp2_with fail
         go_roundw
         case rel => exact ⟨k + 1, by go_num, by omega, (by repeat' (first | exact Q.refl _ | refine Q.alloc ?_ _ | refine Q.jk ?_ _ | refine Q.drew ?_)), Lib.hid (by rw [EQ.out]; exact HR.out.q (by repeat' (first | exact Q.refl _ | refine Q.alloc ?_ _ | refine Q.jk ?_ _ | refine Q.drew ?_)))⟩
         case measure => simp [intOf] <;> omega
       ·have e5 : (x0 != 1) = true := by simpa using hp0
        have EQ : Hid (grF s p (k + 1) = grF s p k) := Lib.hid (EQ0.out (.inr (.inr (.inl (by rw [C0.out]; exact decide_eq_false hp0)))))
        clear EQ0 ET0 h3 C0 C1 ECL hc3 hlny hc2 hbus hln hrl hrl2
        go_wp2_with fail
        go_roundw
        case rel => exact ⟨k + 1, by go_num, by omega, (by repeat' (first | exact Q.refl _ | refine Q.alloc ?_ _ | refine Q.jk ?_ _ | refine Q.drew ?_)), Lib.hid (by rw [EQ.out]; exact HR.out.q (by repeat' (first | exact Q.refl _ | refine Q.alloc ?_ _ | refine Q.jk ?_ _ | refine Q.drew ?_)))⟩
        case measure => simp [intOf] <;> omega
      ·have e4 : ((y.ln : Int) != 2) = true := by rw [bne_iff_ne]; omega
       have EQ : Hid (grF s p (k + 1) = grF s p k) := Lib.hid (EQ0.out (.inr (.inl h4)))
       clear EQ0 ET0 h3 h4 ECL hc3 hln hrl hrl2 hc2 hbus
       go_wp2_with fail
       go_roundw
       case rel => exact ⟨k + 1, by go_num, by omega, (by repeat' (first | exact Q.refl _ | refine Q.alloc ?_ _ | refine Q.jk ?_ _ | refine Q.drew ?_)), Lib.hid (by rw [EQ.out]; exact HR.out.q (by repeat' (first | exact Q.refl _ | refine Q.alloc ?_ _ | refine Q.jk ?_ _ | refine Q.drew ?_)))⟩
       case measure => simp [intOf] <;> omega
    ·obtain rfl : k = s.bays.length := by omega
     have HGI : Hid (RowI V (V.jk kk2) (.slice A s.buses.length c) gI) := Lib.hid (by rw [GI.out]; exact HR.out)
     clear HR
     go_wp2_with fail
     go_ret
     exact ⟨_, rfl, HQ0.out.trans (by repeat' (first | exact Q.refl _ | refine Q.alloc ?_ _ | refine Q.jk ?_ _ | refine Q.drew ?_)), HGI.out.low HQ0.out |>.q (by repeat' (first | exact Q.refl _ | refine Q.alloc ?_ _ | refine Q.jk ?_ _ | refine Q.drew ?_))⟩
set_option maxRecDepth 100000 in
set_option maxHeartbeats 4000000 in
theorem r6Groups_g (s : Sta) (p : Pos) (w : World) (h : GoodAt w s p) :
  Calls Tryz.prog 54 #[.agg #[Value.string s.nm, Value.slice s.aB s.buses.length s.cB, Value.slice s.aL s.lines.length s.cL, Value.slice s.aS s.srcs.length s.cS, Value.slice s.aY s.bays.length s.cY], .agg #[Value.slice p.aC p.closed.length p.cC, Value.slice p.aK p.rows.length p.cK]] w (RetI (grI s p) w) := by
 have FN := Lib.hid fun (w' : World) (hq : Q w w') => r6fine_g s p w' (h.q hq)
 have GR := Lib.hid fun (w' : World) (hq : Q w w') => r6groups_c s p w' (h.q hq)
 unfold RetI at GR ⊢
 clear h
 go_enter Tryz.func54, Tryz.ntmps54
 go_wp2_with (first
  | (go_at_call 81; (with_reducible refine (FN.out _ (by repeat' (first | exact Q.refl _ | refine Q.alloc ?_ _ | refine Q.jk ?_ _ | refine Q.drew ?_))).mono ?_); rintro e w' ⟨rfl, k1, rfl⟩)
  | (go_at_call 90; (with_reducible refine (GR.out _ (by repeat' (first | exact Q.refl _ | refine Q.alloc ?_ _ | refine Q.jk ?_ _ | refine Q.drew ?_))).mono ?_); rintro e w' ⟨v, rfl, ⟨k2, rfl⟩, hrv⟩)
  | fail)
 go_ret
 exact ⟨_, rfl, (by repeat' (first | exact Q.refl _ | refine Q.alloc ?_ _ | refine Q.jk ?_ _ | refine Q.drew ?_)), hrv.low (by repeat' (first | exact Q.refl _ | refine Q.alloc ?_ _ | refine Q.jk ?_ _ | refine Q.drew ?_)) |>.q (by repeat' (first | exact Q.refl _ | refine Q.alloc ?_ _ | refine Q.jk ?_ _ | refine Q.drew ?_))⟩
end Go.Proofs.YtcjflafjmdfanaaGreatDoor
set_option linter.unusedVariables false
set_option linter.unusedSimpArgs false
namespace Go.Proofs.YtcjflafjmdfanaaGreatDoor
open Go.RowKit Go.Sub
attribute [local go_sem ↓] Go.wp_at_zero Go.wp_at_succ
set_option maxRecDepth 100000 in
set_option maxHeartbeats 16000000 in
theorem r6sides_c (s : Sta) (p : Pos) (k : Nat) (y : Byr) (w : World) (h : GoodAt w s p) (hy : s.bays[k]? = some y) :
  Calls Tryz.prog 82 #[.agg #[Value.string s.nm, Value.slice s.aB s.buses.length s.cB, Value.slice s.aL s.lines.length s.cL, Value.slice s.aS s.srcs.length s.cS, Value.slice s.aY s.bays.length s.cY], .agg #[Value.slice p.aC p.closed.length p.cC, Value.slice p.aK p.rows.length p.cK], .int .i64 k] w fun e w' => e = .returned (.agg #[.int .i64 (sdZ s p (grI s p) k).1, .int .i64 (sdZ s p (grI s p) k).2.1, .int .i64 (sdZ s p (grI s p) k).2.2.1, .int .i64 (sdZ s p (grI s p) k).2.2.2]) ∧ Q w w' := by
 have HGA := Lib.hid h
 have lens := h.lens
 obtain ⟨l1, l2, l3, l4, l5, l6, l7⟩ := lens
 have hok := h.ok k y hy
 have hlt := (List.getElem?_eq_some_iff.1 hy).1
 obtain ⟨r, hr, hrl⟩ := hok.row
 have hlk := (h.st.lk k y hy).1
 have hln := hlk.2
 obtain ⟨g, o, eA, og, hc⟩ := h.st.bayAt hy
 obtain ⟨g', o', eA', og', r1⟩ := h.ps.rowAt hr
 obtain ⟨g2, o2, eL, og2, hc2⟩ := hlk.at_ (by rcases hok.ln with h | h <;> omega)
 obtain ⟨g3, o3, eR, og3, hc3⟩ := (h.ps.row r (List.mem_of_getElem? hr)).1.at_ (by rw [hrl]; rcases hok.ln with h | h <;> omega)
 have q0 : w.cell? ⟨g, o + k * 12, none⟩ = some (Value.string y.nm) := hc.out 0 _ rfl
 have q1 : w.cell? ⟨g, o + k * 12 + 1, none⟩ = some (Value.int .i64 y.kd) := hc.out 1 _ rfl
 have q2 : w.cell? ⟨g, o + k * 12 + 2, none⟩ = some (Value.int .i64 y.of) := hc.out 2 _ rfl
 have q3 : w.cell? ⟨g, o + k * 12 + 3, none⟩ = some (Value.int .i64 y.en) := hc.out 3 _ rfl
 have q4 : w.cell? ⟨g, o + k * 12 + 4, none⟩ = some (Value.int .i64 y.zr) := hc.out 4 _ rfl
 have q5 : w.cell? ⟨g, o + k * 12 + 5, none⟩ = some (Value.int .i64 y.zx) := hc.out 5 _ rfl
 have q6 : w.cell? ⟨g, o + k * 12 + 6, none⟩ = some (Value.slice y.la y.ln y.lc) := hc.out 6 _ rfl
 have q7 : w.cell? ⟨g, o + k * 12 + 7, none⟩ = some (Value.bool y.cl) := hc.out 7 _ rfl
 have q8 : w.cell? ⟨g, o + k * 12 + 8, none⟩ = some (Value.int .i64 y.ct) := hc.out 8 _ rfl
 have q9 : w.cell? ⟨g, o + k * 12 + 9, none⟩ = some (Value.int .i64 y.vt) := hc.out 9 _ rfl
 have q10 : w.cell? ⟨g, o + k * 12 + 10, none⟩ = some (Value.int .i64 y.sa) := hc.out 10 _ rfl
 have q11 : w.cell? ⟨g, o + k * 12 + 11, none⟩ = some (Value.int .i64 y.tr) := hc.out 11 _ rfl
 rw [eL] at q6
 rw [eR, hrl, hln] at r1
 have hrl2 := hrl.trans hln
 have k0 : (0 : Int) ≤ (k : Int) := by omega
 have k1 : (k : Int) < (s.bays.length : Int) := by omega
 have k2 : (k : Int) < (p.rows.length : Int) := by omega
 have hbus := hok.bus
 have hkd := hok.kd
 have hlen := hok.ln
 have hl3 := hok.l3
 have GR0 : Hid (∀ (w' : World) (hq : Q w w'), Calls Tryz.prog 90 #[.agg #[Value.string s.nm, Value.slice s.aB s.buses.length s.cB, Value.slice s.aL s.lines.length s.cL, Value.slice s.aS s.srcs.length s.cS, Value.slice s.aY s.bays.length s.cY], .agg #[Value.slice p.aC p.closed.length p.cC, Value.slice p.aK p.rows.length p.cK]] w' (RetI (grI s p) w')) := Lib.hid fun w' hq => r6groups_c s p w' (h.q hq)
 have LG : Hid ((grI s p).length = s.buses.length) := Lib.hid (grI_len s p)
 have B1 : 1 ≤ s.buses.length := l1
 have SD : ∀ gl, sdZ s p gl k = match s.lks k with
   | l0 :: rest => if y.kd = 3 then (1, busN gl l0, 1, busN gl (rest.headD l0)) else ((sdA s p gl k).1, (sdA s p gl k).2, if y.kd = 1 then 2 else 3, y.of)
   | [] => (0, 0, 0, 0) := by intro gl; unfold sdZ; rw [hy]; cases s.lks k <;> rfl
 have SA0 : ∀ gl, sdA s p gl k = match s.lks k with
   | [] => (0, 0)
   | l0 :: rest => if clB p k 0 = true then (1, busN gl l0) else match rest with | [] => (0, 0) | l1 :: _ => if clB p k 1 = true then (1, busN gl l1) else (0, 0) := fun _ => rfl
 have ECL : ∀ j, clB p k j = decide (r.l.getD j 0 = 1) := fun j => by unfold clB; rw [hr]
 generalize grI s p = gl at GR0 LG ⊢
 replace SD := SD gl
 replace SA0 := SA0 gl
 generalize s.lks k = lk at SD SA0 hbus hc2 hln hlen hl3 hrl
 generalize hlny : y.ln = ln at *
 have EA := Lib.hid eA
 have EA' := Lib.hid eA'
 have HSD := Lib.hid SD
 have HSA := Lib.hid SA0
 have u0 := hc3.out 0 (by omega)
 rw [Nat.add_zero] at u0
 have C0 := Lib.hid (ECL 0)
 have C1 := Lib.hid (ECL 1)
 generalize r.l.getD 0 0 = x0 at u0 C0
 clear SD SA0 hc eL eR hlk hok hr hy h ECL l3 l4 l5 l6 l7 hlt eA eA'
 have hcs : (∃ l0, lk = [l0]) ∨ (∃ l0 l1, lk = [l0, l1]) := by
  match lk, hlen with
  | [l0], _ => exact .inl ⟨l0, rfl⟩
  | [l0, l1], _ => exact .inr ⟨l0, l1, rfl⟩
  | [], h => exact absurd h (by decide)
  | _ :: _ :: _ :: _, h => simp at h
 rcases hcs with ⟨l0, rfl⟩ | ⟨l0, l1, rfl⟩
 ·have hk3 : y.kd ≠ 3 := fun e => absurd (hl3 e) (by simp)
  obtain ⟨a1, a2⟩ := hc2.out 0 l0 rfl
  rw [Nat.zero_mul, Nat.add_zero] at a1 a2
  obtain ⟨hb1, hb2⟩ := hbus l0 (by simp)
  obtain ⟨bus0, pos0⟩ := l0
  dsimp only at a1 a2 hb1 hb2
  obtain ⟨b0, rfl⟩ := Int.eq_ofNat_of_zero_le hb1
  have hB0 : b0 < s.buses.length := by omega
  have SA1 : Hid (sdA s p gl k = if x0 = 1 then (1, gl.getD b0 0) else (0, 0)) := Lib.hid (by rw [HSA.out]; show (if clB p k 0 = true then (1, busN gl ⟨(b0 : Int), pos0⟩) else (0, 0)) = _; rw [C0.out]; by_cases hx : x0 = 1 <;> simp [hx, busN])
  have SD1 : Hid (sdZ s p gl k = ((sdA s p gl k).1, (sdA s p gl k).2, if y.kd = 1 then 2 else 3, y.of)) := Lib.hid (by rw [HSD.out]; exact if_neg hk3)
  have hln1 : ln = 1 := by simpa using hln.symm
  subst hln1
  have e3 : (y.kd == 3) = false := by simpa using hk3
  clear HSA HSD hbus hc2 hln hlen hl3 hlny hb1 hb2 hc3 a2 C0 C1 hrl hrl2
  go_enter Tryz.func82, Tryz.ntmps82
  go_upto_region 1 with fail
  obtain ⟨V, eV⟩ : ∃ V, (w.alloc (Obj.cells #[Value.string s.nm, Value.slice s.aB s.buses.length s.cB, Value.slice s.aL s.lines.length s.cL, Value.slice s.aS s.srcs.length s.cS, Value.slice s.aY s.bays.length s.cY] 27)).alloc (Obj.cells #[Value.slice p.aC p.closed.length p.cC, Value.slice p.aK p.rows.length p.cK] 31) = V := ⟨_, rfl⟩
  have hsz : w.heap.size + 1 + 1 = V.heap.size := by rw [← eV]; simp
  have hq0 : Q w V := by rw [← eV]; repeat' (first | exact Q.refl _ | refine Q.alloc ?_ _ | refine Q.jk ?_ _ | refine Q.drew ?_)
  have hb : HB V w.heap.size #[Value.string s.nm, Value.slice s.aB s.buses.length s.cB, Value.slice s.aL s.lines.length s.cL, Value.slice s.aS s.srcs.length s.cS, Value.slice s.aY s.bays.length s.cY] 27 := by rw [← eV]; exact (HB.new _ _ _ _ rfl).q (by repeat' (first | exact Q.refl _ | refine Q.alloc ?_ _ | refine Q.jk ?_ _ | refine Q.drew ?_))
  have hb2 : HB V (w.heap.size + 1) #[Value.slice p.aC p.closed.length p.cC, Value.slice p.aK p.rows.length p.cK] 31 := by rw [← eV]; exact HB.new (w.alloc (Obj.cells #[Value.string s.nm, Value.slice s.aB s.buses.length s.cB, Value.slice s.aL s.lines.length s.cL, Value.slice s.aS s.srcs.length s.cS, Value.slice s.aY s.bays.length s.cY] 27)) _ _ _ (by simp)
  rw [eV, hsz]
  have HQ0 := Lib.hid hq0
  have s0 := hb.cell 0
  have s1 := hb.cell 1
  have s2 := hb.cell 2
  have s3 := hb.cell 3
  have s4 := hb.cell 4
  have p0 := hb2.cell 0
  have p1 := hb2.cell 1
  simp only [List.getElem?_toArray, List.getElem?_cons_zero, List.getElem?_cons_succ] at s0 s1 s2 s3 s4 p0 p1
  have ob := hb.old
  have ob2 := hb2.old
  replace q0 := (hq0.below.cell (p := ⟨g, o + k * 12, none⟩) og.lt).trans q0
  replace q1 := (hq0.below.cell (p := ⟨g, o + k * 12 + 1, none⟩) og.lt).trans q1
  replace q2 := (hq0.below.cell (p := ⟨g, o + k * 12 + 2, none⟩) og.lt).trans q2
  replace q3 := (hq0.below.cell (p := ⟨g, o + k * 12 + 3, none⟩) og.lt).trans q3
  replace q4 := (hq0.below.cell (p := ⟨g, o + k * 12 + 4, none⟩) og.lt).trans q4
  replace q5 := (hq0.below.cell (p := ⟨g, o + k * 12 + 5, none⟩) og.lt).trans q5
  replace q6 := (hq0.below.cell (p := ⟨g, o + k * 12 + 6, none⟩) og.lt).trans q6
  replace q7 := (hq0.below.cell (p := ⟨g, o + k * 12 + 7, none⟩) og.lt).trans q7
  replace q8 := (hq0.below.cell (p := ⟨g, o + k * 12 + 8, none⟩) og.lt).trans q8
  replace q9 := (hq0.below.cell (p := ⟨g, o + k * 12 + 9, none⟩) og.lt).trans q9
  replace q10 := (hq0.below.cell (p := ⟨g, o + k * 12 + 10, none⟩) og.lt).trans q10
  replace q11 := (hq0.below.cell (p := ⟨g, o + k * 12 + 11, none⟩) og.lt).trans q11
  replace r1 := (hq0.below.cell (p := ⟨g', o' + k, none⟩) og'.lt).trans r1
  replace u0 := (hq0.below.cell (p := ⟨g3, o3, none⟩) og3.lt).trans u0
  replace a1 := (hq0.below.cell (p := ⟨g2, o2, none⟩) og2.lt).trans a1
  have og_ : Old g V := ⟨Nat.lt_of_lt_of_le og.lt hq0.below.size⟩
  have og2_ : Old g2 V := ⟨Nat.lt_of_lt_of_le og2.lt hq0.below.size⟩
  have og3_ : Old g3 V := ⟨Nat.lt_of_lt_of_le og3.lt hq0.below.size⟩
  have og'_ : Old g' V := ⟨Nat.lt_of_lt_of_le og'.lt hq0.below.size⟩
  have GR := Lib.hid fun (w' : World) (hq : Q V w') => GR0.out w' (HQ0.out.trans hq)
  rw [EA.out] at s4 GR
  rw [EA'.out] at p1 GR
  clear eV hb hq0 hb2 hsz
  generalize w.heap.size + 1 = b2 at p0 p1 ob2 ⊢
  generalize w.heap.size = b at s0 s1 s2 s3 s4 ob ⊢
  go_upto_region 3 with (first
   | (go_at_call 90; (with_reducible refine (GR.out _ (by repeat' (first | exact Q.refl _ | refine Q.alloc ?_ _ | refine Q.jk ?_ _ | refine Q.drew ?_))).mono ?_); rintro e w' ⟨v, rfl, ⟨kg, rfl⟩, hrv⟩; obtain ⟨A, cG, rfl⟩ := own_slice' hrv; rw [LG.out] at hrv ⊢; obtain ⟨gG, rfl, hgG, hcG⟩ := rowI_win hrv LG.out (by omega); have x1 := (hcG.out b0 (by omega)).1; have oG : Old gG ((V.alloc (Obj.cells #[Value.int .i64 0, Value.int .i64 0, Value.int .i64 0, Value.int .i64 0] 120)).jk kg) := ⟨World.block_lt_of_cell? _ _ x1⟩; clear hrv hcG hgG)
   | fail)
  have hk12 : y.kd = 1 ∨ y.kd = 2 := by omega
  by_cases hx0 : x0 = 1
  ·have f0 : (x0 == 1) = true := by simpa using hx0
   rcases hk12 with hk1 | hk1
   ·have e1 : (y.kd == 2) = false := by rw [hk1]; rfl
    have EV : Hid (sdZ s p gl k = (1, gl.getD b0 0, 2, y.of)) := Lib.hid (by rw [SD1.out, SA1.out, if_pos hx0, if_pos hk1])
    go_wp2_with fail
    refine wp_loop_rounds 2 ?_
    rw [rounds_succ]
    go_wp2_with fail
    rw [rounds_succ]
    go_wp2_with fail
    refine bodyPost_ret (v := .agg #[.int .i64 1, .int .i64 (gl.getD b0 0), .int .i64 2, .int .i64 (y.of)]) (by simp [results, Tryz.results82, go_sem]) rfl ⟨by rw [EV.out], HQ0.out.trans ?_⟩
    repeat' (first | exact Q.refl _ | refine Q.alloc ?_ _ | refine Q.jk ?_ _ | refine Q.drew ?_ | refine Q.setCell ?_ (by simp [World.size_jk] <;> omega) _)
   ·have e1 : (y.kd == 2) = true := by rw [hk1]; rfl
    have EV : Hid (sdZ s p gl k = (1, gl.getD b0 0, 3, y.of)) := Lib.hid (by rw [SD1.out, SA1.out, if_pos hx0, if_neg (by omega)])
    go_wp2_with fail
    refine wp_loop_rounds 2 ?_
    rw [rounds_succ]
    go_wp2_with fail
    rw [rounds_succ]
    go_wp2_with fail
    refine bodyPost_ret (v := .agg #[.int .i64 1, .int .i64 (gl.getD b0 0), .int .i64 3, .int .i64 (y.of)]) (by simp [results, Tryz.results82, go_sem]) rfl ⟨by rw [EV.out], HQ0.out.trans ?_⟩
    repeat' (first | exact Q.refl _ | refine Q.alloc ?_ _ | refine Q.jk ?_ _ | refine Q.drew ?_ | refine Q.setCell ?_ (by simp [World.size_jk] <;> omega) _)
  ·have f0 : (x0 == 1) = false := by simpa using hx0
   rcases hk12 with hk1 | hk1
   ·have e1 : (y.kd == 2) = false := by rw [hk1]; rfl
    have EV : Hid (sdZ s p gl k = (0, 0, 2, y.of)) := Lib.hid (by rw [SD1.out, SA1.out, if_neg hx0, if_pos hk1])
    go_wp2_with fail
    refine wp_loop_rounds 2 ?_
    rw [rounds_succ]
    go_wp2_with fail
    rw [rounds_succ]
    go_wp2_with fail
    refine bodyPost_ret (v := .agg #[.int .i64 0, .int .i64 (0), .int .i64 2, .int .i64 (y.of)]) (by simp [results, Tryz.results82, go_sem]) rfl ⟨by rw [EV.out], HQ0.out.trans ?_⟩
    repeat' (first | exact Q.refl _ | refine Q.alloc ?_ _ | refine Q.jk ?_ _ | refine Q.drew ?_ | refine Q.setCell ?_ (by simp [World.size_jk] <;> omega) _)
   ·have e1 : (y.kd == 2) = true := by rw [hk1]; rfl
    have EV : Hid (sdZ s p gl k = (0, 0, 3, y.of)) := Lib.hid (by rw [SD1.out, SA1.out, if_neg hx0, if_neg (by omega)])
    go_wp2_with fail
    refine wp_loop_rounds 2 ?_
    rw [rounds_succ]
    go_wp2_with fail
    rw [rounds_succ]
    go_wp2_with fail
    refine bodyPost_ret (v := .agg #[.int .i64 0, .int .i64 (0), .int .i64 3, .int .i64 (y.of)]) (by simp [results, Tryz.results82, go_sem]) rfl ⟨by rw [EV.out], HQ0.out.trans ?_⟩
    repeat' (first | exact Q.refl _ | refine Q.alloc ?_ _ | refine Q.jk ?_ _ | refine Q.drew ?_ | refine Q.setCell ?_ (by simp [World.size_jk] <;> omega) _)
 ·obtain ⟨a1, a2⟩ := hc2.out 0 l0 rfl
  obtain ⟨d1, d2⟩ := hc2.out 1 l1 rfl
  rw [Nat.zero_mul, Nat.add_zero] at a1 a2
  rw [Nat.one_mul] at d1 d2
  obtain ⟨hb1, hb2⟩ := hbus l0 (by simp)
  obtain ⟨hb3, hb4⟩ := hbus l1 (by simp)
  obtain ⟨bus0, pos0⟩ := l0
  obtain ⟨bus1, pos1⟩ := l1
  dsimp only at a1 a2 d1 d2 hb1 hb2 hb3 hb4
  obtain ⟨b0, rfl⟩ := Int.eq_ofNat_of_zero_le hb1
  obtain ⟨b1, rfl⟩ := Int.eq_ofNat_of_zero_le hb3
  have hB0 : b0 < s.buses.length := by omega
  have hB1 : b1 < s.buses.length := by omega
  have hln1 : ln = 2 := by simpa using hln.symm
  subst hln1
  have u1 := hc3.out 1 (by omega)
  generalize r.l.getD 1 0 = x1' at u1 C1
  go_enter Tryz.func82, Tryz.ntmps82
  go_upto_region 1 with fail
  obtain ⟨V, eV⟩ : ∃ V, (w.alloc (Obj.cells #[Value.string s.nm, Value.slice s.aB s.buses.length s.cB, Value.slice s.aL s.lines.length s.cL, Value.slice s.aS s.srcs.length s.cS, Value.slice s.aY s.bays.length s.cY] 27)).alloc (Obj.cells #[Value.slice p.aC p.closed.length p.cC, Value.slice p.aK p.rows.length p.cK] 31) = V := ⟨_, rfl⟩
  have hsz : w.heap.size + 1 + 1 = V.heap.size := by rw [← eV]; simp
  have hq0 : Q w V := by rw [← eV]; repeat' (first | exact Q.refl _ | refine Q.alloc ?_ _ | refine Q.jk ?_ _ | refine Q.drew ?_)
  have hb : HB V w.heap.size #[Value.string s.nm, Value.slice s.aB s.buses.length s.cB, Value.slice s.aL s.lines.length s.cL, Value.slice s.aS s.srcs.length s.cS, Value.slice s.aY s.bays.length s.cY] 27 := by rw [← eV]; exact (HB.new _ _ _ _ rfl).q (by repeat' (first | exact Q.refl _ | refine Q.alloc ?_ _ | refine Q.jk ?_ _ | refine Q.drew ?_))
  have hb2 : HB V (w.heap.size + 1) #[Value.slice p.aC p.closed.length p.cC, Value.slice p.aK p.rows.length p.cK] 31 := by rw [← eV]; exact HB.new (w.alloc (Obj.cells #[Value.string s.nm, Value.slice s.aB s.buses.length s.cB, Value.slice s.aL s.lines.length s.cL, Value.slice s.aS s.srcs.length s.cS, Value.slice s.aY s.bays.length s.cY] 27)) _ _ _ (by simp)
  rw [eV, hsz]
  have HQ0 := Lib.hid hq0
  have s0 := hb.cell 0
  have s1 := hb.cell 1
  have s2 := hb.cell 2
  have s3 := hb.cell 3
  have s4 := hb.cell 4
  have p0 := hb2.cell 0
  have p1 := hb2.cell 1
  simp only [List.getElem?_toArray, List.getElem?_cons_zero, List.getElem?_cons_succ] at s0 s1 s2 s3 s4 p0 p1
  have ob := hb.old
  have ob2 := hb2.old
  replace q0 := (hq0.below.cell (p := ⟨g, o + k * 12, none⟩) og.lt).trans q0
  replace q1 := (hq0.below.cell (p := ⟨g, o + k * 12 + 1, none⟩) og.lt).trans q1
  replace q2 := (hq0.below.cell (p := ⟨g, o + k * 12 + 2, none⟩) og.lt).trans q2
  replace q3 := (hq0.below.cell (p := ⟨g, o + k * 12 + 3, none⟩) og.lt).trans q3
  replace q4 := (hq0.below.cell (p := ⟨g, o + k * 12 + 4, none⟩) og.lt).trans q4
  replace q5 := (hq0.below.cell (p := ⟨g, o + k * 12 + 5, none⟩) og.lt).trans q5
  replace q6 := (hq0.below.cell (p := ⟨g, o + k * 12 + 6, none⟩) og.lt).trans q6
  replace q7 := (hq0.below.cell (p := ⟨g, o + k * 12 + 7, none⟩) og.lt).trans q7
  replace q8 := (hq0.below.cell (p := ⟨g, o + k * 12 + 8, none⟩) og.lt).trans q8
  replace q9 := (hq0.below.cell (p := ⟨g, o + k * 12 + 9, none⟩) og.lt).trans q9
  replace q10 := (hq0.below.cell (p := ⟨g, o + k * 12 + 10, none⟩) og.lt).trans q10
  replace q11 := (hq0.below.cell (p := ⟨g, o + k * 12 + 11, none⟩) og.lt).trans q11
  replace r1 := (hq0.below.cell (p := ⟨g', o' + k, none⟩) og'.lt).trans r1
  replace u0 := (hq0.below.cell (p := ⟨g3, o3, none⟩) og3.lt).trans u0
  replace a1 := (hq0.below.cell (p := ⟨g2, o2, none⟩) og2.lt).trans a1
  replace u1 := (hq0.below.cell (p := ⟨g3, o3 + 1, none⟩) og3.lt).trans u1
  replace d1 := (hq0.below.cell (p := ⟨g2, o2 + 2, none⟩) og2.lt).trans d1
  have og_ : Old g V := ⟨Nat.lt_of_lt_of_le og.lt hq0.below.size⟩
  have og2_ : Old g2 V := ⟨Nat.lt_of_lt_of_le og2.lt hq0.below.size⟩
  have og3_ : Old g3 V := ⟨Nat.lt_of_lt_of_le og3.lt hq0.below.size⟩
  have og'_ : Old g' V := ⟨Nat.lt_of_lt_of_le og'.lt hq0.below.size⟩
  have GR := Lib.hid fun (w' : World) (hq : Q V w') => GR0.out w' (HQ0.out.trans hq)
  rw [EA.out] at s4 GR
  rw [EA'.out] at p1 GR
  clear eV hb hq0 hb2 hsz
  generalize w.heap.size + 1 = b2 at p0 p1 ob2 ⊢
  generalize w.heap.size = b at s0 s1 s2 s3 s4 ob ⊢
  go_upto_region 3 with (first
   | (go_at_call 90; (with_reducible refine (GR.out _ (by repeat' (first | exact Q.refl _ | refine Q.alloc ?_ _ | refine Q.jk ?_ _ | refine Q.drew ?_))).mono ?_); rintro e w' ⟨v, rfl, ⟨kg, rfl⟩, hrv⟩; obtain ⟨A, cG, rfl⟩ := own_slice' hrv; rw [LG.out] at hrv ⊢; obtain ⟨gG, rfl, hgG, hcG⟩ := rowI_win hrv LG.out (by omega); have x1 := (hcG.out b0 (by omega)).1; have x2 := (hcG.out b1 (by omega)).1; have oG : Old gG ((V.alloc (Obj.cells #[Value.int .i64 0, Value.int .i64 0, Value.int .i64 0, Value.int .i64 0] 120)).jk kg) := ⟨World.block_lt_of_cell? _ _ x1⟩; clear hrv hcG hgG)
   | fail)
  by_cases hk3 : y.kd = 3
  ·have SD1 : Hid (sdZ s p gl k = (1, gl.getD b0 0, 1, gl.getD b1 0)) := Lib.hid (by rw [HSD.out]; exact if_pos hk3)
   have e3 : (y.kd == 3) = true := by simpa using hk3
   clear HSA HSD hbus hc2 hln hlen hl3 hlny hb1 hb2 hb3 hb4 hc3 a2 d2 C0 C1 hrl hrl2
   have EV := SD1
   go_wp2_with fail
   refine wp_region_tail 19 (by kernel_rfl) (by kernel_rfl) ?_
   simp only [List.take_succ_cons, List.take_zero, List.drop_succ_cons, List.drop_zero]
   repeat (go_big_quiet_step (fail))
   refine wpQuiet_nil ?_
   intro _ hw'
   obtain ⟨kq, rfl⟩ := hw'
   go_wp2_with fail
   refine bodyPost_ret (v := .agg #[.int .i64 1, .int .i64 (gl.getD b0 0), .int .i64 1, .int .i64 (gl.getD b1 0)]) (by simp [results, Tryz.results82, go_sem]) rfl ⟨by rw [EV.out], HQ0.out.trans ?_⟩
   repeat' (first | exact Q.refl _ | refine Q.alloc ?_ _ | refine Q.jk ?_ _ | refine Q.drew ?_ | refine Q.setCell ?_ (by simp [World.size_jk] <;> omega) _)
  ·have SA1 : Hid (sdA s p gl k = if x0 = 1 then (1, gl.getD b0 0) else if x1' = 1 then (1, gl.getD b1 0) else (0, 0)) := Lib.hid (by rw [HSA.out]; show (if clB p k 0 = true then (1, busN gl ⟨(b0 : Int), pos0⟩) else if clB p k 1 = true then (1, busN gl ⟨(b1 : Int), pos1⟩) else (0, 0)) = _; rw [C0.out, C1.out]; by_cases hx : x0 = 1 <;> by_cases hx' : x1' = 1 <;> simp [hx, hx', busN])
   have SD1 : Hid (sdZ s p gl k = ((sdA s p gl k).1, (sdA s p gl k).2, if y.kd = 1 then 2 else 3, y.of)) := Lib.hid (by rw [HSD.out]; exact if_neg hk3)
   have e3 : (y.kd == 3) = false := by simpa using hk3
   clear HSA HSD hbus hc2 hln hlen hl3 hlny hb1 hb2 hb3 hb4 hc3 a2 d2 C0 C1 hrl hrl2
   have hk12 : y.kd = 1 ∨ y.kd = 2 := by omega
   rcases hk12 with hk1 | hk1
   ·have e1 : (y.kd == 2) = false := by rw [hk1]; rfl
    by_cases hx0 : x0 = 1 <;> by_cases hx1 : x1' = 1
    ·have f0 : (x0 == 1) = true := by simpa using hx0
     have f1 : (x1' == 1) = true := by simpa using hx1
     have EV : Hid (sdZ s p gl k = (1, gl.getD b0 0, 2, y.of)) := Lib.hid (by rw [SD1.out, SA1.out, if_pos hx0, if_pos hk1])
     go_wp2_with fail
     refine wp_loop_rounds 3 ?_
     rw [rounds_succ]
     go_wp2_with fail
     rw [rounds_succ]
     go_wp2_with fail
     rw [rounds_succ]
     go_wp2_with fail
     refine bodyPost_ret (v := .agg #[.int .i64 1, .int .i64 (gl.getD b0 0), .int .i64 2, .int .i64 (y.of)]) (by simp [results, Tryz.results82, go_sem]) rfl ⟨by rw [EV.out], HQ0.out.trans ?_⟩
     repeat' (first | exact Q.refl _ | refine Q.alloc ?_ _ | refine Q.jk ?_ _ | refine Q.drew ?_ | refine Q.setCell ?_ (by simp [World.size_jk] <;> omega) _)
    ·have f0 : (x0 == 1) = true := by simpa using hx0
     have f1 : (x1' == 1) = false := by simpa using hx1
     have EV : Hid (sdZ s p gl k = (1, gl.getD b0 0, 2, y.of)) := Lib.hid (by rw [SD1.out, SA1.out, if_pos hx0, if_pos hk1])
     go_wp2_with fail
     refine wp_loop_rounds 3 ?_
     rw [rounds_succ]
     go_wp2_with fail
     rw [rounds_succ]
     go_wp2_with fail
     rw [rounds_succ]
     go_wp2_with fail
     refine bodyPost_ret (v := .agg #[.int .i64 1, .int .i64 (gl.getD b0 0), .int .i64 2, .int .i64 (y.of)]) (by simp [results, Tryz.results82, go_sem]) rfl ⟨by rw [EV.out], HQ0.out.trans ?_⟩
     repeat' (first | exact Q.refl _ | refine Q.alloc ?_ _ | refine Q.jk ?_ _ | refine Q.drew ?_ | refine Q.setCell ?_ (by simp [World.size_jk] <;> omega) _)
    ·have f0 : (x0 == 1) = false := by simpa using hx0
     have f1 : (x1' == 1) = true := by simpa using hx1
     have EV : Hid (sdZ s p gl k = (1, gl.getD b1 0, 2, y.of)) := Lib.hid (by rw [SD1.out, SA1.out, if_neg hx0, if_pos hx1, if_pos hk1])
     go_wp2_with fail
     refine wp_loop_rounds 3 ?_
     rw [rounds_succ]
     go_wp2_with fail
     rw [rounds_succ]
     go_wp2_with fail
     rw [rounds_succ]
     go_wp2_with fail
     refine bodyPost_ret (v := .agg #[.int .i64 1, .int .i64 (gl.getD b1 0), .int .i64 2, .int .i64 (y.of)]) (by simp [results, Tryz.results82, go_sem]) rfl ⟨by rw [EV.out], HQ0.out.trans ?_⟩
     repeat' (first | exact Q.refl _ | refine Q.alloc ?_ _ | refine Q.jk ?_ _ | refine Q.drew ?_ | refine Q.setCell ?_ (by simp [World.size_jk] <;> omega) _)
    ·have f0 : (x0 == 1) = false := by simpa using hx0
     have f1 : (x1' == 1) = false := by simpa using hx1
     have EV : Hid (sdZ s p gl k = (0, 0, 2, y.of)) := Lib.hid (by rw [SD1.out, SA1.out, if_neg hx0, if_neg hx1, if_pos hk1])
     go_wp2_with fail
     refine wp_loop_rounds 3 ?_
     rw [rounds_succ]
     go_wp2_with fail
     rw [rounds_succ]
     go_wp2_with fail
     rw [rounds_succ]
     go_wp2_with fail
     refine bodyPost_ret (v := .agg #[.int .i64 0, .int .i64 (0), .int .i64 2, .int .i64 (y.of)]) (by simp [results, Tryz.results82, go_sem]) rfl ⟨by rw [EV.out], HQ0.out.trans ?_⟩
     repeat' (first | exact Q.refl _ | refine Q.alloc ?_ _ | refine Q.jk ?_ _ | refine Q.drew ?_ | refine Q.setCell ?_ (by simp [World.size_jk] <;> omega) _)
   ·have e1 : (y.kd == 2) = true := by rw [hk1]; rfl
    by_cases hx0 : x0 = 1 <;> by_cases hx1 : x1' = 1
    ·have f0 : (x0 == 1) = true := by simpa using hx0
     have f1 : (x1' == 1) = true := by simpa using hx1
     have EV : Hid (sdZ s p gl k = (1, gl.getD b0 0, 3, y.of)) := Lib.hid (by rw [SD1.out, SA1.out, if_pos hx0, if_neg (by omega)])
     go_wp2_with fail
     refine wp_loop_rounds 3 ?_
     rw [rounds_succ]
     go_wp2_with fail
     rw [rounds_succ]
     go_wp2_with fail
     rw [rounds_succ]
     go_wp2_with fail
     refine bodyPost_ret (v := .agg #[.int .i64 1, .int .i64 (gl.getD b0 0), .int .i64 3, .int .i64 (y.of)]) (by simp [results, Tryz.results82, go_sem]) rfl ⟨by rw [EV.out], HQ0.out.trans ?_⟩
     repeat' (first | exact Q.refl _ | refine Q.alloc ?_ _ | refine Q.jk ?_ _ | refine Q.drew ?_ | refine Q.setCell ?_ (by simp [World.size_jk] <;> omega) _)
    ·have f0 : (x0 == 1) = true := by simpa using hx0
     have f1 : (x1' == 1) = false := by simpa using hx1
     have EV : Hid (sdZ s p gl k = (1, gl.getD b0 0, 3, y.of)) := Lib.hid (by rw [SD1.out, SA1.out, if_pos hx0, if_neg (by omega)])
     go_wp2_with fail
     refine wp_loop_rounds 3 ?_
     rw [rounds_succ]
     go_wp2_with fail
     rw [rounds_succ]
     go_wp2_with fail
     rw [rounds_succ]
     go_wp2_with fail
     refine bodyPost_ret (v := .agg #[.int .i64 1, .int .i64 (gl.getD b0 0), .int .i64 3, .int .i64 (y.of)]) (by simp [results, Tryz.results82, go_sem]) rfl ⟨by rw [EV.out], HQ0.out.trans ?_⟩
     repeat' (first | exact Q.refl _ | refine Q.alloc ?_ _ | refine Q.jk ?_ _ | refine Q.drew ?_ | refine Q.setCell ?_ (by simp [World.size_jk] <;> omega) _)
    ·have f0 : (x0 == 1) = false := by simpa using hx0
     have f1 : (x1' == 1) = true := by simpa using hx1
     have EV : Hid (sdZ s p gl k = (1, gl.getD b1 0, 3, y.of)) := Lib.hid (by rw [SD1.out, SA1.out, if_neg hx0, if_pos hx1, if_neg (by omega)])
     go_wp2_with fail
     refine wp_loop_rounds 3 ?_
     rw [rounds_succ]
     go_wp2_with fail
     rw [rounds_succ]
     go_wp2_with fail
     rw [rounds_succ]
     go_wp2_with fail
     refine bodyPost_ret (v := .agg #[.int .i64 1, .int .i64 (gl.getD b1 0), .int .i64 3, .int .i64 (y.of)]) (by simp [results, Tryz.results82, go_sem]) rfl ⟨by rw [EV.out], HQ0.out.trans ?_⟩
     repeat' (first | exact Q.refl _ | refine Q.alloc ?_ _ | refine Q.jk ?_ _ | refine Q.drew ?_ | refine Q.setCell ?_ (by simp [World.size_jk] <;> omega) _)
    ·have f0 : (x0 == 1) = false := by simpa using hx0
     have f1 : (x1' == 1) = false := by simpa using hx1
     have EV : Hid (sdZ s p gl k = (0, 0, 3, y.of)) := Lib.hid (by rw [SD1.out, SA1.out, if_neg hx0, if_neg hx1, if_neg (by omega)])
     go_wp2_with fail
     refine wp_loop_rounds 3 ?_
     rw [rounds_succ]
     go_wp2_with fail
     rw [rounds_succ]
     go_wp2_with fail
     rw [rounds_succ]
     go_wp2_with fail
     refine bodyPost_ret (v := .agg #[.int .i64 0, .int .i64 (0), .int .i64 3, .int .i64 (y.of)]) (by simp [results, Tryz.results82, go_sem]) rfl ⟨by rw [EV.out], HQ0.out.trans ?_⟩
     repeat' (first | exact Q.refl _ | refine Q.alloc ?_ _ | refine Q.jk ?_ _ | refine Q.drew ?_ | refine Q.setCell ?_ (by simp [World.size_jk] <;> omega) _)
end Go.Proofs.YtcjflafjmdfanaaGreatDoor
