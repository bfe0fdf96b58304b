
/- What Normal returns for a station that has no error: the normal position of its switches. -/
import Derived.Test.YtcjflafjmdfanaaGreatDoorBv19
set_option maxHeartbeats 64000000
set_option maxRecDepth 100000
set_option linter.unusedSimpArgs false
set_option linter.unusedVariables false
namespace Go.Sub
open Go
def nmC (s : Sta) (n : Nat) : List Bool := (s.bays.take n).map Byr.cl
def nmR (s : Sta) (n : Nat) : List (List Int) := (List.range n).map fun k => (s.lks k).map Lk.pos
end Go.Sub
namespace Go.Proofs.YtcjflafjmdfanaaGreatDoor
open Go.RowKit Go.Sub
attribute [local go_sem ↓] Go.wp_at_zero Go.wp_at_succ
def RetN (cl : List Bool) (ls : List (List Int)) (w : World) (e : Ending) (w' : World) : Prop := ∃ (p : Pos) (k : Jk), e = .returned (.agg #[Value.slice p.aC p.closed.length p.cC, Value.slice p.aK p.rows.length p.cK]) ∧ w' = w.jk k ∧ (∀ W' : World, W'.heap.size = w.heap.size → PosAt (W'.jk k) p) ∧ p.closed = cl ∧ p.rows.map Ro.l = ls
def RowT (W0 w : World) (v : Value) (bl : List Bool) : Prop := w.ownsRow W0.heap.size 4 1 v bl.length (bl.map Value.bool)
theorem wpList_app_bool {ops : Array Oper} {rest : List Oper} {o : Oper} {a : Act} {w : World} {Q' : Exit → Act → World → Prop} (hgd : o.guard = none) (s x : Operand)
  (ho : o.op = .call { callee := .builtin .append, args := #[s, x], argTypes := #[28, 28] }) (W0 : World) (v : Value) (bl : List Bool) (b : Bool) (g : Nat)
  (hs : a.eval s = v) (hx : a.eval x = .slice (some ⟨g, 0, none⟩) 1 1) (hown : RowT W0 w v bl) (hg : w.cell? ⟨g, 0, none⟩ = some (.bool b)) (hlen : bl.length < 1000) (hQ : Q W0 w)
  (h : ∀ A' c' kk, RowT W0 (W0.jk kk) (.slice A' (bl.length + 1) c') (bl ++ [b]) → Grown W0.heap.size v (.slice A' (bl.length + 1) c') w (W0.jk kk) → wpList Tryz.prog ops Q' rest (a.put o.dst (.slice A' (bl.length + 1) c')) (W0.jk kk)) : wpList Tryz.prog ops Q' (o :: rest) a w := by
 obtain ⟨i, hi, hz, hs1, hb⟩ := infoBool
 refine wpList_app hgd s x 28 ho W0 4 i (.bool false) 1 1 Tryz.underlying28 hi hz hs1 hb rfl (by decide) v _ _ hs hown ⟨g, 0, none⟩ 1 1 [.bool b] hx rfl ?_ ?_ (by unfold maxLen; omega) (by omega) hQ ?_
 ·intro j u hj
  match j, hj with
  | 0, hj => simp at hj; subst hj; simpa [Addr.add] using hg
 ·intro u hu
  rw [List.mem_singleton] at hu
  subst hu
  rfl
 intro v' kk h1 h2
 obtain ⟨A', c', rfl⟩ := own_slice' h1
 exact h A' c' kk (by unfold RowT; rw [List.length_append, List.map_append]; exact h1) h2
theorem wpList_app_row2 {ops : Array Oper} {rest : List Oper} {o : Oper} {a : Act} {w : World} {Q' : Exit → Act → World → Prop} (hgd : o.guard = none) (s x : Operand)
  (ho : o.op = .call { callee := .builtin .append, args := #[s, x], argTypes := #[29, 29] }) (W0 : World) (v : Value) (rs : List Ro) (r : Ro) (g : Nat)
  (hs : a.eval s = v) (hx : a.eval x = .slice (some ⟨g, 0, none⟩) 1 1) (hown : RowsAt W0 w v rs) (hr : RowI W0 w (roC r) r.l) (hl : r.l.length < 1000) (hg : w.cell? ⟨g, 0, none⟩ = some (roC r)) (hlen : rs.length < 1000) (hQ : Q W0 w)
  (h : ∀ A' c' kk, RowsAt W0 (W0.jk kk) (.slice A' (rs.length + 1) c') (rs ++ [r]) → Grown W0.heap.size v (.slice A' (rs.length + 1) c') w (W0.jk kk) → wpList Tryz.prog ops Q' rest (a.put o.dst (.slice A' (rs.length + 1) c')) (W0.jk kk)) : wpList Tryz.prog ops Q' (o :: rest) a w := by
 obtain ⟨i, hi, hz, hs1, hb⟩ := infoRow
 refine wpList_app hgd s x 29 ho W0 61 i (.slice none 0 0) 1 24 Tryz.underlying29 hi hz hs1 hb rfl (by decide) v _ _ hs hown.1 ⟨g, 0, none⟩ 1 1 [roC r] hx rfl ?_ ?_ (by unfold maxLen; omega) (by omega) hQ ?_
 ·intro j u hj
  match j, hj with
  | 0, hj => simp at hj; subst hj; simpa [Addr.add] using hg
 ·intro u hu
  rw [List.mem_singleton] at hu
  subst hu
  rfl
 intro v' kk h1 h2
 obtain ⟨A', c', rfl⟩ := own_slice' h1
 exact h A' c' kk (hown.snoc hr hl h1 h2) h2
theorem normal_c (s : Sta) (w : World) (hs : StAt w s) (h1 : stE s = 0) :
  Calls Tryz.prog 29 #[.agg #[Value.string s.nm, Value.slice s.aB s.buses.length s.cB, Value.slice s.aL s.lines.length s.cL, Value.slice s.aS s.srcs.length s.cS, Value.slice s.aY s.bays.length s.cY]] w (RetN (nmC s s.bays.length) (nmR s s.bays.length) w) := by
 have SC := hh fun (w' : World) (hq : Q w w') => stcheck_c s w' (hs.q hq)
 simp only [h1] at SC
 have HAY := hh fun k y (hy : s.bays[k]? = some y) => hs.bayAt hy
 have HLK := hh hs.lk
 have HLN : Hid (∀ k y, s.bays[k]? = some y → (s.lks k).length = 1 ∨ (s.lks k).length = 2) := hh fun k y hy => (lkE_zero (stE_bay h1 k y hy).lk).1
 have hY := (stE_parts h1).1
 unfold stBad at hY
 obtain ⟨aY, eaY⟩ : ∃ a, s.aY = a := ⟨_, rfl⟩
 obtain ⟨nY, eY⟩ : ∃ n, s.bays.length = n := ⟨_, rfl⟩
 rw [eaY] at HAY
 rw [eaY, eY] at SC
 rw [eaY, eY]
 have y0 : nY ≤ 16 := by omega
 have EY := hh eY
 clear hs h1 hY eaY eY
 go_enter Tryz.func29, Tryz.ntmps29
 go_wp2_with (first | (go_at_call 30; (with_reducible refine (SC.o _ Q.i).q ?_); intro k0) | fail)
 go_loopw [16] (fun i wr => ∃ (k : Nat) (aC : Option Addr) (cC : Nat) (aK : Option Addr) (cK : Nat) (rs : List Ro), i = .int .i64 k ∧ k ≤ nY ∧ Q ((((w.alloc (Obj.cells #[Value.string s.nm, Value.slice s.aB s.buses.length s.cB, Value.slice s.aL s.lines.length s.cL, Value.slice s.aS s.srcs.length s.cS, Value.slice aY nY s.cY] 27)).alloc (Obj.cells #[Value.slice none 0 0, Value.slice none 0 0] 31)).jk k0).alloc (Obj.cells #[(Value.slice aC k cC), (Value.slice aK k cK)] 31)) wr ∧ rs.length = k ∧ Hid ((nmC s k).length = k) ∧ Hid (RowT ((((w.alloc (Obj.cells #[Value.string s.nm, Value.slice s.aB s.buses.length s.cB, Value.slice s.aL s.lines.length s.cL, Value.slice s.aS s.srcs.length s.cS, Value.slice aY nY s.cY] 27)).alloc (Obj.cells #[Value.slice none 0 0, Value.slice none 0 0] 31)).jk k0).alloc (Obj.cells #[(Value.slice aC k cC), (Value.slice aK k cK)] 31)) wr (Value.slice aC k cC) (nmC s k)) ∧ Hid (RowsAt ((((w.alloc (Obj.cells #[Value.string s.nm, Value.slice s.aB s.buses.length s.cB, Value.slice s.aL s.lines.length s.cL, Value.slice s.aS s.srcs.length s.cS, Value.slice aY nY s.cY] 27)).alloc (Obj.cells #[Value.slice none 0 0, Value.slice none 0 0] 31)).jk k0).alloc (Obj.cells #[(Value.slice aC k cC), (Value.slice aK k cK)] 31)) wr (Value.slice aK k cK) rs) ∧ Hid (rs.map Ro.l = nmR s k)) (fun i _ => nY - (intOf i).toNat)
 case atStart => exact ⟨0, none, 0, none, 0, [], rfl, Nat.zero_le _, Q.refl _, rfl, hh rfl, hh (World.ownsRow_nil _ _ _ _), hh ⟨World.ownsRow_nil _ _ _ _, fun r hr => by cases hr⟩, hh rfl⟩
 case round =>
  obtain ⟨k, aC, cC, aK, cK, rs, rfl, hk, ⟨kk, rfl⟩, hrs, HNL, HT, HR, EL⟩ := hrel
  by_cases hlt : k < nY
  rotate_left
  ·obtain rfl : nY = k := by omega
   clear hlt hk
   have HROW : Hid ((((((w.alloc (Obj.cells #[Value.string s.nm, Value.slice s.aB s.buses.length s.cB, Value.slice s.aL s.lines.length s.cL, Value.slice s.aS s.srcs.length s.cS, Value.slice aY nY s.cY] 27)).alloc (Obj.cells #[Value.slice aC nY cC, Value.slice aK nY cK] 31)).jk k0).alloc (Obj.cells #[(Value.slice aC nY cC), (Value.slice aK nY cK)] 31)).jk kk).ownsRow w.heap.size 4 1 (.slice aC nY cC) nY ((nmC s nY).map Value.bool) ∧ RowsAt w (((((w.alloc (Obj.cells #[Value.string s.nm, Value.slice s.aB s.buses.length s.cB, Value.slice s.aL s.lines.length s.cL, Value.slice s.aS s.srcs.length s.cS, Value.slice aY nY s.cY] 27)).alloc (Obj.cells #[Value.slice aC nY cC, Value.slice aK nY cK] 31)).jk k0).alloc (Obj.cells #[(Value.slice aC nY cC), (Value.slice aK nY cK)] 31)).jk kk) (.slice aK nY cK) rs) := hh (by
    have h1 : (((((w.alloc (Obj.cells #[Value.string s.nm, Value.slice s.aB s.buses.length s.cB, Value.slice s.aL s.lines.length s.cL, Value.slice s.aS s.srcs.length s.cS, Value.slice aY nY s.cY] 27)).alloc (Obj.cells #[Value.slice aC nY cC, Value.slice aK nY cK] 31)).jk k0).alloc (Obj.cells #[(Value.slice aC nY cC), (Value.slice aK nY cK)] 31)).jk kk).ownsRow ((w.alloc (Obj.cells #[Value.string s.nm, Value.slice s.aB s.buses.length s.cB, Value.slice s.aL s.lines.length s.cL, Value.slice s.aS s.srcs.length s.cS, Value.slice aY nY s.cY] 27)).alloc (Obj.cells #[Value.slice aC nY cC, Value.slice aK nY cK] 31)).heap.size 4 1 (.slice aC nY cC) nY ((nmC s nY).map Value.bool) := by
     rw [World.jk_alloc, World.jk_jk]
     refine own_swap (W := (w.alloc (Obj.cells #[Value.string s.nm, Value.slice s.aB s.buses.length s.cB, Value.slice s.aL s.lines.length s.cL, Value.slice s.aS s.srcs.length s.cS, Value.slice aY nY s.cY] 27)).alloc (Obj.cells #[Value.slice none 0 0, Value.slice none 0 0] 31)) (by simp) ?_
     rw [← World.jk_jk, ← World.jk_alloc]
     have := HT.o
     unfold RowT at this
     rw [HNL.o] at this
     exact World.ownsRow.mono this (by simp [World.size_jk]; omega)
    have h2 : RowsAt ((w.alloc (Obj.cells #[Value.string s.nm, Value.slice s.aB s.buses.length s.cB, Value.slice s.aL s.lines.length s.cL, Value.slice s.aS s.srcs.length s.cS, Value.slice aY nY s.cY] 27)).alloc (Obj.cells #[Value.slice aC nY cC, Value.slice aK nY cK] 31)) (((((w.alloc (Obj.cells #[Value.string s.nm, Value.slice s.aB s.buses.length s.cB, Value.slice s.aL s.lines.length s.cL, Value.slice s.aS s.srcs.length s.cS, Value.slice aY nY s.cY] 27)).alloc (Obj.cells #[Value.slice aC nY cC, Value.slice aK nY cK] 31)).jk k0).alloc (Obj.cells #[(Value.slice aC nY cC), (Value.slice aK nY cK)] 31)).jk kk) (.slice aK nY cK) rs := by
     rw [World.jk_alloc, World.jk_jk]
     refine RowsAt.swap (W := (w.alloc (Obj.cells #[Value.string s.nm, Value.slice s.aB s.buses.length s.cB, Value.slice s.aL s.lines.length s.cL, Value.slice s.aS s.srcs.length s.cS, Value.slice aY nY s.cY] 27)).alloc (Obj.cells #[Value.slice none 0 0, Value.slice none 0 0] 31)) (by simp) ?_
     rw [← World.jk_jk, ← World.jk_alloc]
     exact ⟨World.ownsRow.mono HR.o.1 (by simp [World.size_jk]; omega), fun r hr => ⟨(HR.o.2 r hr).1.low Q.i, (HR.o.2 r hr).2⟩⟩
    exact ⟨World.ownsRow.mono h1 (by simp; omega), World.ownsRow.mono h2.1 (by simp; omega), fun r hr => ⟨(h2.2 r hr).1.low Q.i, (h2.2 r hr).2⟩⟩)
   obtain ⟨kF, eF⟩ : Q w (((((w.alloc (Obj.cells #[Value.string s.nm, Value.slice s.aB s.buses.length s.cB, Value.slice s.aL s.lines.length s.cL, Value.slice s.aS s.srcs.length s.cS, Value.slice aY nY s.cY] 27)).alloc (Obj.cells #[Value.slice aC nY cC, Value.slice aK nY cK] 31)).jk k0).alloc (Obj.cells #[(Value.slice aC nY cC), (Value.slice aK nY cK)] 31)).jk kk) := Q.i
   have HPOS : Hid (∀ W' : World, W'.heap.size = w.heap.size → PosAt (W'.jk kF) ⟨nmC s nY, rs, aC, cC, aK, cK⟩) := hh fun W' hW => by
    have h := HROW.o
    rw [eF] at h
    exact rowsAt_pos (W0 := W') (own_swap (W := w) hW.symm h.1) (RowsAt.swap (W := w) hW.symm h.2) HNL.o hrs (by omega) (by omega)
   have EF := hh eF
   clear eF HROW
   have HRet := hh HNL.o
   go_wp2_with fail
   refine bodyPost_ret (v := .agg #[Value.slice aC nY cC, Value.slice aK nY cK]) (by simp [results, Tryz.results29, go_sem]) rfl ⟨⟨nmC s nY, rs, aC, cC, aK, cK⟩, kF, by simp only [HRet.o, hrs], EF.o, HPOS.o, rfl, EL.o⟩
  obtain ⟨y, hy⟩ : ∃ y, s.bays[k]? = some y := ⟨_, List.getElem?_eq_getElem (by rw [EY.o]; exact hlt)⟩
  obtain ⟨g, o, rfl, og, hc⟩ := HAY.o k y hy
  obtain ⟨q0, q1, q2, q3, q4, q5, q6, q7, q8, q9, q10, q11⟩ := by12 hc
  have hlk := (HLK.o k y hy).1
  have hln := hlk.2
  have hl2 := HLN.o k y hy
  have HLA := hh (hlk.at_ (by omega))
  have EC1 : Hid (nmC s (k + 1) = nmC s k ++ [y.cl]) := hh (by
   unfold nmC
   rw [List.take_add_one, hy]
   simp)
  have EK1 : Hid (nmR s (k + 1) = nmR s k ++ [(s.lks k).map Lk.pos]) := hh (by
   unfold nmR
   rw [List.range_succ, List.map_append]
   rfl)
  generalize s.lks k = lk at hln HLA EK1 hl2
  obtain ⟨ln, eln⟩ : ∃ n, y.ln = n := ⟨_, rfl⟩
  rw [eln] at q6 hln
  have HLN2 := hh hln
  obtain ⟨la, ela⟩ : ∃ a, y.la = a := ⟨_, rfl⟩
  rw [ela] at q6 HLA
  have b1 : ln ≤ 2 := by omega
  have n0 : (0 : Int) ≤ (ln : Int) := by omega
  have k00 : (0 : Int) ≤ (k : Int) := by omega
  have k01 : (k : Int) < (nY : Int) := by omega
  generalize nmC s k = cl at HNL HT EC1
  clear hc hlk hy hln eln hl2 ela
  go_wp2_with fail
  go_loopw [6, 23] (fun v i wr => ∃ (j : Nat) (A : Option Addr) (c : Nat), v = .slice A j c ∧ i = .int .i64 j ∧ j ≤ ln ∧ Q ((((((w.alloc (Obj.cells #[Value.string s.nm, Value.slice s.aB s.buses.length s.cB, Value.slice s.aL s.lines.length s.cL, Value.slice s.aS s.srcs.length s.cS, Value.slice (some ⟨g, o, none⟩) nY s.cY] 27)).alloc (Obj.cells #[Value.slice none 0 0, Value.slice none 0 0] 31)).jk k0).alloc (Obj.cells #[(Value.slice aC k cC), (Value.slice aK k cK)] 31)).jk kk).alloc (Obj.cells #[Value.string y.nm, Value.int .i64 y.kd, Value.int .i64 y.of, Value.int .i64 y.en, Value.int .i64 y.zr, Value.int .i64 y.zx, Value.slice la ln y.lc, Value.bool y.cl, Value.int .i64 y.ct, Value.int .i64 y.vt, Value.int .i64 y.sa, Value.int .i64 y.tr] 91)) wr ∧ Hid (RowI ((((((w.alloc (Obj.cells #[Value.string s.nm, Value.slice s.aB s.buses.length s.cB, Value.slice s.aL s.lines.length s.cL, Value.slice s.aS s.srcs.length s.cS, Value.slice (some ⟨g, o, none⟩) nY s.cY] 27)).alloc (Obj.cells #[Value.slice none 0 0, Value.slice none 0 0] 31)).jk k0).alloc (Obj.cells #[(Value.slice aC k cC), (Value.slice aK k cK)] 31)).jk kk).alloc (Obj.cells #[Value.string y.nm, Value.int .i64 y.kd, Value.int .i64 y.of, Value.int .i64 y.en, Value.int .i64 y.zr, Value.int .i64 y.zx, Value.slice la ln y.lc, Value.bool y.cl, Value.int .i64 y.ct, Value.int .i64 y.vt, Value.int .i64 y.sa, Value.int .i64 y.tr] 91)) wr (.slice A j c) ((lk.take j).map Lk.pos))) (fun _ i _ => ln - (intOf i).toNat)
  case atStart => exact ⟨0, none, 0, rfl, rfl, Nat.zero_le _, (by repeat' (first | exact Q.refl _ | refine Q.alloc ?_ _ | refine Q.jk ?_ _ | refine Q.drew ?_)), hh (RowI.nil _ _)⟩
  case round =>
   obtain ⟨j, A, c, rfl, rfl, hj, ⟨k2, rfl⟩, HJ⟩ := hrel
   by_cases hlj : j < ln
   ·obtain ⟨ll, hll⟩ : ∃ ll, lk[j]? = some ll := ⟨_, List.getElem?_eq_getElem (by rw [HLN2.o]; exact hlj)⟩
    obtain ⟨g2, o2, rfl, og2, hc2⟩ := HLA.o
    obtain ⟨a1, a2⟩ := hc2.o j ll hll
    have ETJ : Hid ((lk.take (j + 1)).map Lk.pos = (lk.take j).map Lk.pos ++ [ll.pos]) := hh (by rw [List.take_add_one, hll]; simp)
    have LTJ : Hid (((lk.take j).map Lk.pos).length = j) := hh (by rw [List.length_map, List.length_take, HLN2.o]; omega)
    have j0 : (0 : Int) ≤ (j : Int) := by omega
    have j1 : (j : Int) < (ln : Int) := by omega
    generalize (lk.take j).map Lk.pos = pl at HJ ETJ LTJ
    clear hc2 hll
    go_wp2_with (first | (at_builtin; refine wpList_app_int rfl _ _ rfl ((((((w.alloc (Obj.cells #[Value.string s.nm, Value.slice s.aB s.buses.length s.cB, Value.slice s.aL s.lines.length s.cL, Value.slice s.aS s.srcs.length s.cS, Value.slice (some ⟨g, o, none⟩) nY s.cY] 27)).alloc (Obj.cells #[Value.slice none 0 0, Value.slice none 0 0] 31)).jk k0).alloc (Obj.cells #[(Value.slice aC k cC), (Value.slice aK k cK)] 31)).jk kk).alloc (Obj.cells #[Value.string y.nm, Value.int .i64 y.kd, Value.int .i64 y.of, Value.int .i64 y.en, Value.int .i64 y.zr, Value.int .i64 y.zx, Value.slice (some ⟨g2, o2, none⟩) ln y.lc, Value.bool y.cl, Value.int .i64 y.ct, Value.int .i64 y.vt, Value.int .i64 y.sa, Value.int .i64 y.tr] 91)) (.slice A j c) pl ll.pos _ rfl rfl (HJ.o.q Q.i) (by simp [go_sem, World.size_jk]) (by rw [LTJ.o]; omega) Q.i ?_; intro v' kx hri hgr; obtain ⟨A', c', rfl⟩ := own_slice' hri; rw [show (pl ++ [ll.pos]).length = j + 1 by rw [List.length_append, LTJ.o]; rfl] at hri ⊢) | fail)
    go_roundw
    case rel => exact ⟨j + 1, A', c', rfl, by go_num, by omega, Q.i, hh (by rw [ETJ.o]; exact hri)⟩
    case measure => simp [intOf] <;> omega
   obtain rfl : ln = j := by omega
   clear hlj hj
   have HJ1 : Hid (lk.take ln = lk) := hh (List.take_of_length_le (by rw [HLN2.o]; exact Nat.le_refl _))
   rw [HJ1.o] at HJ
   have L9 : Hid ((lk.map Lk.pos).length = ln) := hh (by rw [List.length_map, HLN2.o])
   generalize lk.map Lk.pos = pl at HJ L9 EK1
   clear HJ1
   have HT9 : Hid (RowT ((((w.alloc (Obj.cells #[Value.string s.nm, Value.slice s.aB s.buses.length s.cB, Value.slice s.aL s.lines.length s.cL, Value.slice s.aS s.srcs.length s.cS, Value.slice (some ⟨g, o, none⟩) nY s.cY] 27)).alloc (Obj.cells #[Value.slice none 0 0, Value.slice none 0 0] 31)).jk k0).alloc (Obj.cells #[(Value.slice aC k cC), (Value.slice aK k cK)] 31)) (((((((w.alloc (Obj.cells #[Value.string s.nm, Value.slice s.aB s.buses.length s.cB, Value.slice s.aL s.lines.length s.cL, Value.slice s.aS s.srcs.length s.cS, Value.slice (some ⟨g, o, none⟩) nY s.cY] 27)).alloc (Obj.cells #[Value.slice none 0 0, Value.slice none 0 0] 31)).jk k0).alloc (Obj.cells #[(Value.slice aC k cC), (Value.slice aK k cK)] 31)).jk kk).alloc (Obj.cells #[Value.string y.nm, Value.int .i64 y.kd, Value.int .i64 y.of, Value.int .i64 y.en, Value.int .i64 y.zr, Value.int .i64 y.zx, Value.slice la ln y.lc, Value.bool y.cl, Value.int .i64 y.ct, Value.int .i64 y.vt, Value.int .i64 y.sa, Value.int .i64 y.tr] 91)).jk k2) (Value.slice aC k cC) cl) := hh (ownsRow_q HT.o Q.i)
   have HR9 : Hid (RowsAt ((((w.alloc (Obj.cells #[Value.string s.nm, Value.slice s.aB s.buses.length s.cB, Value.slice s.aL s.lines.length s.cL, Value.slice s.aS s.srcs.length s.cS, Value.slice (some ⟨g, o, none⟩) nY s.cY] 27)).alloc (Obj.cells #[Value.slice none 0 0, Value.slice none 0 0] 31)).jk k0).alloc (Obj.cells #[(Value.slice aC k cC), (Value.slice aK k cK)] 31)) (((((((w.alloc (Obj.cells #[Value.string s.nm, Value.slice s.aB s.buses.length s.cB, Value.slice s.aL s.lines.length s.cL, Value.slice s.aS s.srcs.length s.cS, Value.slice (some ⟨g, o, none⟩) nY s.cY] 27)).alloc (Obj.cells #[Value.slice none 0 0, Value.slice none 0 0] 31)).jk k0).alloc (Obj.cells #[(Value.slice aC k cC), (Value.slice aK k cK)] 31)).jk kk).alloc (Obj.cells #[Value.string y.nm, Value.int .i64 y.kd, Value.int .i64 y.of, Value.int .i64 y.en, Value.int .i64 y.zr, Value.int .i64 y.zx, Value.slice la ln y.lc, Value.bool y.cl, Value.int .i64 y.ct, Value.int .i64 y.vt, Value.int .i64 y.sa, Value.int .i64 y.tr] 91)).jk k2) (Value.slice aK k cK) rs) := hh (HR.o.q Q.i)
   have HJ9 : Hid (RowI ((((w.alloc (Obj.cells #[Value.string s.nm, Value.slice s.aB s.buses.length s.cB, Value.slice s.aL s.lines.length s.cL, Value.slice s.aS s.srcs.length s.cS, Value.slice (some ⟨g, o, none⟩) nY s.cY] 27)).alloc (Obj.cells #[Value.slice none 0 0, Value.slice none 0 0] 31)).jk k0).alloc (Obj.cells #[(Value.slice aC k cC), (Value.slice aK k cK)] 31)) (((((((w.alloc (Obj.cells #[Value.string s.nm, Value.slice s.aB s.buses.length s.cB, Value.slice s.aL s.lines.length s.cL, Value.slice s.aS s.srcs.length s.cS, Value.slice (some ⟨g, o, none⟩) nY s.cY] 27)).alloc (Obj.cells #[Value.slice none 0 0, Value.slice none 0 0] 31)).jk k0).alloc (Obj.cells #[(Value.slice aC k cC), (Value.slice aK k cK)] 31)).jk kk).alloc (Obj.cells #[Value.string y.nm, Value.int .i64 y.kd, Value.int .i64 y.of, Value.int .i64 y.en, Value.int .i64 y.zr, Value.int .i64 y.zx, Value.slice la ln y.lc, Value.bool y.cl, Value.int .i64 y.ct, Value.int .i64 y.vt, Value.int .i64 y.sa, Value.int .i64 y.tr] 91)).jk k2) (.slice A ln c) pl) := hh (HJ.o.low Q.i)
   clear HT HR HJ HLA HAY
   go_wp2_with (first
    | (at_builtin; refine wpList_app_bool rfl _ _ rfl ((((w.alloc (Obj.cells #[Value.string s.nm, Value.slice s.aB s.buses.length s.cB, Value.slice s.aL s.lines.length s.cL, Value.slice s.aS s.srcs.length s.cS, Value.slice (some ⟨g, o, none⟩) nY s.cY] 27)).alloc (Obj.cells #[Value.slice none 0 0, Value.slice none 0 0] 31)).jk k0).alloc (Obj.cells #[(Value.slice aC k cC), (Value.slice aK k cK)] 31)) (Value.slice aC k cC) cl y.cl _ rfl rfl (ownsRow_q HT9.o Q.i) (by simp [go_sem, World.size_jk]) (by rw [HNL.o]; omega) Q.i ?_; intro A' c' kx hb hgr; rw [HNL.o] at hb hgr ⊢; have HT2 : Hid (RowT ((((w.alloc (Obj.cells #[Value.string s.nm, Value.slice s.aB s.buses.length s.cB, Value.slice s.aL s.lines.length s.cL, Value.slice s.aS s.srcs.length s.cS, Value.slice (some ⟨g, o, none⟩) nY s.cY] 27)).alloc (Obj.cells #[Value.slice none 0 0, Value.slice none 0 0] 31)).jk k0).alloc (Obj.cells #[(Value.slice A' (k + 1) c'), (Value.slice aK k cK)] 31)) (((((w.alloc (Obj.cells #[Value.string s.nm, Value.slice s.aB s.buses.length s.cB, Value.slice s.aL s.lines.length s.cL, Value.slice s.aS s.srcs.length s.cS, Value.slice (some ⟨g, o, none⟩) nY s.cY] 27)).alloc (Obj.cells #[Value.slice none 0 0, Value.slice none 0 0] 31)).jk k0).alloc (Obj.cells #[(Value.slice A' (k + 1) c'), (Value.slice aK k cK)] 31)).jk kx) (.slice A' (k + 1) c') (cl ++ [y.cl])) := hh (own_swap (by simp) hb); have HR2 : Hid (RowsAt ((((w.alloc (Obj.cells #[Value.string s.nm, Value.slice s.aB s.buses.length s.cB, Value.slice s.aL s.lines.length s.cL, Value.slice s.aS s.srcs.length s.cS, Value.slice (some ⟨g, o, none⟩) nY s.cY] 27)).alloc (Obj.cells #[Value.slice none 0 0, Value.slice none 0 0] 31)).jk k0).alloc (Obj.cells #[(Value.slice A' (k + 1) c'), (Value.slice aK k cK)] 31)) (((((w.alloc (Obj.cells #[Value.string s.nm, Value.slice s.aB s.buses.length s.cB, Value.slice s.aL s.lines.length s.cL, Value.slice s.aS s.srcs.length s.cS, Value.slice (some ⟨g, o, none⟩) nY s.cY] 27)).alloc (Obj.cells #[Value.slice none 0 0, Value.slice none 0 0] 31)).jk k0).alloc (Obj.cells #[(Value.slice A' (k + 1) c'), (Value.slice aK k cK)] 31)).jk kx) (Value.slice aK k cK) rs) := hh (RowsAt.swap (W := ((((w.alloc (Obj.cells #[Value.string s.nm, Value.slice s.aB s.buses.length s.cB, Value.slice s.aL s.lines.length s.cL, Value.slice s.aS s.srcs.length s.cS, Value.slice (some ⟨g, o, none⟩) nY s.cY] 27)).alloc (Obj.cells #[Value.slice none 0 0, Value.slice none 0 0] 31)).jk k0).alloc (Obj.cells #[(Value.slice aC k cC), (Value.slice aK k cK)] 31))) (by simp) ⟨(hgr _ _ _ _ _ (ownsRow_q HR9.o.1 Q.i) (own_apart2 (ownsRow_q HT9.o (Q.refl _)) (ownsRow_q HR9.o.1 Q.i) (by decide))).1, fun r hr => ⟨(hgr _ _ _ _ _ (ownsRow_q (HR9.o.2 r hr).1 Q.i) (own_apart2 (ownsRow_q HT9.o (Q.refl _)) (ownsRow_q (HR9.o.2 r hr).1 Q.i) (by decide))).1, (HR9.o.2 r hr).2⟩⟩); have HJ2 : Hid (RowI ((((w.alloc (Obj.cells #[Value.string s.nm, Value.slice s.aB s.buses.length s.cB, Value.slice s.aL s.lines.length s.cL, Value.slice s.aS s.srcs.length s.cS, Value.slice (some ⟨g, o, none⟩) nY s.cY] 27)).alloc (Obj.cells #[Value.slice none 0 0, Value.slice none 0 0] 31)).jk k0).alloc (Obj.cells #[(Value.slice A' (k + 1) c'), (Value.slice aK k cK)] 31)) (((((w.alloc (Obj.cells #[Value.string s.nm, Value.slice s.aB s.buses.length s.cB, Value.slice s.aL s.lines.length s.cL, Value.slice s.aS s.srcs.length s.cS, Value.slice (some ⟨g, o, none⟩) nY s.cY] 27)).alloc (Obj.cells #[Value.slice none 0 0, Value.slice none 0 0] 31)).jk k0).alloc (Obj.cells #[(Value.slice A' (k + 1) c'), (Value.slice aK k cK)] 31)).jk kx) (.slice A ln c) pl) := hh (own_swap (W := ((((w.alloc (Obj.cells #[Value.string s.nm, Value.slice s.aB s.buses.length s.cB, Value.slice s.aL s.lines.length s.cL, Value.slice s.aS s.srcs.length s.cS, Value.slice (some ⟨g, o, none⟩) nY s.cY] 27)).alloc (Obj.cells #[Value.slice none 0 0, Value.slice none 0 0] 31)).jk k0).alloc (Obj.cells #[(Value.slice aC k cC), (Value.slice aK k cK)] 31))) (by simp) (hgr _ _ _ _ _ (ownsRow_q HJ9.o Q.i) (own_apart2 (ownsRow_q HT9.o (Q.refl _)) (ownsRow_q HJ9.o Q.i) (by decide))).1); clear hb hgr)
    | (at_builtin; refine wpList_app_row2 rfl _ _ rfl ((((w.alloc (Obj.cells #[Value.string s.nm, Value.slice s.aB s.buses.length s.cB, Value.slice s.aL s.lines.length s.cL, Value.slice s.aS s.srcs.length s.cS, Value.slice (some ⟨g, o, none⟩) nY s.cY] 27)).alloc (Obj.cells #[Value.slice none 0 0, Value.slice none 0 0] 31)).jk k0).alloc (Obj.cells #[(Value.slice A' (k + 1) c'), (Value.slice aK k cK)] 31)) (Value.slice aK k cK) rs ⟨A, c, pl⟩ _ rfl rfl (HR2.o.q Q.i) (by unfold roC; rw [L9.o]; exact HJ2.o.q Q.i) (by rw [L9.o]; omega) (by unfold roC; rw [L9.o]; simp [go_sem, World.size_jk]) (by omega) Q.i ?_; intro A2 c2 ky hr hgr; rw [hrs] at hr hgr ⊢; have HT3 : Hid (RowT ((((w.alloc (Obj.cells #[Value.string s.nm, Value.slice s.aB s.buses.length s.cB, Value.slice s.aL s.lines.length s.cL, Value.slice s.aS s.srcs.length s.cS, Value.slice (some ⟨g, o, none⟩) nY s.cY] 27)).alloc (Obj.cells #[Value.slice none 0 0, Value.slice none 0 0] 31)).jk k0).alloc (Obj.cells #[(Value.slice A' (k + 1) c'), (Value.slice A2 (k + 1) c2)] 31)) (((((w.alloc (Obj.cells #[Value.string s.nm, Value.slice s.aB s.buses.length s.cB, Value.slice s.aL s.lines.length s.cL, Value.slice s.aS s.srcs.length s.cS, Value.slice (some ⟨g, o, none⟩) nY s.cY] 27)).alloc (Obj.cells #[Value.slice none 0 0, Value.slice none 0 0] 31)).jk k0).alloc (Obj.cells #[(Value.slice A' (k + 1) c'), (Value.slice A2 (k + 1) c2)] 31)).jk ky) (.slice A' (k + 1) c') (cl ++ [y.cl])) := hh (own_swap (W := ((((w.alloc (Obj.cells #[Value.string s.nm, Value.slice s.aB s.buses.length s.cB, Value.slice s.aL s.lines.length s.cL, Value.slice s.aS s.srcs.length s.cS, Value.slice (some ⟨g, o, none⟩) nY s.cY] 27)).alloc (Obj.cells #[Value.slice none 0 0, Value.slice none 0 0] 31)).jk k0).alloc (Obj.cells #[(Value.slice A' (k + 1) c'), (Value.slice aK k cK)] 31))) (by simp) (hgr _ _ _ _ _ (ownsRow_q HT2.o Q.i) (own_apart2 (ownsRow_q HR2.o.1 (Q.refl _)) (ownsRow_q HT2.o Q.i) (by decide))).1); have HR3 : Hid (RowsAt ((((w.alloc (Obj.cells #[Value.string s.nm, Value.slice s.aB s.buses.length s.cB, Value.slice s.aL s.lines.length s.cL, Value.slice s.aS s.srcs.length s.cS, Value.slice (some ⟨g, o, none⟩) nY s.cY] 27)).alloc (Obj.cells #[Value.slice none 0 0, Value.slice none 0 0] 31)).jk k0).alloc (Obj.cells #[(Value.slice A' (k + 1) c'), (Value.slice A2 (k + 1) c2)] 31)) (((((w.alloc (Obj.cells #[Value.string s.nm, Value.slice s.aB s.buses.length s.cB, Value.slice s.aL s.lines.length s.cL, Value.slice s.aS s.srcs.length s.cS, Value.slice (some ⟨g, o, none⟩) nY s.cY] 27)).alloc (Obj.cells #[Value.slice none 0 0, Value.slice none 0 0] 31)).jk k0).alloc (Obj.cells #[(Value.slice A' (k + 1) c'), (Value.slice A2 (k + 1) c2)] 31)).jk ky) (.slice A2 (k + 1) c2) (rs ++ [⟨A, c, pl⟩])) := hh (RowsAt.swap (W := ((((w.alloc (Obj.cells #[Value.string s.nm, Value.slice s.aB s.buses.length s.cB, Value.slice s.aL s.lines.length s.cL, Value.slice s.aS s.srcs.length s.cS, Value.slice (some ⟨g, o, none⟩) nY s.cY] 27)).alloc (Obj.cells #[Value.slice none 0 0, Value.slice none 0 0] 31)).jk k0).alloc (Obj.cells #[(Value.slice A' (k + 1) c'), (Value.slice aK k cK)] 31))) (by simp) hr); clear hr hgr)
    | fail)
   go_roundw
   case rel => exact ⟨k + 1, A', c', A2, c2, rs ++ [⟨A, c, pl⟩], by go_num, by omega, Q.i, by rw [List.length_append, hrs]; rfl, hh (by rw [EC1.o, List.length_append, HNL.o]; rfl), hh (by rw [EC1.o]; exact HT3.o), HR3, hh (by rw [List.map_append, EL.o, EK1.o]; rfl)⟩
   case measure => simp [intOf] <;> omega
end Go.Proofs.YtcjflafjmdfanaaGreatDoor
