
/- What Normal returns for a station that has no error: the normal position of its switches. -/
import Derived.Test.YtcjflafjmdfanaaGreatDoorBr09
set_option linter.unusedSimpArgs false
set_option linter.unusedVariables false
set_option linter.unusedVariables false
set_option linter.unusedSimpArgs false
namespace Go.Sub
open Go
/-- The normal positions of the switches of the first n bays. -/
def nmC (s : Sta) (n : Nat) : List Bool := (s.bays.take n).map Byr.cl
def nmR (s : Sta) (n : Nat) : List (List Int) := (List.range n).map fun k => (s.lks k).map Lk.pos
end Go.Sub
namespace Go.Proofs.YtcjflafjmdfanaaGreatDoor
open Go.RowKit Go.Sub
attribute [local go_sem ↓] Go.wp_at_zero Go.wp_at_succ
/-- A position that a call has made, wherever the blocks before it came from. -/
def RetN (cl : List Bool) (ls : List (List Int)) (w : World) (e : Ending) (w' : World) : Prop := ∃ (p : Pos) (k : Jk), e = .returned (.agg #[Value.slice p.aC p.closed.length p.cC, Value.slice p.aK p.rows.length p.cK]) ∧ w' = w.jk k ∧ (∀ W' : World, W'.heap.size = w.heap.size → PosAt (W'.jk k) p) ∧ p.closed = cl ∧ p.rows.map Ro.l = ls
/-- Truth values in a block of their own. -/
def RowT (W0 w : World) (v : Value) (bl : List Bool) : Prop := w.ownsRow W0.heap.size 4 1 v bl.length (bl.map Value.bool)
theorem wpList_app_bool {ops : Array Oper} {rest : List Oper} {o : Oper} {a : Act} {w : World} {Q' : Exit → Act → World → Prop} (hgd : o.guard = none) (s x : Operand)
  (ho : o.op = .call { callee := .builtin .append, args := #[s, x], argTypes := #[28, 28] }) (W0 : World) (v : Value) (bl : List Bool) (b : Bool) (g : Nat)
  (hs : a.eval s = v) (hx : a.eval x = .slice (some ⟨g, 0, none⟩) 1 1) (hown : RowT W0 w v bl) (hg : w.cell? ⟨g, 0, none⟩ = some (.bool b)) (hlen : bl.length < 1000) (hQ : Q W0 w)
  (h : ∀ A' c' kk, RowT W0 (W0.jk kk) (.slice A' (bl.length + 1) c') (bl ++ [b]) → Grown W0.heap.size v (.slice A' (bl.length + 1) c') w (W0.jk kk) → wpList Tryz.prog ops Q' rest (a.put o.dst (.slice A' (bl.length + 1) c')) (W0.jk kk)) : wpList Tryz.prog ops Q' (o :: rest) a w := by
 obtain ⟨i, hi, hz, hs1, hb⟩ := infoBool
 refine wpList_app hgd s x 28 ho W0 4 i (.bool false) 1 1 Tryz.underlying28 hi hz hs1 hb rfl (by decide) v _ _ hs hown ⟨g, 0, none⟩ 1 1 [.bool b] hx rfl ?_ ?_ (by unfold maxLen; omega) (by omega) hQ ?_
 ·intro j u hj
  match j, hj with
  | 0, hj => simp at hj; subst hj; simpa [Addr.add] using hg
 ·intro u hu
  rw [List.mem_singleton] at hu
  subst hu
  rfl
 ·intro v' kk h1 h2
  obtain ⟨A', c', rfl⟩ := own_slice' h1
  exact h A' c' kk (by unfold RowT; rw [List.length_append, List.map_append]; exact h1) h2
theorem wpList_app_row2 {ops : Array Oper} {rest : List Oper} {o : Oper} {a : Act} {w : World} {Q' : Exit → Act → World → Prop} (hgd : o.guard = none) (s x : Operand)
  (ho : o.op = .call { callee := .builtin .append, args := #[s, x], argTypes := #[29, 29] }) (W0 : World) (v : Value) (rs : List Ro) (r : Ro) (g : Nat)
  (hs : a.eval s = v) (hx : a.eval x = .slice (some ⟨g, 0, none⟩) 1 1) (hown : RowsAt W0 w v rs) (hr : RowI W0 w (roC r) r.l) (hl : r.l.length < 1000) (hg : w.cell? ⟨g, 0, none⟩ = some (roC r)) (hlen : rs.length < 1000) (hQ : Q W0 w)
  (h : ∀ A' c' kk, RowsAt W0 (W0.jk kk) (.slice A' (rs.length + 1) c') (rs ++ [r]) → Grown W0.heap.size v (.slice A' (rs.length + 1) c') w (W0.jk kk) → wpList Tryz.prog ops Q' rest (a.put o.dst (.slice A' (rs.length + 1) c')) (W0.jk kk)) : wpList Tryz.prog ops Q' (o :: rest) a w := by
 obtain ⟨i, hi, hz, hs1, hb⟩ := infoRow
 refine wpList_app hgd s x 29 ho W0 61 i (.slice none 0 0) 1 24 Tryz.underlying29 hi hz hs1 hb rfl (by decide) v _ _ hs hown.1 ⟨g, 0, none⟩ 1 1 [roC r] hx rfl ?_ ?_ (by unfold maxLen; omega) (by omega) hQ ?_
 ·intro j u hj
  match j, hj with
  | 0, hj => simp at hj; subst hj; simpa [Addr.add] using hg
 ·intro u hu
  rw [List.mem_singleton] at hu
  subst hu
  rfl
 ·intro v' kk h1 h2
  obtain ⟨A', c', rfl⟩ := own_slice' h1
  exact h A' c' kk (hown.snoc hr hl h1 h2) h2
set_option maxRecDepth 100000 in
set_option maxHeartbeats 16000000 in
theorem normal_c (s : Sta) (w : World) (hs : StAt w s) (h1 : stE s = 0) :
    Calls Tryz.prog 29 #[.agg #[Value.string s.nm, Value.slice s.aB s.buses.length s.cB, Value.slice s.aL s.lines.length s.cL, Value.slice s.aS s.srcs.length s.cS, Value.slice s.aY s.bays.length s.cY]] w (RetN (nmC s s.bays.length) (nmR s s.bays.length) w) := by
  have SC := Lib.hid fun (w' : World) (hq : Q w w') => stcheck_c s w' (hs.q hq)
  simp only [h1] at SC
  have HAY := Lib.hid fun k y (hy : s.bays[k]? = some y) => hs.bayAt hy
  have HLK := Lib.hid hs.lk
  have HLN : Hid (∀ k y, s.bays[k]? = some y → (s.lks k).length = 1 ∨ (s.lks k).length = 2) := Lib.hid fun k y hy => (lkE_zero (stE_bay h1 k y hy).lk).1
  have hY := (stE_parts h1).1
  unfold stBad at hY
  obtain ⟨aY, eaY⟩ : ∃ a, s.aY = a := ⟨_, rfl⟩
  obtain ⟨nY, eY⟩ : ∃ n, s.bays.length = n := ⟨_, rfl⟩
  rw [eaY] at HAY
  rw [eaY, eY] at SC
  rw [eaY, eY]
  have y0 : nY ≤ 16 := by omega
  have EY := Lib.hid eY
  clear hs h1 hY eaY eY
  go_enter Tryz.func29, Tryz.ntmps29
  go_wp2_with (first
    | (go_at_call 30; (with_reducible refine (SC.out _ (by repeat' (first | exact Q.refl _ | refine Q.alloc ?_ _ | refine Q.jk ?_ _ | refine Q.drew ?_))).mono ?_); rintro e w' ⟨rfl, k0, rfl⟩)
    | fail)
  go_loopw [16] (fun i wr => ∃ (k : Nat) (aC : Option Addr) (cC : Nat) (aK : Option Addr) (cK : Nat) (rs : List Ro), i = .int .i64 k ∧ k ≤ nY ∧ Q ((((w.alloc (Obj.cells #[Value.string s.nm, Value.slice s.aB s.buses.length s.cB, Value.slice s.aL s.lines.length s.cL, Value.slice s.aS s.srcs.length s.cS, Value.slice aY nY s.cY] 27)).alloc (Obj.cells #[Value.slice none 0 0, Value.slice none 0 0] 31)).jk k0).alloc (Obj.cells #[(Value.slice aC k cC), (Value.slice aK k cK)] 31)) wr ∧ rs.length = k ∧ Hid ((nmC s k).length = k) ∧ Hid (RowT ((((w.alloc (Obj.cells #[Value.string s.nm, Value.slice s.aB s.buses.length s.cB, Value.slice s.aL s.lines.length s.cL, Value.slice s.aS s.srcs.length s.cS, Value.slice aY nY s.cY] 27)).alloc (Obj.cells #[Value.slice none 0 0, Value.slice none 0 0] 31)).jk k0).alloc (Obj.cells #[(Value.slice aC k cC), (Value.slice aK k cK)] 31)) wr (Value.slice aC k cC) (nmC s k)) ∧ Hid (RowsAt ((((w.alloc (Obj.cells #[Value.string s.nm, Value.slice s.aB s.buses.length s.cB, Value.slice s.aL s.lines.length s.cL, Value.slice s.aS s.srcs.length s.cS, Value.slice aY nY s.cY] 27)).alloc (Obj.cells #[Value.slice none 0 0, Value.slice none 0 0] 31)).jk k0).alloc (Obj.cells #[(Value.slice aC k cC), (Value.slice aK k cK)] 31)) wr (Value.slice aK k cK) rs) ∧ Hid (rs.map Ro.l = nmR s k)) (fun i _ => nY - (intOf i).toNat)
  case atStart => exact ⟨0, none, 0, none, 0, [], rfl, Nat.zero_le _, Q.refl _, rfl, Lib.hid rfl, Lib.hid (World.ownsRow_nil _ _ _ _), Lib.hid ⟨World.ownsRow_nil _ _ _ _, fun r hr => by cases hr⟩, Lib.hid rfl⟩
  case round =>
    obtain ⟨k, aC, cC, aK, cK, rs, rfl, hk, ⟨kk, rfl⟩, hrs, HNL, HT, HR, EL⟩ := hrel
    by_cases hlt : k < nY
    · obtain ⟨y, hy⟩ : ∃ y, s.bays[k]? = some y := ⟨_, List.getElem?_eq_getElem (by rw [EY.out]; exact hlt)⟩
      obtain ⟨g, o, rfl, og, hc⟩ := HAY.out k y hy
      have q0 : w.cell? ⟨g, o + k * 12, none⟩ = some (Value.string y.nm) := hc.out 0 _ rfl
      have q1 : w.cell? ⟨g, o + k * 12 + 1, none⟩ = some (Value.int .i64 y.kd) := hc.out 1 _ rfl
      have q2 : w.cell? ⟨g, o + k * 12 + 2, none⟩ = some (Value.int .i64 y.of) := hc.out 2 _ rfl
      have q3 : w.cell? ⟨g, o + k * 12 + 3, none⟩ = some (Value.int .i64 y.en) := hc.out 3 _ rfl
      have q4 : w.cell? ⟨g, o + k * 12 + 4, none⟩ = some (Value.int .i64 y.zr) := hc.out 4 _ rfl
      have q5 : w.cell? ⟨g, o + k * 12 + 5, none⟩ = some (Value.int .i64 y.zx) := hc.out 5 _ rfl
      have q6 : w.cell? ⟨g, o + k * 12 + 6, none⟩ = some (Value.slice y.la y.ln y.lc) := hc.out 6 _ rfl
      have q7 : w.cell? ⟨g, o + k * 12 + 7, none⟩ = some (Value.bool y.cl) := hc.out 7 _ rfl
      have q8 : w.cell? ⟨g, o + k * 12 + 8, none⟩ = some (Value.int .i64 y.ct) := hc.out 8 _ rfl
      have q9 : w.cell? ⟨g, o + k * 12 + 9, none⟩ = some (Value.int .i64 y.vt) := hc.out 9 _ rfl
      have q10 : w.cell? ⟨g, o + k * 12 + 10, none⟩ = some (Value.int .i64 y.sa) := hc.out 10 _ rfl
      have q11 : w.cell? ⟨g, o + k * 12 + 11, none⟩ = some (Value.int .i64 y.tr) := hc.out 11 _ rfl

      have hlk := (HLK.out k y hy).1
      have hln := hlk.2
      have hl2 := HLN.out k y hy
      have HLA := Lib.hid (hlk.at_ (by omega))
      have EC1 : Hid (nmC s (k + 1) = nmC s k ++ [y.cl]) := Lib.hid (by
        unfold nmC
        rw [List.take_add_one, hy]
        simp)
      have EK1 : Hid (nmR s (k + 1) = nmR s k ++ [(s.lks k).map Lk.pos]) := Lib.hid (by
        unfold nmR
        rw [List.range_succ, List.map_append]
        rfl)
      generalize s.lks k = lk at hln HLA EK1 hl2
      obtain ⟨ln, eln⟩ : ∃ n, y.ln = n := ⟨_, rfl⟩
      rw [eln] at q6 hln
      have HLN2 := Lib.hid hln
      obtain ⟨la, ela⟩ : ∃ a, y.la = a := ⟨_, rfl⟩
      rw [ela] at q6 HLA
      have b1 : ln ≤ 2 := by omega
      have n0 : (0 : Int) ≤ (ln : Int) := by omega
      have k00 : (0 : Int) ≤ (k : Int) := by omega
      have k01 : (k : Int) < (nY : Int) := by omega
      generalize nmC s k = cl at HNL HT EC1
      clear hc hlk hy hln eln hl2 ela
      go_wp2_with fail
      go_loopw [6, 23] (fun v i wr => ∃ (j : Nat) (A : Option Addr) (c : Nat), v = .slice A j c ∧ i = .int .i64 j ∧ j ≤ ln ∧ Q ((((((w.alloc (Obj.cells #[Value.string s.nm, Value.slice s.aB s.buses.length s.cB, Value.slice s.aL s.lines.length s.cL, Value.slice s.aS s.srcs.length s.cS, Value.slice (some ⟨g, o, none⟩) nY s.cY] 27)).alloc (Obj.cells #[Value.slice none 0 0, Value.slice none 0 0] 31)).jk k0).alloc (Obj.cells #[(Value.slice aC k cC), (Value.slice aK k cK)] 31)).jk kk).alloc (Obj.cells #[Value.string y.nm, Value.int .i64 y.kd, Value.int .i64 y.of, Value.int .i64 y.en, Value.int .i64 y.zr, Value.int .i64 y.zx, Value.slice la ln y.lc, Value.bool y.cl, Value.int .i64 y.ct, Value.int .i64 y.vt, Value.int .i64 y.sa, Value.int .i64 y.tr] 91)) wr ∧ Hid (RowI ((((((w.alloc (Obj.cells #[Value.string s.nm, Value.slice s.aB s.buses.length s.cB, Value.slice s.aL s.lines.length s.cL, Value.slice s.aS s.srcs.length s.cS, Value.slice (some ⟨g, o, none⟩) nY s.cY] 27)).alloc (Obj.cells #[Value.slice none 0 0, Value.slice none 0 0] 31)).jk k0).alloc (Obj.cells #[(Value.slice aC k cC), (Value.slice aK k cK)] 31)).jk kk).alloc (Obj.cells #[Value.string y.nm, Value.int .i64 y.kd, Value.int .i64 y.of, Value.int .i64 y.en, Value.int .i64 y.zr, Value.int .i64 y.zx, Value.slice la ln y.lc, Value.bool y.cl, Value.int .i64 y.ct, Value.int .i64 y.vt, Value.int .i64 y.sa, Value.int .i64 y.tr] 91)) wr (.slice A j c) ((lk.take j).map Lk.pos))) (fun _ i _ => ln - (intOf i).toNat)
      case atStart => exact ⟨0, none, 0, rfl, rfl, Nat.zero_le _, (by repeat' (first | exact Q.refl _ | refine Q.alloc ?_ _ | refine Q.jk ?_ _ | refine Q.drew ?_)), Lib.hid (RowI.nil _ _)⟩
      case round =>
        obtain ⟨j, A, c, rfl, rfl, hj, ⟨k2, rfl⟩, HJ⟩ := hrel
        by_cases hlj : j < ln
        · obtain ⟨ll, hll⟩ : ∃ ll, lk[j]? = some ll := ⟨_, List.getElem?_eq_getElem (by rw [HLN2.out]; exact hlj)⟩
          obtain ⟨g2, o2, rfl, og2, hc2⟩ := HLA.out
          obtain ⟨a1, a2⟩ := hc2.out j ll hll
          have ETJ : Hid ((lk.take (j + 1)).map Lk.pos = (lk.take j).map Lk.pos ++ [ll.pos]) := Lib.hid (by rw [List.take_add_one, hll]; simp)
          have LTJ : Hid (((lk.take j).map Lk.pos).length = j) := Lib.hid (by rw [List.length_map, List.length_take, HLN2.out]; omega)
          have j0 : (0 : Int) ≤ (j : Int) := by omega
          have j1 : (j : Int) < (ln : Int) := by omega
          generalize (lk.take j).map Lk.pos = pl at HJ ETJ LTJ
          clear hc2 hll
          go_wp2_with (first
            | (at_builtin; refine wpList_app_int rfl _ _ rfl ((((((w.alloc (Obj.cells #[Value.string s.nm, Value.slice s.aB s.buses.length s.cB, Value.slice s.aL s.lines.length s.cL, Value.slice s.aS s.srcs.length s.cS, Value.slice (some ⟨g, o, none⟩) nY s.cY] 27)).alloc (Obj.cells #[Value.slice none 0 0, Value.slice none 0 0] 31)).jk k0).alloc (Obj.cells #[(Value.slice aC k cC), (Value.slice aK k cK)] 31)).jk kk).alloc (Obj.cells #[Value.string y.nm, Value.int .i64 y.kd, Value.int .i64 y.of, Value.int .i64 y.en, Value.int .i64 y.zr, Value.int .i64 y.zx, Value.slice (some ⟨g2, o2, none⟩) ln y.lc, Value.bool y.cl, Value.int .i64 y.ct, Value.int .i64 y.vt, Value.int .i64 y.sa, Value.int .i64 y.tr] 91)) (.slice A j c) pl ll.pos _ rfl rfl (HJ.out.q (by repeat' (first | exact Q.refl _ | refine Q.alloc ?_ _ | refine Q.jk ?_ _ | refine Q.drew ?_))) (by simp [go_sem, World.size_jk]) (by rw [LTJ.out]; omega) (by repeat' (first | exact Q.refl _ | refine Q.alloc ?_ _ | refine Q.jk ?_ _ | refine Q.drew ?_)) ?_; intro v' kx hri hgr; obtain ⟨A', c', rfl⟩ := own_slice' hri; rw [show (pl ++ [ll.pos]).length = j + 1 by rw [List.length_append, LTJ.out]; rfl] at hri ⊢)
            | fail)
          go_roundw
          case rel => exact ⟨j + 1, A', c', rfl, by go_num, by omega, (by repeat' (first | exact Q.refl _ | refine Q.alloc ?_ _ | refine Q.jk ?_ _ | refine Q.drew ?_)), Lib.hid (by rw [ETJ.out]; exact hri)⟩
          case measure => simp [intOf] <;> omega
        · obtain rfl : ln = j := by omega
          clear hlj hj
          have HJ1 : Hid (lk.take ln = lk) := Lib.hid (List.take_of_length_le (by rw [HLN2.out]; exact Nat.le_refl _))
          rw [HJ1.out] at HJ
          have L9 : Hid ((lk.map Lk.pos).length = ln) := Lib.hid (by rw [List.length_map, HLN2.out])
          generalize lk.map Lk.pos = pl at HJ L9 EK1
          clear HJ1
          have HT9 : Hid (RowT ((((w.alloc (Obj.cells #[Value.string s.nm, Value.slice s.aB s.buses.length s.cB, Value.slice s.aL s.lines.length s.cL, Value.slice s.aS s.srcs.length s.cS, Value.slice (some ⟨g, o, none⟩) nY s.cY] 27)).alloc (Obj.cells #[Value.slice none 0 0, Value.slice none 0 0] 31)).jk k0).alloc (Obj.cells #[(Value.slice aC k cC), (Value.slice aK k cK)] 31)) (((((((w.alloc (Obj.cells #[Value.string s.nm, Value.slice s.aB s.buses.length s.cB, Value.slice s.aL s.lines.length s.cL, Value.slice s.aS s.srcs.length s.cS, Value.slice (some ⟨g, o, none⟩) nY s.cY] 27)).alloc (Obj.cells #[Value.slice none 0 0, Value.slice none 0 0] 31)).jk k0).alloc (Obj.cells #[(Value.slice aC k cC), (Value.slice aK k cK)] 31)).jk kk).alloc (Obj.cells #[Value.string y.nm, Value.int .i64 y.kd, Value.int .i64 y.of, Value.int .i64 y.en, Value.int .i64 y.zr, Value.int .i64 y.zx, Value.slice la ln y.lc, Value.bool y.cl, Value.int .i64 y.ct, Value.int .i64 y.vt, Value.int .i64 y.sa, Value.int .i64 y.tr] 91)).jk k2) (Value.slice aC k cC) cl) := Lib.hid (ownsRow_q HT.out (by repeat' (first | exact Q.refl _ | refine Q.alloc ?_ _ | refine Q.jk ?_ _ | refine Q.drew ?_)))
          have HR9 : Hid (RowsAt ((((w.alloc (Obj.cells #[Value.string s.nm, Value.slice s.aB s.buses.length s.cB, Value.slice s.aL s.lines.length s.cL, Value.slice s.aS s.srcs.length s.cS, Value.slice (some ⟨g, o, none⟩) nY s.cY] 27)).alloc (Obj.cells #[Value.slice none 0 0, Value.slice none 0 0] 31)).jk k0).alloc (Obj.cells #[(Value.slice aC k cC), (Value.slice aK k cK)] 31)) (((((((w.alloc (Obj.cells #[Value.string s.nm, Value.slice s.aB s.buses.length s.cB, Value.slice s.aL s.lines.length s.cL, Value.slice s.aS s.srcs.length s.cS, Value.slice (some ⟨g, o, none⟩) nY s.cY] 27)).alloc (Obj.cells #[Value.slice none 0 0, Value.slice none 0 0] 31)).jk k0).alloc (Obj.cells #[(Value.slice aC k cC), (Value.slice aK k cK)] 31)).jk kk).alloc (Obj.cells #[Value.string y.nm, Value.int .i64 y.kd, Value.int .i64 y.of, Value.int .i64 y.en, Value.int .i64 y.zr, Value.int .i64 y.zx, Value.slice la ln y.lc, Value.bool y.cl, Value.int .i64 y.ct, Value.int .i64 y.vt, Value.int .i64 y.sa, Value.int .i64 y.tr] 91)).jk k2) (Value.slice aK k cK) rs) := Lib.hid (HR.out.q (by repeat' (first | exact Q.refl _ | refine Q.alloc ?_ _ | refine Q.jk ?_ _ | refine Q.drew ?_)))
          have HJ9 : Hid (RowI ((((w.alloc (Obj.cells #[Value.string s.nm, Value.slice s.aB s.buses.length s.cB, Value.slice s.aL s.lines.length s.cL, Value.slice s.aS s.srcs.length s.cS, Value.slice (some ⟨g, o, none⟩) nY s.cY] 27)).alloc (Obj.cells #[Value.slice none 0 0, Value.slice none 0 0] 31)).jk k0).alloc (Obj.cells #[(Value.slice aC k cC), (Value.slice aK k cK)] 31)) (((((((w.alloc (Obj.cells #[Value.string s.nm, Value.slice s.aB s.buses.length s.cB, Value.slice s.aL s.lines.length s.cL, Value.slice s.aS s.srcs.length s.cS, Value.slice (some ⟨g, o, none⟩) nY s.cY] 27)).alloc (Obj.cells #[Value.slice none 0 0, Value.slice none 0 0] 31)).jk k0).alloc (Obj.cells #[(Value.slice aC k cC), (Value.slice aK k cK)] 31)).jk kk).alloc (Obj.cells #[Value.string y.nm, Value.int .i64 y.kd, Value.int .i64 y.of, Value.int .i64 y.en, Value.int .i64 y.zr, Value.int .i64 y.zx, Value.slice la ln y.lc, Value.bool y.cl, Value.int .i64 y.ct, Value.int .i64 y.vt, Value.int .i64 y.sa, Value.int .i64 y.tr] 91)).jk k2) (.slice A ln c) pl) := Lib.hid (HJ.out.low (by repeat' (first | exact Q.refl _ | refine Q.alloc ?_ _ | refine Q.jk ?_ _ | refine Q.drew ?_)))
          clear HT HR HJ HLA HAY
          go_wp2_with (first
            | (at_builtin; refine wpList_app_bool rfl _ _ rfl ((((w.alloc (Obj.cells #[Value.string s.nm, Value.slice s.aB s.buses.length s.cB, Value.slice s.aL s.lines.length s.cL, Value.slice s.aS s.srcs.length s.cS, Value.slice (some ⟨g, o, none⟩) nY s.cY] 27)).alloc (Obj.cells #[Value.slice none 0 0, Value.slice none 0 0] 31)).jk k0).alloc (Obj.cells #[(Value.slice aC k cC), (Value.slice aK k cK)] 31)) (Value.slice aC k cC) cl y.cl _ rfl rfl (ownsRow_q HT9.out (by repeat' (first | exact Q.refl _ | refine Q.alloc ?_ _ | refine Q.jk ?_ _ | refine Q.drew ?_))) (by simp [go_sem, World.size_jk]) (by rw [HNL.out]; omega) (by repeat' (first | exact Q.refl _ | refine Q.alloc ?_ _ | refine Q.jk ?_ _ | refine Q.drew ?_)) ?_; intro A' c' kx hb hgr; rw [HNL.out] at hb hgr ⊢
               have HT2 : Hid (RowT ((((w.alloc (Obj.cells #[Value.string s.nm, Value.slice s.aB s.buses.length s.cB, Value.slice s.aL s.lines.length s.cL, Value.slice s.aS s.srcs.length s.cS, Value.slice (some ⟨g, o, none⟩) nY s.cY] 27)).alloc (Obj.cells #[Value.slice none 0 0, Value.slice none 0 0] 31)).jk k0).alloc (Obj.cells #[(Value.slice A' (k + 1) c'), (Value.slice aK k cK)] 31)) (((((w.alloc (Obj.cells #[Value.string s.nm, Value.slice s.aB s.buses.length s.cB, Value.slice s.aL s.lines.length s.cL, Value.slice s.aS s.srcs.length s.cS, Value.slice (some ⟨g, o, none⟩) nY s.cY] 27)).alloc (Obj.cells #[Value.slice none 0 0, Value.slice none 0 0] 31)).jk k0).alloc (Obj.cells #[(Value.slice A' (k + 1) c'), (Value.slice aK k cK)] 31)).jk kx) (.slice A' (k + 1) c') (cl ++ [y.cl])) := Lib.hid (own_swap (by simp) hb)
               have HR2 : Hid (RowsAt ((((w.alloc (Obj.cells #[Value.string s.nm, Value.slice s.aB s.buses.length s.cB, Value.slice s.aL s.lines.length s.cL, Value.slice s.aS s.srcs.length s.cS, Value.slice (some ⟨g, o, none⟩) nY s.cY] 27)).alloc (Obj.cells #[Value.slice none 0 0, Value.slice none 0 0] 31)).jk k0).alloc (Obj.cells #[(Value.slice A' (k + 1) c'), (Value.slice aK k cK)] 31)) (((((w.alloc (Obj.cells #[Value.string s.nm, Value.slice s.aB s.buses.length s.cB, Value.slice s.aL s.lines.length s.cL, Value.slice s.aS s.srcs.length s.cS, Value.slice (some ⟨g, o, none⟩) nY s.cY] 27)).alloc (Obj.cells #[Value.slice none 0 0, Value.slice none 0 0] 31)).jk k0).alloc (Obj.cells #[(Value.slice A' (k + 1) c'), (Value.slice aK k cK)] 31)).jk kx) (Value.slice aK k cK) rs) := Lib.hid (RowsAt.swap (W := ((((w.alloc (Obj.cells #[Value.string s.nm, Value.slice s.aB s.buses.length s.cB, Value.slice s.aL s.lines.length s.cL, Value.slice s.aS s.srcs.length s.cS, Value.slice (some ⟨g, o, none⟩) nY s.cY] 27)).alloc (Obj.cells #[Value.slice none 0 0, Value.slice none 0 0] 31)).jk k0).alloc (Obj.cells #[(Value.slice aC k cC), (Value.slice aK k cK)] 31))) (by simp) ⟨(hgr _ _ _ _ _ (ownsRow_q HR9.out.1 (by repeat' (first | exact Q.refl _ | refine Q.alloc ?_ _ | refine Q.jk ?_ _ | refine Q.drew ?_))) (own_apart2 (ownsRow_q HT9.out (by repeat' (first | exact Q.refl _ | refine Q.alloc ?_ _ | refine Q.jk ?_ _ | refine Q.drew ?_))) (ownsRow_q HR9.out.1 (by repeat' (first | exact Q.refl _ | refine Q.alloc ?_ _ | refine Q.jk ?_ _ | refine Q.drew ?_))) (by decide))).1, fun r hr => ⟨(hgr _ _ _ _ _ (ownsRow_q (HR9.out.2 r hr).1 (by repeat' (first | exact Q.refl _ | refine Q.alloc ?_ _ | refine Q.jk ?_ _ | refine Q.drew ?_))) (own_apart2 (ownsRow_q HT9.out (by repeat' (first | exact Q.refl _ | refine Q.alloc ?_ _ | refine Q.jk ?_ _ | refine Q.drew ?_))) (ownsRow_q (HR9.out.2 r hr).1 (by repeat' (first | exact Q.refl _ | refine Q.alloc ?_ _ | refine Q.jk ?_ _ | refine Q.drew ?_))) (by decide))).1, (HR9.out.2 r hr).2⟩⟩)
               have HJ2 : Hid (RowI ((((w.alloc (Obj.cells #[Value.string s.nm, Value.slice s.aB s.buses.length s.cB, Value.slice s.aL s.lines.length s.cL, Value.slice s.aS s.srcs.length s.cS, Value.slice (some ⟨g, o, none⟩) nY s.cY] 27)).alloc (Obj.cells #[Value.slice none 0 0, Value.slice none 0 0] 31)).jk k0).alloc (Obj.cells #[(Value.slice A' (k + 1) c'), (Value.slice aK k cK)] 31)) (((((w.alloc (Obj.cells #[Value.string s.nm, Value.slice s.aB s.buses.length s.cB, Value.slice s.aL s.lines.length s.cL, Value.slice s.aS s.srcs.length s.cS, Value.slice (some ⟨g, o, none⟩) nY s.cY] 27)).alloc (Obj.cells #[Value.slice none 0 0, Value.slice none 0 0] 31)).jk k0).alloc (Obj.cells #[(Value.slice A' (k + 1) c'), (Value.slice aK k cK)] 31)).jk kx) (.slice A ln c) pl) := Lib.hid (own_swap (W := ((((w.alloc (Obj.cells #[Value.string s.nm, Value.slice s.aB s.buses.length s.cB, Value.slice s.aL s.lines.length s.cL, Value.slice s.aS s.srcs.length s.cS, Value.slice (some ⟨g, o, none⟩) nY s.cY] 27)).alloc (Obj.cells #[Value.slice none 0 0, Value.slice none 0 0] 31)).jk k0).alloc (Obj.cells #[(Value.slice aC k cC), (Value.slice aK k cK)] 31))) (by simp) (hgr _ _ _ _ _ (ownsRow_q HJ9.out (by repeat' (first | exact Q.refl _ | refine Q.alloc ?_ _ | refine Q.jk ?_ _ | refine Q.drew ?_))) (own_apart2 (ownsRow_q HT9.out (by repeat' (first | exact Q.refl _ | refine Q.alloc ?_ _ | refine Q.jk ?_ _ | refine Q.drew ?_))) (ownsRow_q HJ9.out (by repeat' (first | exact Q.refl _ | refine Q.alloc ?_ _ | refine Q.jk ?_ _ | refine Q.drew ?_))) (by decide))).1)
               clear hb hgr)
            | (at_builtin; refine wpList_app_row2 rfl _ _ rfl ((((w.alloc (Obj.cells #[Value.string s.nm, Value.slice s.aB s.buses.length s.cB, Value.slice s.aL s.lines.length s.cL, Value.slice s.aS s.srcs.length s.cS, Value.slice (some ⟨g, o, none⟩) nY s.cY] 27)).alloc (Obj.cells #[Value.slice none 0 0, Value.slice none 0 0] 31)).jk k0).alloc (Obj.cells #[(Value.slice A' (k + 1) c'), (Value.slice aK k cK)] 31)) (Value.slice aK k cK) rs ⟨A, c, pl⟩ _ rfl rfl (HR2.out.q (by repeat' (first | exact Q.refl _ | refine Q.alloc ?_ _ | refine Q.jk ?_ _ | refine Q.drew ?_))) (by unfold roC; rw [L9.out]; exact HJ2.out.q (by repeat' (first | exact Q.refl _ | refine Q.alloc ?_ _ | refine Q.jk ?_ _ | refine Q.drew ?_))) (by rw [L9.out]; omega) (by unfold roC; rw [L9.out]; simp [go_sem, World.size_jk]) (by omega) (by repeat' (first | exact Q.refl _ | refine Q.alloc ?_ _ | refine Q.jk ?_ _ | refine Q.drew ?_)) ?_; intro A2 c2 ky hr hgr; rw [hrs] at hr hgr ⊢
               have HT3 : Hid (RowT ((((w.alloc (Obj.cells #[Value.string s.nm, Value.slice s.aB s.buses.length s.cB, Value.slice s.aL s.lines.length s.cL, Value.slice s.aS s.srcs.length s.cS, Value.slice (some ⟨g, o, none⟩) nY s.cY] 27)).alloc (Obj.cells #[Value.slice none 0 0, Value.slice none 0 0] 31)).jk k0).alloc (Obj.cells #[(Value.slice A' (k + 1) c'), (Value.slice A2 (k + 1) c2)] 31)) (((((w.alloc (Obj.cells #[Value.string s.nm, Value.slice s.aB s.buses.length s.cB, Value.slice s.aL s.lines.length s.cL, Value.slice s.aS s.srcs.length s.cS, Value.slice (some ⟨g, o, none⟩) nY s.cY] 27)).alloc (Obj.cells #[Value.slice none 0 0, Value.slice none 0 0] 31)).jk k0).alloc (Obj.cells #[(Value.slice A' (k + 1) c'), (Value.slice A2 (k + 1) c2)] 31)).jk ky) (.slice A' (k + 1) c') (cl ++ [y.cl])) := Lib.hid (own_swap (W := ((((w.alloc (Obj.cells #[Value.string s.nm, Value.slice s.aB s.buses.length s.cB, Value.slice s.aL s.lines.length s.cL, Value.slice s.aS s.srcs.length s.cS, Value.slice (some ⟨g, o, none⟩) nY s.cY] 27)).alloc (Obj.cells #[Value.slice none 0 0, Value.slice none 0 0] 31)).jk k0).alloc (Obj.cells #[(Value.slice A' (k + 1) c'), (Value.slice aK k cK)] 31))) (by simp) (hgr _ _ _ _ _ (ownsRow_q HT2.out (by repeat' (first | exact Q.refl _ | refine Q.alloc ?_ _ | refine Q.jk ?_ _ | refine Q.drew ?_))) (own_apart2 (ownsRow_q HR2.out.1 (by repeat' (first | exact Q.refl _ | refine Q.alloc ?_ _ | refine Q.jk ?_ _ | refine Q.drew ?_))) (ownsRow_q HT2.out (by repeat' (first | exact Q.refl _ | refine Q.alloc ?_ _ | refine Q.jk ?_ _ | refine Q.drew ?_))) (by decide))).1)
               have HR3 : Hid (RowsAt ((((w.alloc (Obj.cells #[Value.string s.nm, Value.slice s.aB s.buses.length s.cB, Value.slice s.aL s.lines.length s.cL, Value.slice s.aS s.srcs.length s.cS, Value.slice (some ⟨g, o, none⟩) nY s.cY] 27)).alloc (Obj.cells #[Value.slice none 0 0, Value.slice none 0 0] 31)).jk k0).alloc (Obj.cells #[(Value.slice A' (k + 1) c'), (Value.slice A2 (k + 1) c2)] 31)) (((((w.alloc (Obj.cells #[Value.string s.nm, Value.slice s.aB s.buses.length s.cB, Value.slice s.aL s.lines.length s.cL, Value.slice s.aS s.srcs.length s.cS, Value.slice (some ⟨g, o, none⟩) nY s.cY] 27)).alloc (Obj.cells #[Value.slice none 0 0, Value.slice none 0 0] 31)).jk k0).alloc (Obj.cells #[(Value.slice A' (k + 1) c'), (Value.slice A2 (k + 1) c2)] 31)).jk ky) (.slice A2 (k + 1) c2) (rs ++ [⟨A, c, pl⟩])) := Lib.hid (RowsAt.swap (W := ((((w.alloc (Obj.cells #[Value.string s.nm, Value.slice s.aB s.buses.length s.cB, Value.slice s.aL s.lines.length s.cL, Value.slice s.aS s.srcs.length s.cS, Value.slice (some ⟨g, o, none⟩) nY s.cY] 27)).alloc (Obj.cells #[Value.slice none 0 0, Value.slice none 0 0] 31)).jk k0).alloc (Obj.cells #[(Value.slice A' (k + 1) c'), (Value.slice aK k cK)] 31))) (by simp) hr)
               clear hr hgr)
            | fail)
          go_roundw
          case rel => exact ⟨k + 1, A', c', A2, c2, rs ++ [⟨A, c, pl⟩], by go_num, by omega, (by repeat' (first | exact Q.refl _ | refine Q.alloc ?_ _ | refine Q.jk ?_ _ | refine Q.drew ?_)), by rw [List.length_append, hrs]; rfl, Lib.hid (by rw [EC1.out, List.length_append, HNL.out]; rfl), Lib.hid (by rw [EC1.out]; exact HT3.out), HR3, Lib.hid (by rw [List.map_append, EL.out, EK1.out]; rfl)⟩
          case measure => simp [intOf] <;> omega
    · obtain rfl : nY = k := by omega
      clear hlt hk
      have HROW : Hid ((((((w.alloc (Obj.cells #[Value.string s.nm, Value.slice s.aB s.buses.length s.cB, Value.slice s.aL s.lines.length s.cL, Value.slice s.aS s.srcs.length s.cS, Value.slice aY nY s.cY] 27)).alloc (Obj.cells #[Value.slice aC nY cC, Value.slice aK nY cK] 31)).jk k0).alloc (Obj.cells #[(Value.slice aC nY cC), (Value.slice aK nY cK)] 31)).jk kk).ownsRow w.heap.size 4 1 (.slice aC nY cC) nY ((nmC s nY).map Value.bool) ∧ RowsAt w (((((w.alloc (Obj.cells #[Value.string s.nm, Value.slice s.aB s.buses.length s.cB, Value.slice s.aL s.lines.length s.cL, Value.slice s.aS s.srcs.length s.cS, Value.slice aY nY s.cY] 27)).alloc (Obj.cells #[Value.slice aC nY cC, Value.slice aK nY cK] 31)).jk k0).alloc (Obj.cells #[(Value.slice aC nY cC), (Value.slice aK nY cK)] 31)).jk kk) (.slice aK nY cK) rs) := Lib.hid (by
        have h1 : (((((w.alloc (Obj.cells #[Value.string s.nm, Value.slice s.aB s.buses.length s.cB, Value.slice s.aL s.lines.length s.cL, Value.slice s.aS s.srcs.length s.cS, Value.slice aY nY s.cY] 27)).alloc (Obj.cells #[Value.slice aC nY cC, Value.slice aK nY cK] 31)).jk k0).alloc (Obj.cells #[(Value.slice aC nY cC), (Value.slice aK nY cK)] 31)).jk kk).ownsRow ((w.alloc (Obj.cells #[Value.string s.nm, Value.slice s.aB s.buses.length s.cB, Value.slice s.aL s.lines.length s.cL, Value.slice s.aS s.srcs.length s.cS, Value.slice aY nY s.cY] 27)).alloc (Obj.cells #[Value.slice aC nY cC, Value.slice aK nY cK] 31)).heap.size 4 1 (.slice aC nY cC) nY ((nmC s nY).map Value.bool) := by
          rw [World.jk_alloc, World.jk_jk]
          refine own_swap (W := (w.alloc (Obj.cells #[Value.string s.nm, Value.slice s.aB s.buses.length s.cB, Value.slice s.aL s.lines.length s.cL, Value.slice s.aS s.srcs.length s.cS, Value.slice aY nY s.cY] 27)).alloc (Obj.cells #[Value.slice none 0 0, Value.slice none 0 0] 31)) (by simp) ?_
          rw [← World.jk_jk, ← World.jk_alloc]
          have := HT.out
          unfold RowT at this
          rw [HNL.out] at this
          exact World.ownsRow.mono this (by simp [World.size_jk]; omega)
        have h2 : RowsAt ((w.alloc (Obj.cells #[Value.string s.nm, Value.slice s.aB s.buses.length s.cB, Value.slice s.aL s.lines.length s.cL, Value.slice s.aS s.srcs.length s.cS, Value.slice aY nY s.cY] 27)).alloc (Obj.cells #[Value.slice aC nY cC, Value.slice aK nY cK] 31)) (((((w.alloc (Obj.cells #[Value.string s.nm, Value.slice s.aB s.buses.length s.cB, Value.slice s.aL s.lines.length s.cL, Value.slice s.aS s.srcs.length s.cS, Value.slice aY nY s.cY] 27)).alloc (Obj.cells #[Value.slice aC nY cC, Value.slice aK nY cK] 31)).jk k0).alloc (Obj.cells #[(Value.slice aC nY cC), (Value.slice aK nY cK)] 31)).jk kk) (.slice aK nY cK) rs := by
          rw [World.jk_alloc, World.jk_jk]
          refine RowsAt.swap (W := (w.alloc (Obj.cells #[Value.string s.nm, Value.slice s.aB s.buses.length s.cB, Value.slice s.aL s.lines.length s.cL, Value.slice s.aS s.srcs.length s.cS, Value.slice aY nY s.cY] 27)).alloc (Obj.cells #[Value.slice none 0 0, Value.slice none 0 0] 31)) (by simp) ?_
          rw [← World.jk_jk, ← World.jk_alloc]
          exact ⟨World.ownsRow.mono HR.out.1 (by simp [World.size_jk]; omega), fun r hr => ⟨(HR.out.2 r hr).1.low (by repeat' (first | exact Q.refl _ | refine Q.alloc ?_ _ | refine Q.jk ?_ _ | refine Q.drew ?_)), (HR.out.2 r hr).2⟩⟩
        exact ⟨World.ownsRow.mono h1 (by simp; omega), World.ownsRow.mono h2.1 (by simp; omega), fun r hr => ⟨(h2.2 r hr).1.low (by repeat' (first | exact Q.refl _ | refine Q.alloc ?_ _ | refine Q.jk ?_ _ | refine Q.drew ?_)), (h2.2 r hr).2⟩⟩)
      obtain ⟨kF, eF⟩ : Q w (((((w.alloc (Obj.cells #[Value.string s.nm, Value.slice s.aB s.buses.length s.cB, Value.slice s.aL s.lines.length s.cL, Value.slice s.aS s.srcs.length s.cS, Value.slice aY nY s.cY] 27)).alloc (Obj.cells #[Value.slice aC nY cC, Value.slice aK nY cK] 31)).jk k0).alloc (Obj.cells #[(Value.slice aC nY cC), (Value.slice aK nY cK)] 31)).jk kk) := (by repeat' (first | exact Q.refl _ | refine Q.alloc ?_ _ | refine Q.jk ?_ _ | refine Q.drew ?_))
      have HPOS : Hid (∀ W' : World, W'.heap.size = w.heap.size → PosAt (W'.jk kF) ⟨nmC s nY, rs, aC, cC, aK, cK⟩) := Lib.hid fun W' hW => by
        have h := HROW.out
        rw [eF] at h
        exact rowsAt_pos (W0 := W') (own_swap (W := w) hW.symm h.1) (RowsAt.swap (W := w) hW.symm h.2) HNL.out hrs (by omega) (by omega)
      have EF := Lib.hid eF
      clear eF HROW
      have HRet := Lib.hid HNL.out
      go_wp2_with fail
      refine bodyPost_ret (v := .agg #[Value.slice aC nY cC, Value.slice aK nY cK]) (by simp [results, Tryz.results29, go_sem]) rfl ⟨⟨nmC s nY, rs, aC, cC, aK, cK⟩, kF, by simp only [HRet.out, hrs], EF.out, HPOS.out, rfl, EL.out⟩
end Go.Proofs.YtcjflafjmdfanaaGreatDoor
