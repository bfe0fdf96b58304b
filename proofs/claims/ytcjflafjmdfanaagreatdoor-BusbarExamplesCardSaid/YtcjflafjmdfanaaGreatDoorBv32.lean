
/- What Resolve of the reference 06 returns. -/
import Derived.Test.YtcjflafjmdfanaaGreatDoorBv30
import Derived.Test.YtcjflafjmdfanaaGreatDoorBv31
import Derived.Laws.OwnMore
set_option maxHeartbeats 64000000
set_option maxRecDepth 100000
set_option linter.unusedSimpArgs false
set_option linter.unusedVariables false
namespace Go
open Go.RowKit
theorem wpList_app_any {P : Program} {ops : Array Oper} {rest : List Oper} {o : Oper} {a : Act} {w : World} {Q' : Exit → Act → World → Prop} (hgd : o.guard = none) (s x : Operand) (t : TypeId)
  (ho : o.op = .call { callee := .builtin .append, args := #[s, x], argTypes := #[t, t] })
  (W0 : World) (e : TypeId) (i : TypeInfo) (z : Value) (size bytes : Nat) (ht : P.underlying t = some (.slice e)) (hi : P.info? e = some i) (hz : i.zero = some z)
  (hsize : i.size = size) (hby : i.bytes = bytes) (hzs : z.cells.size = size) (hsz : 0 < size)
  (v : Value) (n : Nat) (xs : List Value) (hs : a.eval s = v) (hown : w.ownsRow W0.heap.size e size v n xs)
  (A : Option Addr) (m c : Nat) (news : List Value) (hx : a.eval x = .slice A m c) (hr : RdV w A m c size news) (h1 : ∀ u ∈ news, u.oneCell' = true)
  (h63 : n + m ≤ maxLen) (hbytes : (n + m) * bytes ≤ 140737488355328) (hQ : Q W0 w)
  (h : ∀ v' kk, (W0.jk kk).ownsRow W0.heap.size e size v' (n + m) (xs ++ news) → Grown W0.heap.size v v' w (W0.jk kk) → wpList P ops Q' rest (a.put o.dst v') (W0.jk kk)) : wpList P ops Q' (o :: rest) a w := by
 cases A with
 | some ad =>
  refine wpList_app hgd s x t ho W0 e i z size bytes ht hi hz hsize hby hzs hsz v n xs hs hown ad m c news hx hr.1 ?_ h1 h63 hbytes hQ h
  intro j u hj
  have hlt := (List.getElem?_eq_some_iff.1 hj).1
  have hm : 0 < m := by
   rcases Nat.eq_zero_or_pos m with h0 | h0
   ·have := hr.1
    rw [h0, Nat.zero_mul] at this
    omega
   exact h0
  obtain ⟨g, o, e', hg, hc⟩ := hr.2.2.1 hm
  cases e'
  rw [addr_add0]
  exact hc j u hj
 | none =>
  obtain rfl : c = 0 := hr.2.2.2 rfl
  obtain rfl : m = 0 := by have := hr.2.1; omega
  obtain rfl : news = [] := List.eq_nil_of_length_eq_zero (by rw [hr.1]; simp)
  obtain ⟨kk, rfl⟩ := hQ
  refine wpList_plain hgd fun K hK => ?_
  have hrun := run_append_owned_none (P := P) (w := W0.jk kk) W0.heap.size t o.type e i size ht hi v n xs hown
  unfold Oper.wp execOp
  simp only [ho, resolve, invoke, builtin, Sem.run_bind, Sem.run_pure, Result.andThen_ok, List.map_toArray, List.map_cons, List.map_nil, hs, hx, hrun]
  exact hK _ _ (h v kk (by simpa using hown) (fun _ _ _ _ _ h ha => ⟨h, ha⟩))
theorem own_nil0 (W0 : World) (e : TypeId) (b : Nat) (hb : b = W0.heap.size) : (W0.alloc (.cells #[] e)).ownsRow W0.heap.size e 1 (.slice (some ⟨b, 0, none⟩) 0 0) 0 [] := by
 subst hb
 exact World.ownsRow_lit W0 #[] 0 (Nat.le_refl _) (by decide) rfl
end Go
namespace Go.Proofs.YtcjflafjmdfanaaGreatDoor
open Go.RowKit Go.Sub
attribute [local go_sem ↓] Go.wp_at_zero Go.wp_at_succ
def RetPN (cl : List Bool) (ls : List (List Int)) (w : World) (e : Ending) (w' : World) : Prop := ∃ p' : Pos, e = .returned (.agg #[Value.slice p'.aC p'.closed.length p'.cC, Value.slice p'.aK p'.rows.length p'.cK]) ∧ Q w w' ∧ w'.ownsRow w.heap.size 4 1 (.slice p'.aC p'.closed.length p'.cC) p'.closed.length (p'.closed.map Value.bool) ∧ RowsAt w w' (.slice p'.aK p'.rows.length p'.cK) p'.rows ∧ p'.closed = cl ∧ p'.rows.map Ro.l = ls
theorem build0b : ∀ w, (Instr.buildSlice 28 0 #[]).run Tryz.prog w = .ok (.slice (some ⟨w.heap.size, 0, none⟩) 0 0) (w.alloc (.cells #[] 4)) := by
 intro w
 obtain ⟨i, hi, hz, hs1, hb⟩ := infoBool
 simp [Instr.buildSlice, run_underlying Tryz.underlying28, sizeOf, typeInfo, hi, newRow, Instr.fill]
 rw [show Array.range 0 = #[] from rfl, Array.map_empty]
theorem build0i : ∀ w, (Instr.buildSlice 61 0 #[]).run Tryz.prog w = .ok (.slice (some ⟨w.heap.size, 0, none⟩) 0 0) (w.alloc (.cells #[] 3)) := by
 intro w
 obtain ⟨i, hi, hz, hs1, hb⟩ := infoInt
 simp [Instr.buildSlice, run_underlying Tryz.underlying61, sizeOf, typeInfo, hi, newRow, Instr.fill]
 rw [show Array.range 0 = #[] from rfl, Array.map_empty]
theorem r6resolve_n (p : Pos) (w : World) (hp : PosAt w p) (h1 : p.closed.length < 1000) (h2 : p.rows.length < 1000) (h3 : ∀ r ∈ p.rows, r.l.length < 1000) :
  Calls Tryz.prog 48 #[.agg #[Value.slice p.aC p.closed.length p.cC, Value.slice p.aK p.rows.length p.cK], .bool true] w (RetPN p.closed (p.rows.map fun r => r.l.map rs1) w) := by
 have HP := hh hp
 have H3 := hh h3
 obtain ⟨nC, eC⟩ : ∃ n, p.closed.length = n := ⟨_, rfl⟩
 obtain ⟨nK, eK⟩ : ∃ n, p.rows.length = n := ⟨_, rfl⟩
 have HCL := hh hp.rC
 rw [eC] at h1 HCL ⊢
 rw [eK] at h2 ⊢
 obtain ⟨aK, eaK⟩ : ∃ a, p.aK = a := ⟨_, rfl⟩
 rw [eaK]
 have EAK := hh eaK
 have EC := hh eC
 have EK := hh eK
 clear hp h3 eC eK eaK
 go_enter Tryz.func48, Tryz.ntmps48
 go_upto_region 1 with fail
 obtain ⟨V, eV⟩ : ∃ V, w.alloc (Obj.cells #[Value.slice p.aC nC p.cC, Value.slice aK nK p.cK] 31) = V := ⟨_, rfl⟩
 have hsz : w.heap.size + 1 = V.heap.size := by rw [← eV]; simp
 have hq0 : Q w V := by rw [← eV]; exact Q.i
 have hb : HB V w.heap.size #[Value.slice p.aC nC p.cC, Value.slice aK nK p.cK] 31 := by rw [← eV]; exact HB.new _ _ _ _ rfl
 rw [eV, hsz]
 have HQ0 := hh hq0
 have p0 := hb.cell 0
 have p1 := hb.cell 1
 simp only [List.getElem?_toArray, List.getElem?_cons_zero, List.getElem?_cons_succ] at p0 p1
 have ob := hb.old
 have HP : Hid (PosAt V p) := hh (HP.o.q hq0)
 have HCL : Hid (RdV V p.aC nC p.cC 1 (p.closed.map Value.bool)) := hh (HCL.o.q hq0)
 clear eV hb hq0 hsz
 generalize w.heap.size = b at p0 p1 ob ⊢
 have hbb := build0b
 have hbi := build0i
 go_wp2_with (first | (at_builtin; obtain ⟨i, hi, hz, hs1, hb⟩ := infoBool; refine wpList_app_any rfl _ _ 28 rfl (V.alloc (Obj.cells #[Value.slice none 0 0, Value.slice none 0 0] 31)) 4 i (.bool false) 1 1 Tryz.underlying28 hi hz hs1 hb rfl (by decide) (.slice (some ⟨V.heap.size + 1, 0, none⟩) 0 0) 0 [] rfl (own_nil0 _ _ _ (by simp)) p.aC nC p.cC (p.closed.map Value.bool) rfl (HCL.o.q Q.i) (one_bools _) (by unfold maxLen; omega) (by omega) Q.i ?_; intro v kC hown hgr0; clear hgr0; rw [Nat.zero_add, List.nil_append] at hown; obtain ⟨aC', cC', rfl⟩ := own_slice' hown; have HOC := hh hown; clear hown) | fail)
 go_loopw [6] (fun i wr => ∃ (k : Nat) (A : Option Addr) (c : Nat) (rs : List Ro), i = .int .i64 k ∧ k ≤ nK ∧ Q (((V.alloc (Obj.cells #[Value.slice none 0 0, Value.slice none 0 0] 31)).jk kC).alloc (Obj.cells #[Value.slice aC' nC cC', (Value.slice A k c)] 31)) wr ∧ rs.length = k ∧ Hid (RowsAt (((V.alloc (Obj.cells #[Value.slice none 0 0, Value.slice none 0 0] 31)).jk kC).alloc (Obj.cells #[Value.slice aC' nC cC', (Value.slice A k c)] 31)) wr (.slice A k c) rs) ∧ Hid (rs.map Ro.l = (p.rows.take k).map fun r => r.l.map rs1)) (fun i _ => nK - (intOf i).toNat)
 case atStart => exact ⟨0, none, 0, [], rfl, Nat.zero_le _, Q.refl _, rfl, hh ⟨World.ownsRow_nil _ _ _ _, fun r hr => by cases hr⟩, hh rfl⟩
 case round =>
  obtain ⟨k, A, c, rs, rfl, hk, ⟨kk, rfl⟩, hrs, HR, EL⟩ := hrel
  by_cases hlt : k < nK
  rotate_left
  ·obtain rfl : nK = k := by omega
   have HPN : Hid (((((V.alloc (Obj.cells #[Value.slice aC' nC cC', Value.slice A nK c] 31)).jk kC).alloc (Obj.cells #[Value.slice aC' nC cC', (Value.slice A nK c)] 31)).jk kk).ownsRow w.heap.size 4 1 (.slice aC' nC cC') nC (p.closed.map Value.bool) ∧ RowsAt w ((((V.alloc (Obj.cells #[Value.slice aC' nC cC', Value.slice A nK c] 31)).jk kC).alloc (Obj.cells #[Value.slice aC' nC cC', (Value.slice A nK c)] 31)).jk kk) (.slice A nK c) rs) := hh (by
    have hle : w.heap.size ≤ (V.alloc (Obj.cells #[Value.slice aC' nC cC', Value.slice A nK c] 31)).heap.size := (HQ0.o.alloc _).below.size
    rw [World.jk_alloc, World.jk_jk]
    constructor
    ·refine World.ownsRow.mono (own_swap (W := (V.alloc (Obj.cells #[Value.slice none 0 0, Value.slice none 0 0] 31))) (W' := (V.alloc (Obj.cells #[Value.slice aC' nC cC', Value.slice A nK c] 31))) (by simp) ?_) hle
     rw [← World.jk_jk, ← World.jk_alloc]
     exact ownsRow_q HOC.o Q.i
    ·refine (fun h9 : RowsAt (V.alloc (Obj.cells #[Value.slice aC' nC cC', Value.slice A nK c] 31)) _ (.slice A nK c) rs => (⟨World.ownsRow.mono h9.1 hle, fun r hr => ⟨(h9.2 r hr).1.low (HQ0.o.alloc _), (h9.2 r hr).2⟩⟩ : RowsAt w _ (.slice A nK c) rs)) (RowsAt.swap (W := (V.alloc (Obj.cells #[Value.slice none 0 0, Value.slice none 0 0] 31))) (W' := (V.alloc (Obj.cells #[Value.slice aC' nC cC', Value.slice A nK c] 31))) (by simp) ?_)
     rw [← World.jk_jk, ← World.jk_alloc]
     exact ⟨World.ownsRow.mono HR.o.1 (by simp [World.size_jk]; omega), fun r hr => ⟨(HR.o.2 r hr).1.low Q.i, (HR.o.2 r hr).2⟩⟩)
   go_wp2_with fail
   refine bodyPost_ret (v := .agg #[Value.slice aC' nC cC', Value.slice A nK c]) (by simp [results, Tryz.results48, go_sem]) rfl ⟨⟨p.closed, rs, aC', cC', A, c⟩, by simp only [EC.o, hrs], HQ0.o.trans Q.i, by dsimp only; rw [EC.o]; exact HPN.o.1, by dsimp only; rw [hrs]; exact HPN.o.2, rfl, by rw [EL.o, List.take_of_length_le (by rw [EK.o]; exact Nat.le_refl _)]⟩
  obtain ⟨r, hr⟩ : ∃ r, p.rows[k]? = some r := ⟨_, List.getElem?_eq_getElem (by rw [EK.o]; exact hlt)⟩
  obtain ⟨g', o', eA', og', r1⟩ := HP.o.rowAt hr
  have hrm := List.mem_of_getElem? hr
  have RD : Hid (RdV V r.ad r.l.length r.cap 1 (r.l.map (Value.int .i64))) := hh (HP.o.row r hrm).1
  have hrl := H3.o r hrm
  have ETK : Hid ((p.rows.take (k + 1)).map (fun r => r.l.map rs1) = (p.rows.take k).map (fun r => r.l.map rs1) ++ [r.l.map rs1]) := hh (by
   have hlt2 := (List.getElem?_eq_some_iff.1 hr).1
   rw [List.take_succ_eq_append_getElem hlt2, List.map_append, (List.getElem?_eq_some_iff.1 hr).2]; rfl)
  have eAK := EAK.o.symm.trans eA'
  rw [eAK] at p1
  obtain ⟨nr, enr⟩ : ∃ n, r.l.length = n := ⟨_, rfl⟩
  rw [enr] at r1 RD hrl
  have k0 : (0 : Int) ≤ (k : Int) := by omega
  have k1 : (k : Int) < (nK : Int) := by omega
  have NR := hh enr
  clear hr hrm eA' enr eAK
  go_wp2_with (first | (at_builtin; obtain ⟨i, hi, hz, hs1, hb⟩ := infoInt; refine wpList_app_any rfl _ _ 61 rfl ((((V.alloc (Obj.cells #[Value.slice none 0 0, Value.slice none 0 0] 31)).jk kC).alloc (Obj.cells #[Value.slice aC' nC cC', (Value.slice A k c)] 31)).jk kk) 3 i (.int .i64 0) 1 8 Tryz.underlying61 hi hz hs1 hb rfl (by decide) (.slice (some ⟨V.heap.size + 1 + kC.os.size + 1 + kk.os.size, 0, none⟩) 0 0) 0 [] rfl (own_nil0 _ _ _ (by simp [World.size_jk])) r.ad nr r.cap (r.l.map (Value.int .i64)) rfl (RD.o.q Q.i) (one_ints .i64 _) (by unfold maxLen; omega) (by omega) Q.i ?_; intro v kc hown hgr0; clear hgr0; rw [Nat.zero_add, List.nil_append] at hown; obtain ⟨a8, c8, rfl⟩ := own_slice' hown) | fail)
  have HO8 : Hid (RowI ((((V.alloc (Obj.cells #[Value.slice none 0 0, Value.slice none 0 0] 31)).jk kC).alloc (Obj.cells #[Value.slice aC' nC cC', (Value.slice A k c)] 31)).jk kk) (((((V.alloc (Obj.cells #[Value.slice none 0 0, Value.slice none 0 0] 31)).jk kC).alloc (Obj.cells #[Value.slice aC' nC cC', (Value.slice A k c)] 31)).jk kk).jk kc) (.slice a8 nr c8) r.l) := hh (by unfold RowI; rw [NR.o]; exact hown)
  clear hown
  go_loopw [8] (fun i wr => ∃ j : Nat, i = .int .i64 j ∧ j ≤ nr ∧ Q ((((V.alloc (Obj.cells #[Value.slice none 0 0, Value.slice none 0 0] 31)).jk kC).alloc (Obj.cells #[Value.slice aC' nC cC', (Value.slice A k c)] 31)).jk kk) wr ∧ Hid (RowI ((((V.alloc (Obj.cells #[Value.slice none 0 0, Value.slice none 0 0] 31)).jk kC).alloc (Obj.cells #[Value.slice aC' nC cC', (Value.slice A k c)] 31)).jk kk) wr (.slice a8 nr c8) (mixL rs1 r.l j))) (fun i _ => nr - (intOf i).toNat)
  case atStart => exact ⟨0, rfl, Nat.zero_le _, (by repeat' (first | exact Q.refl _ | refine Q.alloc ?_ _ | refine Q.jk ?_ _ | refine Q.drew ?_)), hh (by rw [mixL_zero]; exact HO8.o)⟩
  case round =>
   obtain ⟨j, rfl, hj, ⟨k2, rfl⟩, HM⟩ := hrel
   by_cases hlj : j < nr
   rotate_left
   ·obtain rfl : nr = j := by omega
    clear hlj hj
    have HO9 : Hid (RowI ((((V.alloc (Obj.cells #[Value.slice none 0 0, Value.slice none 0 0] 31)).jk kC).alloc (Obj.cells #[Value.slice aC' nC cC', (Value.slice A k c)] 31)).jk kk) (((((V.alloc (Obj.cells #[Value.slice none 0 0, Value.slice none 0 0] 31)).jk kC).alloc (Obj.cells #[Value.slice aC' nC cC', (Value.slice A k c)] 31)).jk kk).jk k2) (.slice a8 nr c8) (r.l.map rs1)) := hh (by rw [← mixL_all rs1 r.l NR.o]; exact HM.o)
    have HR9 := hh (HR.o.q (Q.jk (Q.refl _) k2))
    have L9 : Hid ((r.l.map rs1).length = nr) := hh (by rw [List.length_map, NR.o])
    have HR8 : Hid (RowI (((V.alloc (Obj.cells #[Value.slice none 0 0, Value.slice none 0 0] 31)).jk kC).alloc (Obj.cells #[Value.slice aC' nC cC', (Value.slice A k c)] 31)) (((((V.alloc (Obj.cells #[Value.slice none 0 0, Value.slice none 0 0] 31)).jk kC).alloc (Obj.cells #[Value.slice aC' nC cC', (Value.slice A k c)] 31)).jk kk).jk k2) (roC ⟨a8, c8, r.l.map rs1⟩) (r.l.map rs1)) := hh (by unfold roC; rw [L9.o]; exact HO9.o.low Q.i)
    have E8 : Hid (roC ⟨a8, c8, r.l.map rs1⟩ = .slice a8 nr c8) := hh (by unfold roC; rw [L9.o])
    go_wp2_with (first | (at_builtin; go_loud (refine wpList_app_row rfl _ _ rfl (((V.alloc (Obj.cells #[Value.slice none 0 0, Value.slice none 0 0] 31)).jk kC).alloc (Obj.cells #[Value.slice aC' nC cC', (Value.slice A k c)] 31)) (.slice A k c) rs ⟨a8, c8, r.l.map rs1⟩ _ rfl rfl (HR9.o.q Q.i) (HR8.o.q Q.i) (by rw [L9.o]; exact hrl) (by rw [E8.o]; simp [go_sem]) (by omega) Q.i ?_); intro A' c' kx hri; rw [hrs] at hri ⊢) | fail)
    go_roundw
    case rel =>
     exact ⟨k + 1, A', c', rs ++ [⟨a8, c8, r.l.map rs1⟩], by go_num, by omega, Q.jk (Q.refl _) kx, by rw [List.length_append, hrs]; rfl, hh (hri.swap (by simp)), hh (by rw [List.map_append, EL.o, ETK.o]; rfl)⟩
    case measure => simp [intOf] <;> omega
   have hjr : j < r.l.length := by rw [NR.o]; exact hlj
   obtain ⟨g8, rfl, hg8, hc8⟩ := rowI_win HM.o (by rw [mixL_len _ _ _ (by omega), NR.o]) (by omega)
   have x1 := (hc8.o j hlj).1
   have x2 := (hc8.o j hlj).2
   rw [mixL_getD _ _ _ hjr] at x1
   have j0 : (0 : Int) ≤ (j : Int) := by omega
   have j1 : (j : Int) < (nr : Int) := by omega
   have MS := hh (mixL_set rs1 r.l j hjr)
   have MN := hh (mixL_same rs1 r.l j hjr)
   have LM : Hid ((mixL rs1 r.l j).length = nr) := hh (by rw [mixL_len _ _ _ (by omega), NR.o])
   generalize r.l.getD j 0 = x at x1 MS MN
   clear hjr hc8
   by_cases hx : x = 2
   ·subst hx
    clear MN
    have HG8 := hh hg8
    have o8 : Old g8 (((((V.alloc (Obj.cells #[Value.slice none 0 0, Value.slice none 0 0] 31)).jk kC).alloc (Obj.cells #[Value.slice aC' nC cC', (Value.slice A k c)] 31)).jk kk).jk k2) := ⟨World.block_lt_of_cell? _ _ x1⟩
    go_wp2_with fail
    go_roundw
    case rel =>
     exact ⟨j + 1, by go_num, by omega, (Q.refl _).jk k2 |>.setCell HG8.o _, hh (by rw [← MS.o]; exact rowI_set HM.o LM.o j 1)⟩
    case measure => simp [intOf] <;> omega
   have hx' : (x == 2) = false := by simpa using hx
   have o8 : Old g8 (((((V.alloc (Obj.cells #[Value.slice none 0 0, Value.slice none 0 0] 31)).jk kC).alloc (Obj.cells #[Value.slice aC' nC cC', (Value.slice A k c)] 31)).jk kk).jk k2) := ⟨World.block_lt_of_cell? _ _ x1⟩
   have ME : Hid (mixL rs1 r.l j = mixL rs1 r.l (j + 1)) := hh (MN.o (if_neg hx))
   clear hx MN MS
   go_wp2_with fail
   go_roundw
   case rel =>
    exact ⟨j + 1, by go_num, by omega, (Q.refl _).jk k2, hh (by rw [← ME.o]; exact HM.o)⟩
   case measure => simp [intOf] <;> omega
theorem r6resolve_c (p : Pos) (w : World) (hp : PosAt w p) (h1 : p.closed.length < 1000) (h2 : p.rows.length < 1000) (h3 : ∀ r ∈ p.rows, r.l.length < 1000) :
  Calls Tryz.prog 48 #[.agg #[Value.slice p.aC p.closed.length p.cC, Value.slice p.aK p.rows.length p.cK], .bool true] w (RetP p.closed (p.rows.map fun r => r.l.map rs1) w) :=
 (r6resolve_n p w hp h1 h2 h3).mono fun e w' h => by
  obtain ⟨p', he, hq, ho, hr, hc, hl⟩ := h
  have l1 : p'.closed.length < 1000 := by rw [hc]; exact h1
  have l2 : p'.rows.length < 1000 := by rw [← List.length_map (f := Ro.l), hl, List.length_map]; exact h2
  exact ⟨p', he, hq, rowsAt_pos (W0 := w) ho hr rfl rfl l1 l2, hc, hl⟩
end Go.Proofs.YtcjflafjmdfanaaGreatDoor
