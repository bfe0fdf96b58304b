
/- What Of of the bus image returns for a station and a position that have no error. -/
import Derived.Test.YtcjflafjmdfanaaGreatDoorBv19
set_option maxHeartbeats 64000000
set_option maxRecDepth 100000
set_option linter.unusedSimpArgs false
set_option linter.unusedVariables false
namespace Go
open Go.RowKit
theorem own_swap2 {W W' : World} {k m : Jk} {e : TypeId} {size n : Nat} {v : Value} {xs : List Value} (hs : W.heap.size = W'.heap.size) (h : ((W.jk k).jk m).ownsRow W.heap.size e size v n xs) : ((W'.jk k).jk m).ownsRow W'.heap.size e size v n xs := by
 rw [World.jk_jk] at h ⊢
 exact own_swap hs h
theorem step_call2 {P : Program} {ops : Array Oper} {o : Oper} {a : Act} {w : World} {K : Act → World → Prop} {Q' : Exit → Act → World → Prop} {E : Prop} (hgd : o.guard = none) (c : Operand) (xs : Array Operand) (ts : Array TypeId)
  (_ho : o.op = .call { callee := .value c, args := xs, argTypes := ts }) (f : FuncId) (args : Array Value) (R : Ending → World → Prop)
  (hrun : (execOp a.eval o).run P w = .ok (.enter f args) w) (hc : Calls P f args w R) (h : ∀ e w', R e w' → ∃ v, e = .returned v ∧ K (a.put o.dst v) w') :
  if Region.wanted o (yielded ops a.tmps) = true then Oper.wp P o a w K Q' else E := step_call hgd f args R hrun hc h
end Go
namespace Go.Proofs.YtcjflafjmdfanaaGreatDoor
open Go.RowKit Go.Sub
attribute [local go_sem ↓] Go.wp_at_zero Go.wp_at_succ
def RetIm (l : List Sec) (w : World) (e : Ending) (w' : World) : Prop := ∃ A c rs, e = .returned (.tuple #[.slice A l.length c, .int .i64 0]) ∧ Q w w' ∧ SecsAt w w' (.slice A l.length c) rs ∧ rs.map SecR.d = l
theorem of_c (s : Sta) (p : Pos) (w : World) (h : GoodAt w s p) :
  Calls Tryz.prog 35 #[.agg #[Value.string s.nm, Value.slice s.aB s.buses.length s.cB, Value.slice s.aL s.lines.length s.cL, Value.slice s.aS s.srcs.length s.cS, Value.slice s.aY s.bays.length s.cY], .agg #[Value.slice p.aC p.closed.length p.cC, Value.slice p.aK p.rows.length p.cK]] w (RetIm (imI s p) w) := by
 have SC := hh fun (w' : World) (hq : Q w w') => stcheck_c s w' (h.st.q hq)
 have PC := hh fun (w' : World) (hq : Q w w') => tpcheck_c s p w' (h.st.q hq) (h.ps.q hq)
 simp only [h.e1, h.e2] at SC PC
 have hlens := h.lens
 have RS := hh fun (w' : World) (hq : Q w w') => resolve_c p w' (h.ps.q hq) (by omega) (by omega) (fun r hr => by
  obtain ⟨k, hk⟩ := List.getElem?_of_mem hr
  obtain ⟨y, hy⟩ : ∃ y, s.bays[k]? = some y := ⟨_, List.getElem?_eq_getElem (by have := (List.getElem?_eq_some_iff.1 hk).1; omega)⟩
  obtain ⟨r', hr', hl, _⟩ := psE_row h.e2 k y hy
  rw [hk] at hr'
  obtain rfl : r = r' := Option.some.inj hr'
  have := (h.st.lk k y hy).1.2
  rcases (h.ok k y hy).ln with h | h <;> omega)
 unfold RetP at RS
 have GOOD := hh fun (p2 : Pos) (w' : World) (hq : Q w w') (hp : PosAt w' p2) (hc : p2.closed = p.closed) (hr : p2.rows.map Ro.l = p.rows.map fun r => r.l.map rs1) => (⟨h.st.q hq, hp, h.e1, psE_rs h.e2 hc hr⟩ : GoodAt w' s p2)
 have GRC : Hid (∀ (p2 : Pos) (w' : World) (hq : Q w w') (hp : PosAt w' p2) (hc : p2.closed = p.closed) (hr : p2.rows.map Ro.l = p.rows.map fun r => r.l.map rs1), Calls Tryz.prog 65 #[.agg #[Value.string s.nm, Value.slice s.aB s.buses.length s.cB, Value.slice s.aL s.lines.length s.cL, Value.slice s.aS s.srcs.length s.cS, Value.slice s.aY s.bays.length s.cY], .agg #[Value.slice p2.aC p2.closed.length p2.cC, Value.slice p2.aK p2.rows.length p2.cK]] w' (RetI (grI s (rsP p)) w')) := hh fun p2 w' hq hp hc hr => by rw [← grI_congr (rsP_rows hr)]; exact groups_c s p2 w' (GOOD.o p2 w' hq hp hc hr)
 have BDC : Hid (∀ (p2 : Pos) (k : Nat) (w' : World) (hq : Q w w') (hp : PosAt w' p2) (hc : p2.closed = p.closed) (hr : p2.rows.map Ro.l = p.rows.map fun r => r.l.map rs1) (hk : k < s.buses.length) (he : (grI s (rsP p)).getD k 0 = (k : Int)), Calls Tryz.prog 41 #[.agg #[Value.string s.nm, Value.slice s.aB s.buses.length s.cB, Value.slice s.aL s.lines.length s.cL, Value.slice s.aS s.srcs.length s.cS, Value.slice s.aY s.bays.length s.cY], .agg #[Value.slice p2.aC p2.closed.length p2.cC, Value.slice p2.aK p2.rows.length p2.cK], .agg #[.int .i64 1, .int .i64 k]] w' (RetI (bdI s (rsP p) (grI s (rsP p)) k s.bays.length) w')) := hh fun p2 k w' hq hp hc hr hk he => by
  have := boundary_c s p2 k w' (GOOD.o p2 w' hq hp hc hr) hk
  rw [grI_congr (rsP_rows hr), he, bdI_congr (rsP_rows hr)] at this
  exact this
 unfold RetI at GRC BDC
 have MVC := hh fun (w' : World) (A : Option Addr) (n c : Nat) (l : List Int) (hq : Q w w') (hl : RdN w' A n c .i64 l) (hn : n < 1000) => moving_c s p A n c l w' (h.q hq) hl (by omega)
 have HAY := hh fun k y (hy : s.bays[k]? = some y) => h.st.bayAt hy
 have SGC := hh fun (k : Nat) (y : Byr) (hy : s.bays[k]? = some y) (w' : World) (A : Option Addr) (n c : Nat) (l : List Int) (hq : Q w w') (hl : RdN w' A n c .i64 l) (hn : n < 1000) => sign_c y (s.lks k) A n c l w' ((h.st.lk k y hy).1.q hq) (by rcases (h.ok k y hy).ln with h | h <;> omega) hl (by omega)
 have HGL := hh (grI_len s (rsP p))
 have HIM : Hid (imI s p = imF s p (grI s (rsP p)) s.buses.length) := hh rfl
 have HSG : Hid (∀ k y l, s.bays[k]? = some y → sgZ s k l = sgB y (s.lks k) l) := hh fun k y l e => by unfold sgZ; rw [e]
 have HIS : Hid (∀ q : Int, imS s p (grI s (rsP p)) q = ⟨busF (grI s (rsP p)) q s.buses.length, memF s (busF (grI s (rsP p)) q s.buses.length) (bdI s (rsP p) (grI s (rsP p)) q s.bays.length), mvB s p (busF (grI s (rsP p)) q s.buses.length)⟩) := hh fun q => rfl
 have HBA := hh fun q j => bdI_at s (rsP p) (grI s (rsP p)) q s.bays.length j
 have HBL := hh fun q => bdI_len s (rsP p) (grI s (rsP p)) q s.bays.length
 obtain ⟨aY, eaY⟩ : ∃ a, s.aY = a := ⟨_, rfl⟩
 obtain ⟨nY, eY⟩ : ∃ n, s.bays.length = n := ⟨_, rfl⟩
 obtain ⟨nB, eB⟩ : ∃ n, s.buses.length = n := ⟨_, rfl⟩
 unfold RetIm
 rw [eaY, eY, eB] at SC PC GRC BDC MVC
 rw [eaY] at HAY
 rw [eY] at HBA HBL
 rw [eY, eB] at HIS
 rw [eB] at HGL HIM
 rw [eY, eB] at hlens
 rw [eaY, eY, eB]
 generalize imI s p = IM at HIM ⊢
 have HIF := hh fun n => imF_succ s p (grI s (rsP p)) n
 have HIL := hh (imF_len s p (grI s (rsP p)))
 have HI0 : Hid (imF s p (grI s (rsP p)) 0 = []) := hh rfl
 generalize grI s (rsP p) = gl at *
 have nb1 : nB ≤ 4 := by omega
 have ny1 : nY ≤ 16 := by omega
 have b0 : (0 : Int) ≤ (nB : Int) := by omega
 have HYB : Hid (∀ k, k < nY → ∃ y, s.bays[k]? = some y) := hh fun k hk => ⟨_, List.getElem?_eq_getElem (by omega)⟩
 clear h hlens eaY eY eB GOOD
 go_enter Tryz.func35, Tryz.ntmps35
 go_wp2_with (first | (go_at_call 30; (with_reducible refine (SC.o _ Q.i).q ?_); intro k0) | (go_at_call 12; (with_reducible refine (PC.o _ Q.i).q ?_); intro k1) | (go_at_call 39; (with_reducible refine (RS.o _ Q.i).mono ?_); rintro e w' ⟨p2, rfl, ⟨kR, rfl⟩, hp2, hc2, hr2⟩; have HP2 := hh hp2; have HC2 := hh hc2; have HR2 := hh hr2; clear hp2 hc2 hr2) | (go_at_call 65; (with_reducible refine (GRC.o p2 _ Q.i (HP2.o.q Q.i) HC2.o HR2.o).mono ?_); rintro e w' ⟨v9, rfl, ⟨kG, rfl⟩, hv9⟩; obtain ⟨a9, c9, rfl⟩ := own_slice' hv9; rw [HGL.o] at hv9 ⊢; have HV9 := hh hv9; clear hv9) | fail)
 go_loopw [10, 35] (fun v i wr => ∃ (k : Nat) (rs : List SecR), i = .int .i64 k ∧ k ≤ nB ∧ Q (((((((w.alloc (Obj.cells #[Value.string s.nm, Value.slice s.aB nB s.cB, Value.slice s.aL s.lines.length s.cL, Value.slice s.aS s.srcs.length s.cS, Value.slice aY nY s.cY] 27)).alloc (Obj.cells #[Value.slice p.aC p.closed.length p.cC, Value.slice p.aK p.rows.length p.cK] 31)).jk k0).jk k1).jk kR).alloc (Obj.cells #[Value.slice p2.aC p2.closed.length p2.cC, Value.slice p2.aK p2.rows.length p2.cK] 31)).jk kG) wr ∧ Hid (SecsAt (((((((w.alloc (Obj.cells #[Value.string s.nm, Value.slice s.aB nB s.cB, Value.slice s.aL s.lines.length s.cL, Value.slice s.aS s.srcs.length s.cS, Value.slice aY nY s.cY] 27)).alloc (Obj.cells #[Value.slice p.aC p.closed.length p.cC, Value.slice p.aK p.rows.length p.cK] 31)).jk k0).jk k1).jk kR).alloc (Obj.cells #[Value.slice p2.aC p2.closed.length p2.cC, Value.slice p2.aK p2.rows.length p2.cK] 31)).jk kG) wr v rs) ∧ Hid (rs.map SecR.d = imF s p gl k)) (fun _ i _ => nB - (intOf i).toNat)
 case atStart => exact ⟨0, [], rfl, Nat.zero_le _, Q.refl _, hh ⟨World.ownsRow_nil _ _ _ _, fun r hr => by cases hr⟩, hh (by rw [HI0.o]; rfl)⟩
 case round =>
  obtain ⟨k, rs, rfl, hk, ⟨kk, rfl⟩, HSEC, HD⟩ := hrel
  by_cases hlt : k < nB
  rotate_left
  ·obtain rfl : nB = k := by omega
   obtain ⟨A, c, rfl⟩ := own_slice' HSEC.o.1
   have HIM2 : Hid (rs.map SecR.d = IM) := hh (by rw [HD.o, HIM.o])
   have HLE : Hid (IM.length = rs.length) := hh (by rw [← HIM2.o, List.length_map])
   clear HBA HBL BDC MVC SGC HIS HSG
   go_wp2_with fail
   go_ret2
   exact ⟨A, c, rs, by rw [HLE.o]; rfl, Q.i, by rw [HLE.o]; exact (HSEC.o.q Q.i).low Q.i, HIM2.o⟩
  have k00 : (0 : Int) ≤ (k : Int) := by omega
  have k01 : (k : Int) < (nB : Int) := by omega
  obtain ⟨g9, rfl, hg9, hc9⟩ := rowI_win HV9.o HGL.o (by omega)
  have x1 := (hc9.o k hlt).1
  obtain ⟨x, ex⟩ : ∃ x, gl.getD k 0 = x := ⟨_, rfl⟩
  rw [ex] at x1
  have oG : Old g9 (((((((w.alloc (Obj.cells #[Value.string s.nm, Value.slice s.aB nB s.cB, Value.slice s.aL s.lines.length s.cL, Value.slice s.aS s.srcs.length s.cS, Value.slice aY nY s.cY] 27)).alloc (Obj.cells #[Value.slice p.aC p.closed.length p.cC, Value.slice p.aK p.rows.length p.cK] 31)).jk k0).jk k1).jk kR).alloc (Obj.cells #[Value.slice p2.aC p2.closed.length p2.cC, Value.slice p2.aK p2.rows.length p2.cK] 31)).jk kG) := ⟨World.block_lt_of_cell? _ _ x1⟩
  have HIK := hh (HIF.o k)
  rw [ex] at HIK
  by_cases hx : x = (k : Int)
  rotate_left
  ·have hx' : (x != (k : Int)) = true := by simpa using hx
   have EIK : Hid (imF s p gl (k + 1) = imF s p gl k) := hh (by rw [HIK.o, if_neg hx])
   clear hx HIK
   go_wp2_with fail
   go_roundw
   case rel => exact ⟨k + 1, rs, by go_num, by omega, Q.jk (Q.refl _) kk, HSEC, hh (by rw [EIK.o]; exact HD.o)⟩
   case measure => simp [intOf] <;> omega
  subst hx
  have EX := hh ex
  have EIK : Hid (imF s p gl (k + 1) = imF s p gl k ++ [imS s p gl k]) := hh (by rw [HIK.o, if_pos rfl])
  have HLT := hh hlt
  clear HIK ex hlt hk
  go_wp2_with fail
  go_loopw [46] (fun i wr => ∃ (j m : Nat) (A1 : Option Addr) (c1 : Nat), i = .int .i64 j ∧ j ≤ nB ∧ Q (((((((((w.alloc (Obj.cells #[Value.string s.nm, Value.slice s.aB nB s.cB, Value.slice s.aL s.lines.length s.cL, Value.slice s.aS s.srcs.length s.cS, Value.slice aY nY s.cY] 27)).alloc (Obj.cells #[Value.slice p.aC p.closed.length p.cC, Value.slice p.aK p.rows.length p.cK] 31)).jk k0).jk k1).jk kR).alloc (Obj.cells #[Value.slice p2.aC p2.closed.length p2.cC, Value.slice p2.aK p2.rows.length p2.cK] 31)).jk kG).jk kk).alloc (Obj.cells #[(Value.slice A1 m c1), (Value.slice none 0 0), .bool false] 64)) wr ∧ Hid ((busF gl k j).length = m) ∧ Hid (RowI (((((((((w.alloc (Obj.cells #[Value.string s.nm, Value.slice s.aB nB s.cB, Value.slice s.aL s.lines.length s.cL, Value.slice s.aS s.srcs.length s.cS, Value.slice aY nY s.cY] 27)).alloc (Obj.cells #[Value.slice p.aC p.closed.length p.cC, Value.slice p.aK p.rows.length p.cK] 31)).jk k0).jk k1).jk kR).alloc (Obj.cells #[Value.slice p2.aC p2.closed.length p2.cC, Value.slice p2.aK p2.rows.length p2.cK] 31)).jk kG).jk kk).alloc (Obj.cells #[(Value.slice A1 m c1), (Value.slice none 0 0), .bool false] 64)) wr (.slice A1 m c1) (busF gl k j))) (fun i _ => nB - (intOf i).toNat)
  case atStart => exact ⟨0, 0, none, 0, rfl, Nat.zero_le _, (by repeat' (first | exact Q.refl _ | refine Q.alloc ?_ _ | refine Q.jk ?_ _ | refine Q.drew ?_)), hh rfl, hh (RowI.nil _ _)⟩
  case round =>
   obtain ⟨j, m, A1, c1, rfl, hj, ⟨k2, rfl⟩, HML, HR1⟩ := hrel
   by_cases hlj : j < nB
   ·have x2 := (hc9.o j hlj).1
    have j0 : (0 : Int) ≤ (j : Int) := by omega
    have j1 : (j : Int) < (nB : Int) := by omega
    have HBS := hh (busF_succ gl k j)
    have hm4 : m ≤ j := by have := busF_len gl k j; rw [HML.o] at this; exact this
    generalize gl.getD j 0 = x at x2 HBS
    by_cases hx : x = (k : Int)
    ·have hx' : (x == (k : Int)) = true := by simpa using hx
     have EB1 : Hid (busF gl k (j + 1) = busF gl k j ++ [(j : Int)]) := hh (by rw [HBS.o, if_pos hx])
     clear hx HBS
     go_wp2_with (first | (at_builtin; refine wpList_app_int rfl _ _ rfl (((((((((w.alloc (Obj.cells #[Value.string s.nm, Value.slice s.aB nB s.cB, Value.slice s.aL s.lines.length s.cL, Value.slice s.aS s.srcs.length s.cS, Value.slice aY nY s.cY] 27)).alloc (Obj.cells #[Value.slice p.aC p.closed.length p.cC, Value.slice p.aK p.rows.length p.cK] 31)).jk k0).jk k1).jk kR).alloc (Obj.cells #[Value.slice p2.aC p2.closed.length p2.cC, Value.slice p2.aK p2.rows.length p2.cK] 31)).jk kG).jk kk).alloc (Obj.cells #[(Value.slice A1 m c1), (Value.slice none 0 0), .bool false] 64)) (.slice A1 m c1) (busF gl k j) (j : Int) _ rfl rfl (HR1.o.q Q.i) (by simp [go_sem, World.size_jk]) (by rw [HML.o]; omega) Q.i ?_; intro v' kx hri hgr; obtain ⟨A', c', rfl⟩ := own_slice' hri; rw [show (busF gl k j ++ [(j : Int)]).length = m + 1 by rw [List.length_append, HML.o]; rfl] at hri ⊢) | fail)
     go_roundw
     case rel =>
      exact ⟨j + 1, m + 1, A', c', by go_num, by omega, Q.i, hh (by rw [EB1.o, List.length_append, HML.o]; rfl), hh (by rw [EB1.o]; exact own_swap (by simp) hri)⟩
     case measure => simp [intOf] <;> omega
    have hx' : (x == (k : Int)) = false := by simpa using hx
    have EB1 : Hid (busF gl k (j + 1) = busF gl k j) := hh (by rw [HBS.o, if_neg hx])
    clear hx HBS
    go_wp2_with fail
    go_roundw
    case rel =>
     exact ⟨j + 1, m, A1, c1, by go_num, by omega, Q.i, hh (by rw [EB1.o]; exact HML.o), hh (by rw [EB1.o]; exact HR1.o)⟩
    case measure => simp [intOf] <;> omega
   obtain rfl : nB = j := by omega
   have hm4 : m ≤ nB := by have := busF_len gl k nB; rw [HML.o] at this; exact this
   have HIS1 := hh (HIS.o k)
   have HBA1 := hh (HBA.o k)
   have HBL1 := hh (HBL.o k)
   have BDC1 := hh fun w' hq hp hc hr => BDC.o p2 k w' hq hp hc hr HLT.o EX.o
   generalize busF gl k nB = bl at HML HR1 HIS1
   generalize bdI s (rsP p) gl k nY = bm at HIS1 HBA1 HBL1 BDC1
   obtain ⟨nM, eM⟩ : ∃ n, bm.length = n := ⟨_, rfl⟩
   have HNM := hh eM
   have nm1 : nM ≤ 16 := by have := HBL1.o; omega
   clear HBL1 eM hlj hj
   go_wp2_with (first | (go_at_call 41; (with_reducible refine (BDC1.o _ Q.i (HP2.o.q Q.i) HC2.o HR2.o).mono ?_); rintro e w' ⟨v65, rfl, ⟨kb, rfl⟩, hb65⟩; obtain ⟨a65, c65, rfl⟩ := own_slice' hb65; rw [HNM.o] at hb65 ⊢; have HB65 := hh hb65; clear hb65) | fail)
   go_loopw [67] (fun i wr => ∃ (j : Nat) (A2 : Option Addr) (c2 : Nat), i = .int .i64 j ∧ j ≤ nM ∧ Q (((((((((w.alloc (Obj.cells #[Value.string s.nm, Value.slice s.aB nB s.cB, Value.slice s.aL s.lines.length s.cL, Value.slice s.aS s.srcs.length s.cS, Value.slice aY nY s.cY] 27)).alloc (Obj.cells #[Value.slice p.aC p.closed.length p.cC, Value.slice p.aK p.rows.length p.cK] 31)).jk k0).jk k1).jk kR).alloc (Obj.cells #[Value.slice p2.aC p2.closed.length p2.cC, Value.slice p2.aK p2.rows.length p2.cK] 31)).jk kG).jk kk).alloc (Obj.cells #[(Value.slice A1 m c1), (Value.slice A2 j c2), .bool false] 64)) wr ∧ Hid (RowI (((((((((w.alloc (Obj.cells #[Value.string s.nm, Value.slice s.aB nB s.cB, Value.slice s.aL s.lines.length s.cL, Value.slice s.aS s.srcs.length s.cS, Value.slice aY nY s.cY] 27)).alloc (Obj.cells #[Value.slice p.aC p.closed.length p.cC, Value.slice p.aK p.rows.length p.cK] 31)).jk k0).jk k1).jk kR).alloc (Obj.cells #[Value.slice p2.aC p2.closed.length p2.cC, Value.slice p2.aK p2.rows.length p2.cK] 31)).jk kG).jk kk).alloc (Obj.cells #[(Value.slice A1 m c1), (Value.slice A2 j c2), .bool false] 64)) wr (.slice A1 m c1) bl) ∧ Hid (RowI (((((((((w.alloc (Obj.cells #[Value.string s.nm, Value.slice s.aB nB s.cB, Value.slice s.aL s.lines.length s.cL, Value.slice s.aS s.srcs.length s.cS, Value.slice aY nY s.cY] 27)).alloc (Obj.cells #[Value.slice p.aC p.closed.length p.cC, Value.slice p.aK p.rows.length p.cK] 31)).jk k0).jk k1).jk kR).alloc (Obj.cells #[Value.slice p2.aC p2.closed.length p2.cC, Value.slice p2.aK p2.rows.length p2.cK] 31)).jk kG).jk kk).alloc (Obj.cells #[(Value.slice A1 m c1), (Value.slice A2 j c2), .bool false] 64)) wr (.slice a65 nM c65) bm) ∧ Hid (RowM (((((((((w.alloc (Obj.cells #[Value.string s.nm, Value.slice s.aB nB s.cB, Value.slice s.aL s.lines.length s.cL, Value.slice s.aS s.srcs.length s.cS, Value.slice aY nY s.cY] 27)).alloc (Obj.cells #[Value.slice p.aC p.closed.length p.cC, Value.slice p.aK p.rows.length p.cK] 31)).jk k0).jk k1).jk kR).alloc (Obj.cells #[Value.slice p2.aC p2.closed.length p2.cC, Value.slice p2.aK p2.rows.length p2.cK] 31)).jk kG).jk kk).alloc (Obj.cells #[(Value.slice A1 m c1), (Value.slice A2 j c2), .bool false] 64)) wr (.slice A2 j c2) (memF s bl (bm.take j)))) (fun i _ => nM - (intOf i).toNat)
   case atStart => exact ⟨0, none, 0, rfl, Nat.zero_le _, (by repeat' (first | exact Q.refl _ | refine Q.alloc ?_ _ | refine Q.jk ?_ _ | refine Q.drew ?_)), hh (HR1.o.q (by repeat' (first | exact Q.refl _ | refine Q.alloc ?_ _ | refine Q.jk ?_ _ | refine Q.drew ?_))), hh (HB65.o.low (by repeat' (first | exact Q.refl _ | refine Q.alloc ?_ _ | refine Q.jk ?_ _ | refine Q.drew ?_))), hh (World.ownsRow_nil _ _ _ _)⟩
   case round =>
    obtain ⟨j, A2, c2, rfl, hj, ⟨k3, rfl⟩, HV1, HV65, HV2⟩ := hrel
    by_cases hlj : j < nM
    rotate_left
    ·obtain rfl : nM = j := by omega
     have HTK : Hid (bm.take nM = bm) := hh (List.take_of_length_le (by rw [HNM.o]; exact Nat.le_refl _))
     rw [HTK.o] at HV2
     have HLM : Hid ((memF s bl bm).length = nM) := hh (by unfold memF; rw [List.length_map, HNM.o])
     generalize memF s bl bm = ml at HV2 HLM HIS1
     have MV1 := hh fun w' hq hl => MVC.o w' A1 m c1 bl hq hl (by omega)
     generalize mvB s p bl = mv at MV1 HIS1
     clear HBA1 BDC1 HTK HV65 hlj hj
     go_wp2_with (first
      | (go_at_call 67; (with_reducible refine (MV1.o _ Q.i (rdn_of_row (HV1.o.q Q.i) HML.o)).q ?_); intro km; have HV1c : Hid (RowI (((((((((w.alloc (Obj.cells #[Value.string s.nm, Value.slice s.aB nB s.cB, Value.slice s.aL s.lines.length s.cL, Value.slice s.aS s.srcs.length s.cS, Value.slice aY nY s.cY] 27)).alloc (Obj.cells #[Value.slice p.aC p.closed.length p.cC, Value.slice p.aK p.rows.length p.cK] 31)).jk k0).jk k1).jk kR).alloc (Obj.cells #[Value.slice p2.aC p2.closed.length p2.cC, Value.slice p2.aK p2.rows.length p2.cK] 31)).jk kG).jk kk).alloc (Obj.cells #[(Value.slice A1 m c1), (Value.slice A2 nM c2), .bool mv] 64)) (((((((((((w.alloc (Obj.cells #[Value.string s.nm, Value.slice s.aB nB s.cB, Value.slice s.aL s.lines.length s.cL, Value.slice s.aS s.srcs.length s.cS, Value.slice aY nY s.cY] 27)).alloc (Obj.cells #[Value.slice p.aC p.closed.length p.cC, Value.slice p.aK p.rows.length p.cK] 31)).jk k0).jk k1).jk kR).alloc (Obj.cells #[Value.slice p2.aC p2.closed.length p2.cC, Value.slice p2.aK p2.rows.length p2.cK] 31)).jk kG).jk kk).alloc (Obj.cells #[(Value.slice A1 m c1), (Value.slice A2 nM c2), .bool mv] 64)).jk k3).jk km) (.slice A1 m c1) bl) := hh (own_swap2 (W := (((((((((w.alloc (Obj.cells #[Value.string s.nm, Value.slice s.aB nB s.cB, Value.slice s.aL s.lines.length s.cL, Value.slice s.aS s.srcs.length s.cS, Value.slice aY nY s.cY] 27)).alloc (Obj.cells #[Value.slice p.aC p.closed.length p.cC, Value.slice p.aK p.rows.length p.cK] 31)).jk k0).jk k1).jk kR).alloc (Obj.cells #[Value.slice p2.aC p2.closed.length p2.cC, Value.slice p2.aK p2.rows.length p2.cK] 31)).jk kG).jk kk).alloc (Obj.cells #[(Value.slice A1 m c1), (Value.slice A2 nM c2), .bool false] 64))) (by simp) (ownsRow_q HV1.o Q.i)); have HV2c : Hid (RowM (((((((((w.alloc (Obj.cells #[Value.string s.nm, Value.slice s.aB nB s.cB, Value.slice s.aL s.lines.length s.cL, Value.slice s.aS s.srcs.length s.cS, Value.slice aY nY s.cY] 27)).alloc (Obj.cells #[Value.slice p.aC p.closed.length p.cC, Value.slice p.aK p.rows.length p.cK] 31)).jk k0).jk k1).jk kR).alloc (Obj.cells #[Value.slice p2.aC p2.closed.length p2.cC, Value.slice p2.aK p2.rows.length p2.cK] 31)).jk kG).jk kk).alloc (Obj.cells #[(Value.slice A1 m c1), (Value.slice A2 nM c2), .bool mv] 64)) (((((((((((w.alloc (Obj.cells #[Value.string s.nm, Value.slice s.aB nB s.cB, Value.slice s.aL s.lines.length s.cL, Value.slice s.aS s.srcs.length s.cS, Value.slice aY nY s.cY] 27)).alloc (Obj.cells #[Value.slice p.aC p.closed.length p.cC, Value.slice p.aK p.rows.length p.cK] 31)).jk k0).jk k1).jk kR).alloc (Obj.cells #[Value.slice p2.aC p2.closed.length p2.cC, Value.slice p2.aK p2.rows.length p2.cK] 31)).jk kG).jk kk).alloc (Obj.cells #[(Value.slice A1 m c1), (Value.slice A2 nM c2), .bool mv] 64)).jk k3).jk km) (.slice A2 nM c2) ml) := hh (own_swap2 (W := (((((((((w.alloc (Obj.cells #[Value.string s.nm, Value.slice s.aB nB s.cB, Value.slice s.aL s.lines.length s.cL, Value.slice s.aS s.srcs.length s.cS, Value.slice aY nY s.cY] 27)).alloc (Obj.cells #[Value.slice p.aC p.closed.length p.cC, Value.slice p.aK p.rows.length p.cK] 31)).jk k0).jk k1).jk kR).alloc (Obj.cells #[Value.slice p2.aC p2.closed.length p2.cC, Value.slice p2.aK p2.rows.length p2.cK] 31)).jk kG).jk kk).alloc (Obj.cells #[(Value.slice A1 m c1), (Value.slice A2 nM c2), .bool false] 64))) (by simp) (ownsRow_q HV2.o Q.i)))
      | (at_builtin; refine wpList_app_sec rfl _ _ rfl (((((((w.alloc (Obj.cells #[Value.string s.nm, Value.slice s.aB nB s.cB, Value.slice s.aL s.lines.length s.cL, Value.slice s.aS s.srcs.length s.cS, Value.slice aY nY s.cY] 27)).alloc (Obj.cells #[Value.slice p.aC p.closed.length p.cC, Value.slice p.aK p.rows.length p.cK] 31)).jk k0).jk k1).jk kR).alloc (Obj.cells #[Value.slice p2.aC p2.closed.length p2.cC, Value.slice p2.aK p2.rows.length p2.cK] 31)).jk kG) u10 rs ⟨⟨bl, ml, mv⟩, A1, c1, A2, c2⟩ _ rfl rfl (HSEC.o.q Q.i) (by dsimp only; rw [HML.o]; exact (RowI.low (RowI.q HV1c.o Q.i) Q.i)) (by dsimp only; rw [HLM.o]; exact World.ownsRow.mono (ownsRow_q HV2c.o Q.i) (by simp [World.size_jk]; omega)) (by unfold secC; dsimp only; rw [HML.o, HLM.o]; exact cells_of (HB.new _ _ _ _ (by simp [World.size_jk]))) (by have h1 := HIL.o k; have h2 := congrArg List.length HD.o; have h3 := HLT.o; rw [List.length_map] at h2; omega) Q.i ?_; intro A' c' kx hsec)
      | fail)
     go_roundw
     case rel => exact ⟨k + 1, rs ++ [⟨⟨bl, ml, mv⟩, A1, c1, A2, c2⟩], by go_num, by omega, Q.i, hh hsec, hh (by rw [List.map_append, HD.o, EIK.o, HIS1.o]; rfl)⟩
     case measure => simp [intOf] <;> omega
    obtain ⟨kq, ekq, hkq⟩ := HBA1.o j (by rw [HNM.o]; exact hlj)
    obtain ⟨y, hy⟩ := HYB.o kq hkq
    obtain ⟨g, o, rfl, og, hc⟩ := HAY.o kq y hy
    obtain ⟨q0, q1, q2, q3, q4, q5, q6, q7, q8, q9, q10, q11⟩ := by12 hc
    obtain ⟨g65, rfl, hg65, hc65⟩ := rowI_win HV65.o HNM.o (by omega)
    have x65 := (hc65.o j hlj).1
    have o65 : Old g65 ((((((((((w.alloc (Obj.cells #[Value.string s.nm, Value.slice s.aB nB s.cB, Value.slice s.aL s.lines.length s.cL, Value.slice s.aS s.srcs.length s.cS, Value.slice (some ⟨g, o, none⟩) nY s.cY] 27)).alloc (Obj.cells #[Value.slice p.aC p.closed.length p.cC, Value.slice p.aK p.rows.length p.cK] 31)).jk k0).jk k1).jk kR).alloc (Obj.cells #[Value.slice p2.aC p2.closed.length p2.cC, Value.slice p2.aK p2.rows.length p2.cK] 31)).jk kG).jk kk).alloc (Obj.cells #[(Value.slice A1 m c1), (Value.slice A2 j c2), .bool false] 64)).jk k3) := ⟨World.block_lt_of_cell? _ _ x65⟩
    rw [ekq] at x65
    have SG1 := hh fun w' hq hl => SGC.o kq y hy w' A1 m c1 bl hq hl (by omega)
    have HS1 := hh (HSG.o kq y bl hy)
    generalize sgB y (s.lks kq) bl = S at SG1 HS1
    have HMF : Hid (memF s bl (bm.take (j + 1)) = memF s bl (bm.take j) ++ [((kq : Int), S)]) := hh (by unfold memF; rw [take_snoc _ bm j 0 (by rw [HNM.o]; exact hlj), ekq, Int.toNat_natCast, HS1.o])
    have HLF : Hid ((memF s bl (bm.take j)).length = j) := hh (by unfold memF; rw [List.length_map, List.length_take, HNM.o]; omega)
    have j0 : (0 : Int) ≤ (j : Int) := by omega
    have j1 : (j : Int) < (nM : Int) := by omega
    have k20 : (0 : Int) ≤ (kq : Int) := by omega
    have k21 : (kq : Int) < (nY : Int) := by omega
    generalize memF s bl (bm.take j) = ml at HV2 HMF HLF
    clear hc hy hc65 ekq
    go_wp2_with fail
    obtain ⟨V, hV⟩ : ∃ V, V = (((((((((w.alloc (Obj.cells #[Value.string s.nm, Value.slice s.aB nB s.cB, Value.slice s.aL s.lines.length s.cL, Value.slice s.aS s.srcs.length s.cS, Value.slice (some ⟨g, o, none⟩) nY s.cY] 27)).alloc (Obj.cells #[Value.slice p.aC p.closed.length p.cC, Value.slice p.aK p.rows.length p.cK] 31)).jk k0).jk k1).jk kR).alloc (Obj.cells #[Value.slice p2.aC p2.closed.length p2.cC, Value.slice p2.aK p2.rows.length p2.cK] 31)).jk kG).jk kk).alloc (Obj.cells #[(Value.slice A1 m c1), (Value.slice A2 j c2), .bool false] 64)) := ⟨_, rfl⟩
    have HQV : Hid (Q w V) := hh (by rw [hV]; exact Q.i)
    have hb12 : HB V (w.heap.size + 1 + 1 + k0.os.size + k1.os.size + kR.os.size + 1 + kG.os.size + kk.os.size) #[.slice A1 m c1, .slice A2 j c2, .bool false] 64 := by rw [hV]; exact HB.new _ _ _ _ (by simp [World.size_jk])
    have u0 := hb12.cell 0
    have u1 := hb12.cell 1
    have uf := hb12.soft 1
    simp only [List.getElem?_toArray, List.getElem?_cons_zero, List.getElem?_cons_succ] at u0 u1
    have ou := hb12.old
    have uY : V.cell? ⟨w.heap.size, 4, none⟩ = some (Value.slice (some ⟨g, o, none⟩) nY s.cY) := by rw [hV]; simp [go_sem]
    have oY : Old w.heap.size V := ⟨Nat.lt_of_lt_of_le (by simp) (show (w.alloc (Obj.cells #[Value.string s.nm, Value.slice s.aB nB s.cB, Value.slice s.aL s.lines.length s.cL, Value.slice s.aS s.srcs.length s.cS, Value.slice (some ⟨g, o, none⟩) nY s.cY] 27)).heap.size ≤ V.heap.size from (by rw [hV]; exact (show Q (w.alloc (Obj.cells #[Value.string s.nm, Value.slice s.aB nB s.cB, Value.slice s.aL s.lines.length s.cL, Value.slice s.aS s.srcs.length s.cS, Value.slice (some ⟨g, o, none⟩) nY s.cY] 27)) (((((((((w.alloc (Obj.cells #[Value.string s.nm, Value.slice s.aB nB s.cB, Value.slice s.aL s.lines.length s.cL, Value.slice s.aS s.srcs.length s.cS, Value.slice (some ⟨g, o, none⟩) nY s.cY] 27)).alloc (Obj.cells #[Value.slice p.aC p.closed.length p.cC, Value.slice p.aK p.rows.length p.cK] 31)).jk k0).jk k1).jk kR).alloc (Obj.cells #[Value.slice p2.aC p2.closed.length p2.cC, Value.slice p2.aK p2.rows.length p2.cK] 31)).jk kG).jk kk).alloc (Obj.cells #[(Value.slice A1 m c1), (Value.slice A2 j c2), .bool false] 64)) from Q.i).below.size))⟩
    have oV : Old g V := ⟨Nat.lt_of_lt_of_le og.lt HQV.o.below.size⟩
    have v0 : V.cell? ⟨g, o + kq * 12, none⟩ = some (Value.string y.nm) := (HQV.o.below.cell (p := ⟨g, o + kq * 12, none⟩) og.lt).trans q0
    have v1 : V.cell? ⟨g, o + kq * 12 + 1, none⟩ = some (Value.int .i64 y.kd) := (HQV.o.below.cell (p := ⟨g, o + kq * 12 + 1, none⟩) og.lt).trans q1
    have v2 : V.cell? ⟨g, o + kq * 12 + 2, none⟩ = some (Value.int .i64 y.of) := (HQV.o.below.cell (p := ⟨g, o + kq * 12 + 2, none⟩) og.lt).trans q2
    have v3 : V.cell? ⟨g, o + kq * 12 + 3, none⟩ = some (Value.int .i64 y.en) := (HQV.o.below.cell (p := ⟨g, o + kq * 12 + 3, none⟩) og.lt).trans q3
    have v4 : V.cell? ⟨g, o + kq * 12 + 4, none⟩ = some (Value.int .i64 y.zr) := (HQV.o.below.cell (p := ⟨g, o + kq * 12 + 4, none⟩) og.lt).trans q4
    have v5 : V.cell? ⟨g, o + kq * 12 + 5, none⟩ = some (Value.int .i64 y.zx) := (HQV.o.below.cell (p := ⟨g, o + kq * 12 + 5, none⟩) og.lt).trans q5
    have v6 : V.cell? ⟨g, o + kq * 12 + 6, none⟩ = some (Value.slice y.la y.ln y.lc) := (HQV.o.below.cell (p := ⟨g, o + kq * 12 + 6, none⟩) og.lt).trans q6
    have v7 : V.cell? ⟨g, o + kq * 12 + 7, none⟩ = some (Value.bool y.cl) := (HQV.o.below.cell (p := ⟨g, o + kq * 12 + 7, none⟩) og.lt).trans q7
    have v8 : V.cell? ⟨g, o + kq * 12 + 8, none⟩ = some (Value.int .i64 y.ct) := (HQV.o.below.cell (p := ⟨g, o + kq * 12 + 8, none⟩) og.lt).trans q8
    have v9 : V.cell? ⟨g, o + kq * 12 + 9, none⟩ = some (Value.int .i64 y.vt) := (HQV.o.below.cell (p := ⟨g, o + kq * 12 + 9, none⟩) og.lt).trans q9
    have v10 : V.cell? ⟨g, o + kq * 12 + 10, none⟩ = some (Value.int .i64 y.sa) := (HQV.o.below.cell (p := ⟨g, o + kq * 12 + 10, none⟩) og.lt).trans q10
    have v11 : V.cell? ⟨g, o + kq * 12 + 11, none⟩ = some (Value.int .i64 y.tr) := (HQV.o.below.cell (p := ⟨g, o + kq * 12 + 11, none⟩) og.lt).trans q11
    rw [← hV] at HV1 HV2 HV65 ⊢
    clear hb12 q0 q1 q2 q3 q4 q5 q6 q7 q8 q9 q10 q11 x65
    have HVV := hh hV
    clear hV HAY MVC PC SC BDC GRC HP2 HSEC HV9 hg9 hc9 HIS HIF HBL HBA HSG SGC RS
    go_region_law (first
     | ((refine step_call2 rfl _ _ _ rfl 66 #[.agg #[Value.string y.nm, Value.int .i64 y.kd, Value.int .i64 y.of, Value.int .i64 y.en, Value.int .i64 y.zr, Value.int .i64 y.zx, Value.slice y.la y.ln y.lc, Value.bool y.cl, Value.int .i64 y.ct, Value.int .i64 y.vt, Value.int .i64 y.sa, Value.int .i64 y.tr], .slice A1 m c1] _ (by simp [execOp, resolve, invoke, go_sem]; done) (SG1.o _ (Q.trans HQV.o (by repeat' (first | exact Q.refl _ | refine Q.jk ?_ _ | refine Q.alloc ?_ _ | refine Q.drew ?_))) (rdn_of_row (HV1.o.q (by repeat' (first | exact Q.refl _ | refine Q.jk ?_ _ | refine Q.alloc ?_ _ | refine Q.drew ?_))) HML.o)) ?_); rintro e w' ⟨rfl, ks, rfl⟩; refine ⟨_, rfl, ?_⟩)
     | ((refine step_app_mem rfl _ _ rfl V (.slice A2 j c2) ml ((kq : Int), S) _ (by rfl) (by rfl) (ownsRow_q HV2.o Q.i) (cells_of (HB.new _ _ _ _ (by simp [go_sem, World.size_jk]))) (by rw [HLF.o]; omega) Q.i ?_); intro A' c' kx hrm hgr; rw [HLF.o] at hrm hgr ⊢; have HV1b : Hid (RowI V (V.jk kx) (.slice A1 m c1) bl) := hh (hgr _ _ _ _ _ (ownsRow_q HV1.o Q.i) (own_apart2 (ownsRow_q HV2.o (Q.refl _)) (ownsRow_q HV1.o Q.i) (by decide))).1; have HV65b : Hid (RowI V (V.jk kx) (.slice (some ⟨g65, 0, none⟩) nM c65) bm) := hh (hgr _ _ _ _ _ (ownsRow_q HV65.o Q.i) (own_apart2 (ownsRow_q HV2.o (Q.refl _)) (ownsRow_q HV65.o Q.i) (by decide))).1; have HV2b : Hid (RowM V (V.jk kx) (.slice A' (j + 1) c') (ml ++ [((kq : Int), S)])) := hh hrm; clear hrm hgr))
    all_goals
     have hV := HVV.o
     subst hV
     go_wp2_with fail
     go_roundw
     case rel => exact ⟨j + 1, A', c', by go_num, by omega, Q.i, hh (own_swap (by simp) HV1b.o), hh (own_swap (by simp) HV65b.o), hh (by rw [HMF.o]; exact own_swap (by simp) HV2b.o)⟩
     case measure => simp [intOf] <;> omega
end Go.Proofs.YtcjflafjmdfanaaGreatDoor
