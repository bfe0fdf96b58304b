
/- What Of of the reference 33 returns: the sections of the bus image, or the first error. -/
import Derived.Test.YtcjflafjmdfanaaGreatDoorBv32
import Derived.Test.YtcjflafjmdfanaaGreatDoorBv20
import Derived.Test.YtcjflafjmdfanaaGreatDoorBv22
set_option maxHeartbeats 64000000
set_option maxRecDepth 100000
set_option linter.unusedSimpArgs false
set_option linter.unusedVariables false
namespace Go.Sub
open Go
theorem busF_has (gl : List Int) (q : Int) (n b : Nat) (hb : b < n) : (busF gl q n).contains (b : Int) = decide (gl.getD b 0 = q) := by
 rw [Bool.eq_iff_iff, List.contains_iff_mem, decide_eq_true_iff]
 unfold busF
 constructor
 ·intro h
  obtain ⟨b', h1, h2⟩ := List.mem_map.1 h
  have e : b' = b := Int.ofNat.inj h2
  subst e
  simpa using (List.mem_filter.1 h1).2
 intro h
 exact List.mem_map.2 ⟨b, List.mem_filter.2 ⟨List.mem_range.2 hb, by simpa using h⟩, rfl⟩
theorem any_succ (f : Nat → Bool) (n : Nat) : (List.range (n + 1)).any f = ((List.range n).any f || f n) := by
 rw [List.range_succ, List.any_append]
 simp
end Go.Sub
namespace Go.Proofs.YtcjflafjmdfanaaGreatDoor
open Go.RowKit Go.Sub
attribute [local go_sem ↓] Go.wp_at_zero Go.wp_at_succ
def RetOf (E : Int) (l : List Sec) (w : World) (e : Ending) (w' : World) : Prop := (E ≠ 0 ∧ e = .returned (.tuple #[.slice none 0 0, .int .i64 E]) ∧ Q w w') ∨ (E = 0 ∧ RetIm l w e w')
theorem good_lens {w : World} {s : Sta} {p : Pos} (h : GoodAt w s p) : ∀ r ∈ p.rows, r.l.length < 1000 := by
 intro r hr
 have hl := h.lens
 obtain ⟨k, hk⟩ := List.getElem?_of_mem hr
 obtain ⟨y, hy⟩ : ∃ y, s.bays[k]? = some y := ⟨_, List.getElem?_eq_getElem (by have := (List.getElem?_eq_some_iff.1 hk).1; omega)⟩
 obtain ⟨r', hr', hl, _⟩ := psE_row h.e2 k y hy
 rw [hk] at hr'
 obtain rfl : r = r' := Option.some.inj hr'
 have := (h.st.lk k y hy).1.2
 rcases (h.ok k y hy).ln with h | h <;> omega
theorem r33of_g (s : Sta) (p : Pos) (w : World) (h : GoodAt w s p) :
  Calls Tryz.prog 28 #[.agg #[Value.string s.nm, Value.slice s.aB s.buses.length s.cB, Value.slice s.aL s.lines.length s.cL, Value.slice s.aS s.srcs.length s.cS, Value.slice s.aY s.bays.length s.cY], .agg #[Value.slice p.aC p.closed.length p.cC, Value.slice p.aK p.rows.length p.cK]] w (RetIm (imI s p) w) := by
 have HGA := hh h
 have C5 := hh fun (w' : World) (hq : Q w w') => r5check_c s w' (h.st.q hq)
 have C6 := hh fun (w' : World) (hq : Q w w') => r6check_c s p w' (h.st.q hq) (h.ps.q hq)
 simp only [h.e1, h.e2] at C5 C6
 have hlens := h.lens
 have RS := hh fun (w' : World) (hq : Q w w') => r6resolve_c p w' (h.ps.q hq) (by omega) (by omega) (good_lens h)
 unfold RetP at RS
 have GOOD := hh fun (p2 : Pos) (w' : World) (hq : Q w w') (hp : PosAt w' p2) (hc : p2.closed = p.closed) (hr : p2.rows.map Ro.l = p.rows.map fun r => r.l.map rs1) => (⟨h.st.q hq, hp, h.e1, psE_rs h.e2 hc hr⟩ : GoodAt w' s p2)
 have GRC : Hid (∀ (p2 : Pos) (w' : World) (hq : Q w w') (hp : PosAt w' p2) (hc : p2.closed = p.closed) (hr : p2.rows.map Ro.l = p.rows.map fun r => r.l.map rs1), Calls Tryz.prog 54 #[.agg #[Value.string s.nm, Value.slice s.aB s.buses.length s.cB, Value.slice s.aL s.lines.length s.cL, Value.slice s.aS s.srcs.length s.cS, Value.slice s.aY s.bays.length s.cY], .agg #[Value.slice p2.aC p2.closed.length p2.cC, Value.slice p2.aK p2.rows.length p2.cK]] w' (RetI (grI s (rsP p)) w')) := hh fun p2 w' hq hp hc hr => by rw [← grI_congr (rsP_rows hr)]; exact r6Groups_g s p2 w' (GOOD.o p2 w' hq hp hc hr)
 have BDC : Hid (∀ (p2 : Pos) (k : Nat) (w' : World) (hq : Q w w') (hp : PosAt w' p2) (hc : p2.closed = p.closed) (hr : p2.rows.map Ro.l = p.rows.map fun r => r.l.map rs1) (hk : k < s.buses.length) (he : (grI s (rsP p)).getD k 0 = (k : Int)), Calls Tryz.prog 50 #[.agg #[Value.string s.nm, Value.slice s.aB s.buses.length s.cB, Value.slice s.aL s.lines.length s.cL, Value.slice s.aS s.srcs.length s.cS, Value.slice s.aY s.bays.length s.cY], .agg #[Value.slice p2.aC p2.closed.length p2.cC, Value.slice p2.aK p2.rows.length p2.cK], .agg #[.int .i64 1, .int .i64 k]] w' (RetI (bdI s (rsP p) (grI s (rsP p)) k s.bays.length) w')) := hh fun p2 k w' hq hp hc hr hk he => by
  have := r6Boundary_g s p2 k w' (GOOD.o p2 w' hq hp hc hr) hk
  rw [grI_congr (rsP_rows hr), he, bdI_congr (rsP_rows hr)] at this
  exact this
 unfold RetI at GRC BDC
 have HGL := hh (grI_len s (rsP p))
 have HIM : Hid (imI s p = imF s p (grI s (rsP p)) s.buses.length) := hh rfl
 have HIS : Hid (∀ q : Int, imS s p (grI s (rsP p)) q = ⟨busF (grI s (rsP p)) q s.buses.length, memF s (busF (grI s (rsP p)) q s.buses.length) (bdI s (rsP p) (grI s (rsP p)) q s.bays.length), mvB s p (busF (grI s (rsP p)) q s.buses.length)⟩) := hh fun q => rfl
 have HBA := hh fun q j => bdI_at s (rsP p) (grI s (rsP p)) q s.bays.length j
 have HBL := hh fun q => bdI_len s (rsP p) (grI s (rsP p)) q s.bays.length
 unfold RetIm
 generalize imI s p = IM at HIM ⊢
 have HIF := hh fun n => imF_succ s p (grI s (rsP p)) n
 have HIL := hh (imF_len s p (grI s (rsP p)))
 have HI0 : Hid (imF s p (grI s (rsP p)) 0 = []) := hh rfl
 generalize grI s (rsP p) = gl at *
 have nb1 : s.buses.length ≤ 4 := by omega
 have nb0 : 1 ≤ s.buses.length := by omega
 have ny1 : s.bays.length ≤ 16 := by omega
 have b0 : (0 : Int) ≤ (s.buses.length : Int) := by omega
 have y0 : (0 : Int) ≤ (s.bays.length : Int) := by omega
 have y1 : (s.bays.length : Int) ≤ 16 := by omega
 have HNK : Hid (p.rows.length = s.bays.length) := hh (by omega)
 have HYB : Hid (∀ k, k < s.bays.length → ∃ y, s.bays[k]? = some y) := hh fun k hk => ⟨_, List.getElem?_eq_getElem hk⟩
 clear h hlens
 go_enter Tryz.func28, Tryz.ntmps28
 go_upto_region 8 with (first | (go_at_call 22; (with_reducible refine (C5.o _ Q.i).q ?_); intro k0) | (go_at_call 23; (with_reducible refine (C6.o _ Q.i).q ?_); intro k1) | (go_at_call 48; (with_reducible refine (RS.o _ Q.i).mono ?_); rintro e w' ⟨p2, rfl, ⟨kR, rfl⟩, hp2, hc2, hr2⟩; have HP2 := hh hp2; have HC2 := hh hc2; have HR2 := hh hr2; clear hp2 hc2 hr2) | (go_at_call 54; (with_reducible refine (GRC.o p2 _ Q.i (HP2.o.q Q.i) HC2.o HR2.o).mono ?_); rintro e w' ⟨v9, rfl, ⟨kG, rfl⟩, hv9⟩; obtain ⟨a9, c9, rfl⟩ := own_slice' hv9; rw [HGL.o] at hv9 ⊢; have HV9 := hh hv9; clear hv9) | fail)
 refine wp_world ?_
 intro U eU
 have hq0 : Q w U := by rw [eU]; exact Q.i
 have hb : HB U w.heap.size #[Value.string s.nm, Value.slice s.aB s.buses.length s.cB, Value.slice s.aL s.lines.length s.cL, Value.slice s.aS s.srcs.length s.cS, Value.slice s.aY s.bays.length s.cY] 27 := by rw [eU]; exact (HB.new w _ _ _ rfl).q Q.i
 have hb2 : HB U (w.heap.size + 1) #[Value.slice p.aC p.closed.length p.cC, Value.slice p.aK p.rows.length p.cK] 31 := by rw [eU]; exact (HB.new (w.alloc (Obj.cells #[Value.string s.nm, Value.slice s.aB s.buses.length s.cB, Value.slice s.aL s.lines.length s.cL, Value.slice s.aS s.srcs.length s.cS, Value.slice s.aY s.bays.length s.cY] 27)) _ _ _ (by simp)).q Q.i
 have hb3 : HB U (w.heap.size + 1 + 1 + k0.os.size + k1.os.size + kR.os.size) #[Value.slice p2.aC p2.closed.length p2.cC, Value.slice p2.aK p2.rows.length p2.cK] 31 := by rw [eU]; exact (HB.new (((((w.alloc (Obj.cells #[Value.string s.nm, Value.slice s.aB s.buses.length s.cB, Value.slice s.aL s.lines.length s.cL, Value.slice s.aS s.srcs.length s.cS, Value.slice s.aY s.bays.length s.cY] 27)).alloc (Obj.cells #[Value.slice p.aC p.closed.length p.cC, Value.slice p.aK p.rows.length p.cK] 31)).jk k0).jk k1).jk kR) _ _ _ (by simp [World.size_jk])).q Q.i
 have HV9 : Hid (RdN U a9 s.buses.length c9 .i64 gl) := hh (by rw [eU]; exact rdn_of_row HV9.o HGL.o)
 have HP2U : Hid (PosAt U p2) := hh (HP2.o.q (by rw [eU]; exact Q.i))
 have HGU := hh (HGA.o.q hq0)
 have HQ0 := hh hq0
 have s0 := hb.cell 0
 have s1 := hb.cell 1
 have s2 := hb.cell 2
 have s3 := hb.cell 3
 have s4 := hb.cell 4
 have p0 := hb2.cell 0
 have p1 := hb2.cell 1
 have r0 := hb3.cell 0
 have r1 := hb3.cell 1
 simp only [List.getElem?_toArray, List.getElem?_cons_zero, List.getElem?_cons_succ] at s0 s1 s2 s3 s4 p0 p1 r0 r1
 have ob := hb.old
 have ob2 := hb2.old
 have ob3 := hb3.old
 have BDU := hh fun (k : Nat) (w' : World) (hq : Q U w') => BDC.o p2 k w' (HQ0.o.trans hq) (HP2U.o.q hq) HC2.o HR2.o
 obtain ⟨g9, o9, rfl, og9, hc9⟩ := HV9.o.at_ (by omega)
 clear eU hb hb2 hb3 hq0 C5 C6 RS GRC BDC GOOD HP2 HV9
 generalize w.heap.size + 1 + 1 + k0.os.size + k1.os.size + kR.os.size = b3 at r0 r1 ob3 ⊢
 generalize w.heap.size + 1 = b2 at p0 p1 ob2 ⊢
 generalize w.heap.size = b at s0 s1 s2 s3 s4 ob ⊢
 obtain ⟨aY, eaY⟩ : ∃ a, s.aY = a := ⟨_, rfl⟩
 rw [eaY] at s4 BDU ⊢
 have EAY := hh eaY
 clear eaY
 go_wp2_with fail
 go_loopw [9, 38] (fun v i wr => ∃ (k : Nat) (rs : List SecR), i = .int .i64 k ∧ k ≤ s.buses.length ∧ Q U wr ∧ Hid (SecsAt U wr v rs) ∧ Hid (rs.map SecR.d = imF s p gl k)) (fun _ i _ => s.buses.length - (intOf i).toNat)
 case atStart => exact ⟨0, [], rfl, Nat.zero_le _, Q.refl _, hh ⟨World.ownsRow_nil _ _ _ _, fun r hr => by cases hr⟩, hh (by rw [HI0.o]; rfl)⟩
 case round =>
  obtain ⟨k, rs, rfl, hk, ⟨kk, rfl⟩, HSEC, HD⟩ := hrel
  by_cases hlt : k < s.buses.length
  rotate_left
  ·obtain rfl : k = s.buses.length := by omega
   obtain ⟨A, c, rfl⟩ := own_slice' HSEC.o.1
   have HIM2 : Hid (rs.map SecR.d = IM) := hh (by rw [HD.o, HIM.o])
   have HLE : Hid (IM.length = rs.length) := hh (by rw [← HIM2.o, List.length_map])
   go_wp2_with fail
   go_ret2
   exact ⟨A, c, rs, by rw [HLE.o]; rfl, HQ0.o.trans Q.i, by rw [HLE.o]; exact (HSEC.o.q Q.i).low HQ0.o, HIM2.o⟩
  have k00 : (0 : Int) ≤ (k : Int) := by omega
  have k01 : (k : Int) < (s.buses.length : Int) := by omega
  obtain ⟨v9, rfl⟩ : ∃ v, v = u9 := ⟨_, rfl⟩
  have x1 := hc9.o k hlt
  obtain ⟨x, ex⟩ : ∃ x, gl.getD k 0 = x := ⟨_, rfl⟩
  rw [ex] at x1
  have HIK := hh (HIF.o k)
  rw [ex] at HIK
  by_cases hx : x = (k : Int)
  rotate_left
  ·have hx' : (x != (k : Int)) = true := by simpa using hx
   have EIK : Hid (imF s p gl (k + 1) = imF s p gl k) := hh (by rw [HIK.o, if_neg hx])
   clear hx HIK
   go_wp2_with fail
   go_roundw
   case rel => exact ⟨k + 1, rs, by go_num, by omega, Q.jk (Q.refl _) kk, HSEC, hh (by rw [EIK.o]; exact HD.o)⟩
   case measure => simp [intOf] <;> omega
  subst hx
  have EX := hh ex
  have EIK : Hid (imF s p gl (k + 1) = imF s p gl k ++ [imS s p gl k]) := hh (by rw [HIK.o, if_pos rfl])
  have HLT := hh hlt
  clear HIK ex hlt hk
  go_wp2_with fail
  go_loopw [51] (fun i wr => ∃ (j m : Nat) (A1 : Option Addr) (c1 : Nat), i = .int .i64 j ∧ j ≤ s.buses.length ∧ Q ((U.jk kk).alloc (Obj.cells #[(Value.slice A1 m c1), (Value.slice none 0 0), .bool false] 64)) wr ∧ Hid ((busF gl k j).length = m) ∧ Hid (RowI ((U.jk kk).alloc (Obj.cells #[(Value.slice A1 m c1), (Value.slice none 0 0), .bool false] 64)) wr (.slice A1 m c1) (busF gl k j))) (fun i _ => s.buses.length - (intOf i).toNat)
  case atStart => exact ⟨0, 0, none, 0, rfl, Nat.zero_le _, (by repeat' (first | exact Q.refl _ | refine Q.alloc ?_ _ | refine Q.jk ?_ _ | refine Q.drew ?_)), hh rfl, hh (RowI.nil _ _)⟩
  case round =>
   obtain ⟨j, m, A1, c1, rfl, hj, ⟨k2, rfl⟩, HML, HR1⟩ := hrel
   by_cases hlj : j < s.buses.length
   ·have x2 := hc9.o j hlj
    have j0 : (0 : Int) ≤ (j : Int) := by omega
    have j1 : (j : Int) < (s.buses.length : Int) := by omega
    have HBS := hh (busF_succ gl k j)
    have hm4 : m ≤ j := by have := busF_len gl k j; rw [HML.o] at this; exact this
    generalize gl.getD j 0 = x at x2 HBS
    by_cases hx : x = (k : Int)
    ·have hx' : (x == (k : Int)) = true := by simpa using hx
     have EB1 : Hid (busF gl k (j + 1) = busF gl k j ++ [(j : Int)]) := hh (by rw [HBS.o, if_pos hx])
     clear hx HBS
     go_wp2_with (first | (at_builtin; refine wpList_app_int rfl _ _ rfl ((U.jk kk).alloc (Obj.cells #[(Value.slice A1 m c1), (Value.slice none 0 0), .bool false] 64)) (.slice A1 m c1) (busF gl k j) (j : Int) _ rfl rfl (HR1.o.q Q.i) (by simp [go_sem, World.size_jk]) (by rw [HML.o]; omega) Q.i ?_; intro v' kx hri hgr; obtain ⟨A', c', rfl⟩ := own_slice' hri; rw [show (busF gl k j ++ [(j : Int)]).length = m + 1 by rw [List.length_append, HML.o]; rfl] at hri ⊢) | fail)
     go_roundw
     case rel =>
      exact ⟨j + 1, m + 1, A', c', by go_num, by omega, Q.i, hh (by rw [EB1.o, List.length_append, HML.o]; rfl), hh (by rw [EB1.o]; exact own_swap (by simp) hri)⟩
     case measure => simp [intOf] <;> omega
    have hx' : (x == (k : Int)) = false := by simpa using hx
    have EB1 : Hid (busF gl k (j + 1) = busF gl k j) := hh (by rw [HBS.o, if_neg hx])
    clear hx HBS
    go_wp2_with fail
    go_roundw
    case rel =>
     exact ⟨j + 1, m, A1, c1, by go_num, by omega, Q.i, hh (by rw [EB1.o]; exact HML.o), hh (by rw [EB1.o]; exact HR1.o)⟩
    case measure => simp [intOf] <;> omega
   obtain rfl : j = s.buses.length := by omega
   have hm4 : m ≤ s.buses.length := by have := busF_len gl k s.buses.length; rw [HML.o] at this; exact this
   have HIS1 := hh (HIS.o k)
   have HBA1 := hh (HBA.o k)
   have HBL1 := hh (HBL.o k)
   have HHAS : Hid (∀ b, b < s.buses.length → (busF gl k s.buses.length).contains (b : Int) = decide (gl.getD b 0 = (k : Int))) := hh fun b hb => busF_has gl k _ b hb
   have BDC1 := hh fun w' hq => BDU.o k w' hq HLT.o EX.o
   generalize busF gl k s.buses.length = bl at HML HR1 HIS1 HHAS
   generalize bdI s (rsP p) gl k s.bays.length = bm at HIS1 HBA1 HBL1 BDC1
   obtain ⟨nM, eM⟩ : ∃ n, bm.length = n := ⟨_, rfl⟩
   have HNM := hh eM
   have nm1 : nM ≤ 16 := by have := HBL1.o; omega
   clear HBL1 eM hlj hj
   go_wp2_with (first | (go_at_call 50; (with_reducible refine (BDC1.o _ Q.i).mono ?_); rintro e w' ⟨v65, rfl, ⟨kb, rfl⟩, hb65⟩; obtain ⟨a65, c65, rfl⟩ := own_slice' hb65; rw [HNM.o] at hb65 ⊢; have HB65 := hh hb65; clear hb65) | fail)
   go_loopw [73] (fun i wr => ∃ (j : Nat) (A2 : Option Addr) (c2 : Nat), i = .int .i64 j ∧ j ≤ nM ∧ Q ((U.jk kk).alloc (Obj.cells #[(Value.slice A1 m c1), (Value.slice A2 j c2), .bool false] 64)) wr ∧ Hid (RowI ((U.jk kk).alloc (Obj.cells #[(Value.slice A1 m c1), (Value.slice A2 j c2), .bool false] 64)) wr (.slice A1 m c1) bl) ∧ Hid (RowI ((U.jk kk).alloc (Obj.cells #[(Value.slice A1 m c1), (Value.slice A2 j c2), .bool false] 64)) wr (.slice a65 nM c65) bm) ∧ Hid (RowM ((U.jk kk).alloc (Obj.cells #[(Value.slice A1 m c1), (Value.slice A2 j c2), .bool false] 64)) wr (.slice A2 j c2) (memF s bl (bm.take j)))) (fun i _ => nM - (intOf i).toNat)
   case atStart => exact ⟨0, none, 0, rfl, Nat.zero_le _, (by repeat' (first | exact Q.refl _ | refine Q.alloc ?_ _ | refine Q.jk ?_ _ | refine Q.drew ?_)), hh (HR1.o.q (by repeat' (first | exact Q.refl _ | refine Q.alloc ?_ _ | refine Q.jk ?_ _ | refine Q.drew ?_))), hh (HB65.o.low (by repeat' (first | exact Q.refl _ | refine Q.alloc ?_ _ | refine Q.jk ?_ _ | refine Q.drew ?_))), hh (World.ownsRow_nil _ _ _ _)⟩
   case round =>
    obtain ⟨j, A2, c2, rfl, hj, ⟨k3, rfl⟩, HV1, HV65, HV2⟩ := hrel
    by_cases hlj : j < nM
    ·obtain ⟨kq, ekq, hkq⟩ := HBA1.o j (by rw [HNM.o]; exact hlj)
     obtain ⟨y, hy⟩ := HYB.o kq hkq
     obtain ⟨g, o, eAY, og, hc⟩ := HGU.o.st.bayAt hy
     have eAY' := EAY.o.symm.trans eAY
     subst eAY'
     have q1 : U.cell? ⟨g, o + kq * 12 + 1, none⟩ = some (Value.int .i64 y.kd) := hc.o 1 _ rfl
     have q6 : U.cell? ⟨g, o + kq * 12 + 6, none⟩ = some (Value.slice y.la y.ln y.lc) := hc.o 6 _ rfl
     have hok := HGU.o.ok kq y hy
     have hlk := (HGU.o.st.lk kq y hy).1
     have hln := hlk.2
     have hl1 : 1 ≤ y.ln := by rcases hok.ln with h | h <;> omega
     obtain ⟨g2, o2, eL, og2, hc2⟩ := hlk.at_ (by omega)
     rw [eL] at q6
     obtain ⟨l0, hl0⟩ : ∃ l, (s.lks kq)[0]? = some l := ⟨_, List.getElem?_eq_getElem (by omega)⟩
     have a1 := (hc2.o 0 l0 hl0).1
     rw [Nat.zero_mul, Nat.add_zero] at a1
     obtain ⟨hb1, hb2'⟩ := hok.bus l0 (List.mem_of_getElem? hl0)
     obtain ⟨bq, ebq⟩ := Int.eq_ofNat_of_zero_le hb1
     rw [ebq] at a1 hb2'
     have hbq : bq < s.buses.length := by omega
     have x3 := hc9.o bq hbq
     have hsgz : sgZ s kq bl = if y.kd = 3 ∧ ¬ gl.getD bq 0 = (k : Int) then -1 else 1 := by
      unfold sgZ
      rw [hy]
      show sgB y (s.lks kq) bl = _
      match hl : s.lks kq, hl0 with
      | l :: rest, hl0 =>
       have e : l = l0 := by simpa using hl0
       subst e
       show (if y.kd = 3 ∧ bl.contains l.bus = false then (-1 : Int) else 1) = _
       rw [ebq, HHAS.o bq hbq]
       simp only [decide_eq_false_iff_not]
     have HS1 := hh hsgz
     obtain ⟨g65, rfl, hg65, hc65⟩ := rowI_win HV65.o HNM.o (by omega)
     have x65 := (hc65.o j hlj).1
     have o65 : Old g65 (((U.jk kk).alloc (Obj.cells #[(Value.slice A1 m c1), (Value.slice A2 j c2), .bool false] 64)).jk k3) := ⟨World.block_lt_of_cell? _ _ x65⟩
     rw [ekq] at x65
     have HLF : Hid ((memF s bl (bm.take j)).length = j) := hh (by unfold memF; rw [List.length_map, List.length_take, HNM.o]; omega)
     have HMF0 : Hid (memF s bl (bm.take (j + 1)) = memF s bl (bm.take j) ++ [((kq : Int), sgZ s kq bl)]) := hh (by unfold memF; rw [take_snoc _ bm j 0 (by rw [HNM.o]; exact hlj), ekq, Int.toNat_natCast])
     have j0 : (0 : Int) ≤ (j : Int) := by omega
     have j1 : (j : Int) < (nM : Int) := by omega
     have k20 : (0 : Int) ≤ (kq : Int) := by omega
     have k21 : (kq : Int) < (s.bays.length : Int) := by omega
     have l10 : (0 : Int) < (y.ln : Int) := by omega
     have bq0 : (0 : Int) ≤ (bq : Int) := by omega
     generalize memF s bl (bm.take j) = ml at HV2 HMF0 HLF
     generalize gl.getD bq 0 = gq at x3 HS1
     generalize sgZ s kq bl = S at HS1 HMF0
     clear hc hy hc65 ekq hsgz hok hlk hln hl0 hc2 eL eAY hb1 ebq
     by_cases h3 : y.kd = 3
     rotate_left
     ·have e3 : (y.kd == 3) = false := by simpa using h3
      have HMF : Hid (memF s bl (bm.take (j + 1)) = ml ++ [((kq : Int), 1)]) := hh (by rw [HMF0.o, HS1.o, if_neg (by simp [h3])])
      clear h3 HS1 HMF0
      go_wp2_with (first
       | (at_builtin; refine wpList_app_mem rfl _ _ rfl ((U.jk kk).alloc (Obj.cells #[(Value.slice A1 m c1), (Value.slice A2 j c2), .bool false] 64)) (.slice A2 j c2) ml ((kq : Int), 1) _ rfl rfl (ownsRow_q HV2.o Q.i) (cells_of (HB.new _ _ _ _ (by simp [go_sem, World.size_jk]))) (by rw [HLF.o]; omega) Q.i ?_; intro A' c' kx hrm hgr; rw [HLF.o] at hrm hgr ⊢; have HV1b : Hid (RowI ((U.jk kk).alloc (Obj.cells #[(Value.slice A1 m c1), (Value.slice A2 j c2), .bool false] 64)) (((U.jk kk).alloc (Obj.cells #[(Value.slice A1 m c1), (Value.slice A2 j c2), .bool false] 64)).jk kx) (.slice A1 m c1) bl) := hh (hgr _ _ _ _ _ (ownsRow_q HV1.o Q.i) (own_apart2 (ownsRow_q HV2.o (Q.refl _)) (ownsRow_q HV1.o Q.i) (by decide))).1; have HV65b : Hid (RowI ((U.jk kk).alloc (Obj.cells #[(Value.slice A1 m c1), (Value.slice A2 j c2), .bool false] 64)) (((U.jk kk).alloc (Obj.cells #[(Value.slice A1 m c1), (Value.slice A2 j c2), .bool false] 64)).jk kx) (.slice (some ⟨g65, 0, none⟩) nM c65) bm) := hh (hgr _ _ _ _ _ (ownsRow_q HV65.o Q.i) (own_apart2 (ownsRow_q HV2.o (Q.refl _)) (ownsRow_q HV65.o Q.i) (by decide))).1; have HV2b := hh hrm; clear hrm hgr)
       | fail)
      go_roundw
      case rel => exact ⟨j + 1, A', c', by go_num, by omega, Q.i, hh (own_swap (by simp) HV1b.o), hh (own_swap (by simp) HV65b.o), hh (by rw [HMF.o]; exact own_swap (by simp) HV2b.o)⟩
      case measure => simp [intOf] <;> omega
     have e3 : (y.kd == 3) = true := by simpa using h3
     by_cases hg : gq = (k : Int)
     ·have e4 : (gq != (k : Int)) = false := by simpa using hg
      have HMF : Hid (memF s bl (bm.take (j + 1)) = ml ++ [((kq : Int), 1)]) := hh (by rw [HMF0.o, HS1.o, if_neg (by simp [hg])])
      clear h3 hg HS1 HMF0
      go_wp2_with (first
       | (at_builtin; refine wpList_app_mem rfl _ _ rfl ((U.jk kk).alloc (Obj.cells #[(Value.slice A1 m c1), (Value.slice A2 j c2), .bool false] 64)) (.slice A2 j c2) ml ((kq : Int), 1) _ rfl rfl (ownsRow_q HV2.o Q.i) (cells_of (HB.new _ _ _ _ (by simp [go_sem, World.size_jk]))) (by rw [HLF.o]; omega) Q.i ?_; intro A' c' kx hrm hgr; rw [HLF.o] at hrm hgr ⊢; have HV1b : Hid (RowI ((U.jk kk).alloc (Obj.cells #[(Value.slice A1 m c1), (Value.slice A2 j c2), .bool false] 64)) (((U.jk kk).alloc (Obj.cells #[(Value.slice A1 m c1), (Value.slice A2 j c2), .bool false] 64)).jk kx) (.slice A1 m c1) bl) := hh (hgr _ _ _ _ _ (ownsRow_q HV1.o Q.i) (own_apart2 (ownsRow_q HV2.o (Q.refl _)) (ownsRow_q HV1.o Q.i) (by decide))).1; have HV65b : Hid (RowI ((U.jk kk).alloc (Obj.cells #[(Value.slice A1 m c1), (Value.slice A2 j c2), .bool false] 64)) (((U.jk kk).alloc (Obj.cells #[(Value.slice A1 m c1), (Value.slice A2 j c2), .bool false] 64)).jk kx) (.slice (some ⟨g65, 0, none⟩) nM c65) bm) := hh (hgr _ _ _ _ _ (ownsRow_q HV65.o Q.i) (own_apart2 (ownsRow_q HV2.o (Q.refl _)) (ownsRow_q HV65.o Q.i) (by decide))).1; have HV2b := hh hrm; clear hrm hgr)
       | fail)
      go_roundw
      case rel => exact ⟨j + 1, A', c', by go_num, by omega, Q.i, hh (own_swap (by simp) HV1b.o), hh (own_swap (by simp) HV65b.o), hh (by rw [HMF.o]; exact own_swap (by simp) HV2b.o)⟩
      case measure => simp [intOf] <;> omega
     have e4 : (gq != (k : Int)) = true := by simpa using hg
     have HMF : Hid (memF s bl (bm.take (j + 1)) = ml ++ [((kq : Int), -1)]) := hh (by rw [HMF0.o, HS1.o, if_pos ⟨h3, hg⟩])
     clear h3 hg HS1 HMF0
     go_wp2_with (first
      | (at_builtin; refine wpList_app_mem rfl _ _ rfl ((U.jk kk).alloc (Obj.cells #[(Value.slice A1 m c1), (Value.slice A2 j c2), .bool false] 64)) (.slice A2 j c2) ml ((kq : Int), -1) _ rfl rfl (ownsRow_q HV2.o Q.i) (cells_of (HB.new _ _ _ _ (by simp [go_sem, World.size_jk]))) (by rw [HLF.o]; omega) Q.i ?_; intro A' c' kx hrm hgr; rw [HLF.o] at hrm hgr ⊢; have HV1b : Hid (RowI ((U.jk kk).alloc (Obj.cells #[(Value.slice A1 m c1), (Value.slice A2 j c2), .bool false] 64)) (((U.jk kk).alloc (Obj.cells #[(Value.slice A1 m c1), (Value.slice A2 j c2), .bool false] 64)).jk kx) (.slice A1 m c1) bl) := hh (hgr _ _ _ _ _ (ownsRow_q HV1.o Q.i) (own_apart2 (ownsRow_q HV2.o (Q.refl _)) (ownsRow_q HV1.o Q.i) (by decide))).1; have HV65b : Hid (RowI ((U.jk kk).alloc (Obj.cells #[(Value.slice A1 m c1), (Value.slice A2 j c2), .bool false] 64)) (((U.jk kk).alloc (Obj.cells #[(Value.slice A1 m c1), (Value.slice A2 j c2), .bool false] 64)).jk kx) (.slice (some ⟨g65, 0, none⟩) nM c65) bm) := hh (hgr _ _ _ _ _ (ownsRow_q HV65.o Q.i) (own_apart2 (ownsRow_q HV2.o (Q.refl _)) (ownsRow_q HV65.o Q.i) (by decide))).1; have HV2b := hh hrm; clear hrm hgr)
      | fail)
     go_roundw
     case rel => exact ⟨j + 1, A', c', by go_num, by omega, Q.i, hh (own_swap (by simp) HV1b.o), hh (own_swap (by simp) HV65b.o), hh (by rw [HMF.o]; exact own_swap (by simp) HV2b.o)⟩
     case measure => simp [intOf] <;> omega
    obtain rfl : j = nM := by omega
    have HTK : Hid (bm.take j = bm) := hh (List.take_of_length_le (by rw [HNM.o]; exact Nat.le_refl _))
    rw [HTK.o] at HV2
    have HLM : Hid ((memF s bl bm).length = j) := hh (by unfold memF; rw [List.length_map, HNM.o])
    generalize memF s bl bm = ml at HV2 HLM HIS1
    clear HBA1 BDC1 HTK HV65 hlj hj
    have HMV : Hid (mvB s p bl = (List.range s.bays.length).any (mvK s p bl)) := hh rfl
    generalize mvB s p bl = mvF at HIS1 HMV
    have HC1 := hh (RowI.low HV1.o (W0 := U) Q.i)
    have HC2' : Hid (RowM U (((U.jk kk).alloc (Obj.cells #[(Value.slice A1 m c1), (Value.slice A2 j c2), .bool false] 64)).jk k3) (.slice A2 j c2) ml) := hh (World.ownsRow.mono HV2.o (by simp [World.size_jk]; omega))
    go_wp2_with fail
    go_loopw [113] (fun i wr => ∃ (t : Nat) (mv : Bool), i = .int .i64 t ∧ t ≤ s.bays.length ∧ Q ((U.jk kk).alloc (Obj.cells #[(Value.slice A1 m c1), (Value.slice A2 j c2), .bool mv] 64)) wr ∧ Hid (RowI ((U.jk kk).alloc (Obj.cells #[(Value.slice A1 m c1), (Value.slice A2 j c2), .bool mv] 64)) wr (.slice A1 m c1) bl) ∧ Hid (RowM ((U.jk kk).alloc (Obj.cells #[(Value.slice A1 m c1), (Value.slice A2 j c2), .bool mv] 64)) wr (.slice A2 j c2) ml) ∧ Hid (mv = (List.range t).any (mvK s p bl))) (fun i _ => s.bays.length - (intOf i).toNat)
    case atStart => exact ⟨0, false, rfl, Nat.zero_le _, (by repeat' (first | exact Q.refl _ | refine Q.alloc ?_ _ | refine Q.jk ?_ _ | refine Q.drew ?_)), HV1, HV2, hh rfl⟩
    case round =>
     clear HV1 HV2 HC1 HC2'
     obtain ⟨t, mv, rfl, ht, ⟨k4, rfl⟩, HV1, HV2, HMT⟩ := hrel
     by_cases hlt : t < s.bays.length
     rotate_left
     ·obtain rfl : t = s.bays.length := by omega
      obtain rfl : mv = mvF := by rw [HMT.o, HMV.o]
      clear HMT HMV hlt ht
      go_wp2_with (first | (at_builtin; refine wpList_app_sec rfl _ _ rfl U v9 rs ⟨⟨bl, ml, mv⟩, A1, c1, A2, c2⟩ _ rfl rfl (HSEC.o.q Q.i) (by dsimp only; rw [HML.o]; exact (RowI.low (RowI.q HV1.o Q.i) Q.i)) (by dsimp only; rw [HLM.o]; exact World.ownsRow.mono (ownsRow_q HV2.o Q.i) (by simp [World.size_jk]; omega)) (by unfold secC; dsimp only; rw [HML.o, HLM.o]; exact cells_of (HB.new _ _ _ _ (by simp [World.size_jk]))) (by have h1 := HIL.o k; have h2 := congrArg List.length HD.o; have h3 := HLT.o; rw [List.length_map] at h2; omega) Q.i ?_; intro A' c' kx hsec) | fail)
      go_roundw
      case rel => exact ⟨k + 1, rs ++ [⟨⟨bl, ml, mv⟩, A1, c1, A2, c2⟩], by go_num, by have := HLT.o; omega, Q.i, hh hsec, hh (by rw [List.map_append, HD.o, EIK.o, HIS1.o]; rfl)⟩
      case measure => have := HLT.o; simp [intOf] <;> omega
     obtain ⟨y, hy⟩ := HYB.o t hlt
     obtain ⟨g, o, eAY, og, hc⟩ := HGU.o.st.bayAt hy
     obtain ⟨r, hr, hrl⟩ := (HGU.o.ok t y hy).row
     obtain ⟨g', o', eAK, og', w1⟩ := HGU.o.ps.rowAt hr
     obtain ⟨q0, q1, q2, q3, q4, q5, q6, q7, q8, q9, q10, q11⟩ := by12 hc
     have hok := HGU.o.ok t y hy
     have hlk := (HGU.o.st.lk t y hy).1
     have hln := hlk.2
     have hl1 : 1 ≤ y.ln := by rcases hok.ln with h | h <;> omega
     obtain ⟨g2, o2, eL, og2, hc2⟩ := hlk.at_ (by omega)
     obtain ⟨g3, o3, eR, og3, hc3⟩ := (HGU.o.ps.row r (List.mem_of_getElem? hr)).1.at_ (by omega)
     rw [eL] at q6
     have eAY' := EAY.o.symm.trans eAY
     subst eAY'
     rw [eAK] at p1
     rw [eR, hrl, hln] at w1
     have t0 : (0 : Int) ≤ (t : Int) := by omega
     have t1 : (t : Int) < (s.bays.length : Int) := by omega
     have t2 : (t : Int) < (p.rows.length : Int) := by have := HNK.o; omega
     have l2 : (y.ln : Int) ≤ 2 := by rcases hok.ln with h | h <;> omega
     have l0 : (0 : Int) ≤ (y.ln : Int) := by omega
     have HJ : Hid (∀ i l, (s.lks t)[i]? = some l → mvJ s p bl t i = (decide (r.l.getD i 0 = 2) && bl.contains l.bus)) := hh fun i l hl => by
      unfold mvJ clX
      rw [hl, hr]
     have HKT : Hid (mvK s p bl t = (List.range y.ln).any (mvJ s p bl t)) := hh (by unfold mvK; rw [hln])
     have HBUS := hh hok.bus
     have HLN := hh hln
     have HRL := hh hrl
     have HLT := hh hlt
     have HTL := hh (any_succ (mvK s p bl) t)
     generalize mvK s p bl t = MK at HKT HTL
     generalize (List.range t).any (mvK s p bl) = M0 at HMT HTL
     clear hy hc hok hlk hl1 eL eR eAY eAK hr hlt
     go_wp2_with fail
     go_loopw [121] (fun i wr => ∃ (i' : Nat) (mv : Bool), i = .int .i64 i' ∧ i' ≤ y.ln ∧ Q ((U.jk kk).alloc (Obj.cells #[(Value.slice A1 m c1), (Value.slice A2 j c2), .bool mv] 64)) wr ∧ Hid (RowI ((U.jk kk).alloc (Obj.cells #[(Value.slice A1 m c1), (Value.slice A2 j c2), .bool mv] 64)) wr (.slice A1 m c1) bl) ∧ Hid (RowM ((U.jk kk).alloc (Obj.cells #[(Value.slice A1 m c1), (Value.slice A2 j c2), .bool mv] 64)) wr (.slice A2 j c2) ml) ∧ Hid (mv = (M0 || (List.range i').any (mvJ s p bl t)))) (fun i _ => y.ln - (intOf i).toNat)
     case atStart => exact ⟨0, mv, rfl, Nat.zero_le _, (by repeat' (first | exact Q.refl _ | refine Q.alloc ?_ _ | refine Q.jk ?_ _ | refine Q.drew ?_)), hh (HV1.o.q (by repeat' (first | exact Q.refl _ | refine Q.alloc ?_ _ | refine Q.jk ?_ _ | refine Q.drew ?_))), hh (ownsRow_q HV2.o (by repeat' (first | exact Q.refl _ | refine Q.alloc ?_ _ | refine Q.jk ?_ _ | refine Q.drew ?_))), hh (by rw [HMT.o]; simp)⟩
     case round =>
      clear HV1 HV2 HMT
      obtain ⟨i, mv', rfl, hi, ⟨k5, rfl⟩, HV1, HV2, HMI⟩ := hrel
      by_cases hli : i < y.ln
      rotate_left
      ·obtain rfl : i = y.ln := by omega
       go_wp2_with fail
       go_roundw
       case rel => exact ⟨t + 1, mv', by go_num, by have := HLT.o; omega, Q.i, HV1, HV2, hh (by rw [HMI.o, HTL.o, HKT.o])⟩
       case measure => have := HLT.o; simp [intOf] <;> omega
      obtain ⟨l, hl⟩ : ∃ l, (s.lks t)[i]? = some l := ⟨_, List.getElem?_eq_getElem (by rw [HLN.o]; exact hli)⟩
      obtain ⟨a1, a2⟩ := hc2.o i l hl
      obtain ⟨hb1, hb2'⟩ := HBUS.o l (List.mem_of_getElem? hl)
      have u0 := hc3.o i (by rw [HRL.o, HLN.o]; exact hli)
      have HJI := hh (HJ.o i l hl)
      obtain ⟨bus, pos⟩ := l
      dsimp only at a1 a2 hb1 hb2' HJI
      obtain ⟨bq, rfl⟩ := Int.eq_ofNat_of_zero_le hb1
      have hbq : bq < s.buses.length := by omega
      have x3 := hc9.o bq hbq
      have HJI2 : Hid (mvJ s p bl t i = (decide (r.l.getD i 0 = 2) && decide (gl.getD bq 0 = (k : Int)))) := hh (by rw [HJI.o, HHAS.o bq hbq])
      have HAS := hh (any_succ (mvJ s p bl t) i)
      have i0 : (0 : Int) ≤ (i : Int) := by omega
      have i1 : (i : Int) < (y.ln : Int) := by omega
      have bq0 : (0 : Int) ≤ (bq : Int) := by omega
      generalize mvJ s p bl t i = MJ at HJI2 HAS
      generalize (List.range i).any (mvJ s p bl t) = M1 at HMI HAS
      generalize r.l.getD i 0 = xr at u0 HJI2
      generalize gl.getD bq 0 = gq at x3 HJI2
      clear hl HJI hb1
      by_cases h2 : xr = 2
      rotate_left
      ·have e2 : (xr == 2) = false := by simpa using h2
       have HM2 : Hid (mv' = (M0 || (List.range (i + 1)).any (mvJ s p bl t))) := hh (by rw [HMI.o, HAS.o, HJI2.o, decide_eq_false h2]; simp)
       clear h2 HJI2 HAS
       go_wp2_with fail
       go_roundw
       case rel => exact ⟨i + 1, mv', by go_num, by omega, Q.i, hh (HV1.o.q Q.i), hh (ownsRow_q HV2.o Q.i), HM2⟩
       case measure => simp [intOf] <;> omega
      have e2 : (xr == 2) = true := by simpa using h2
      by_cases hg : gq = (k : Int)
      ·have e3 : (gq == (k : Int)) = true := by simpa using hg
       have HM2 : Hid (true = (M0 || (List.range (i + 1)).any (mvJ s p bl t))) := hh (by rw [HAS.o, HJI2.o, decide_eq_true h2, decide_eq_true hg]; simp)
       clear h2 hg HJI2 HAS
       go_wp2_with fail
       go_roundw
       case rel => exact ⟨i + 1, true, by go_num, by omega, Q.i, hh (RowI.q (own_swap (W := ((U.jk kk).alloc (Obj.cells #[(Value.slice A1 m c1), (Value.slice A2 j c2), .bool mv'] 64))) (W' := ((U.jk kk).alloc (Obj.cells #[(Value.slice A1 m c1), (Value.slice A2 j c2), .bool true] 64))) (k := k5) (by simp) HV1.o) Q.i), hh (ownsRow_q (own_swap (W := ((U.jk kk).alloc (Obj.cells #[(Value.slice A1 m c1), (Value.slice A2 j c2), .bool mv'] 64))) (W' := ((U.jk kk).alloc (Obj.cells #[(Value.slice A1 m c1), (Value.slice A2 j c2), .bool true] 64))) (k := k5) (by simp) HV2.o) Q.i), HM2⟩
       case measure => simp [intOf] <;> omega
      have e3 : (gq == (k : Int)) = false := by simpa using hg
      have HM2 : Hid (mv' = (M0 || (List.range (i + 1)).any (mvJ s p bl t))) := hh (by rw [HMI.o, HAS.o, HJI2.o, decide_eq_false hg]; simp)
      clear h2 hg HJI2 HAS
      go_wp2_with fail
      go_roundw
      case rel => exact ⟨i + 1, mv', by go_num, by omega, Q.i, hh (HV1.o.q Q.i), hh (ownsRow_q HV2.o Q.i), HM2⟩
      case measure => simp [intOf] <;> omega
end Go.Proofs.YtcjflafjmdfanaaGreatDoor
