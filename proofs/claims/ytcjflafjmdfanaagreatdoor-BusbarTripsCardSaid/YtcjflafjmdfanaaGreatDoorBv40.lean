
/- What Trips of the reference 34 returns. -/
import Derived.Test.YtcjflafjmdfanaaGreatDoorBv39
import Derived.Test.YtcjflafjmdfanaaGreatDoorBv35
set_option maxHeartbeats 64000000
set_option maxRecDepth 100000
set_option linter.unusedSimpArgs false
set_option linter.unusedVariables false
/- What Sections of the reference 34 returns. -/
namespace Go.Proofs.YtcjflafjmdfanaaGreatDoor
open Go.RowKit Go.Sub
attribute [local go_sem ↓] Go.wp_at_zero Go.wp_at_succ
theorem cpB_take {G : List Bool} {ml : List (Int × Int)} {j : Nat} {m : Int × Int} (h : ml[j]? = some m) : cpB G (ml.take (j + 1)) = (cpB G (ml.take j) && G.getD m.1.toNat false) := by
 unfold cpB
 rw [List.take_add_one, h, List.all_append]
 simp
theorem any_take {α : Type} (f : α → Bool) (l : List α) (j : Nat) (m : α) (h : l[j]? = some m) : (l.take (j + 1)).any f = ((l.take j).any f || f m) := by
 rw [List.take_add_one, h, List.any_append]
 simp
theorem map_take {α β : Type} (f : α → β) (l : List α) (j : Nat) (m : α) (h : l[j]? = some m) : (l.take (j + 1)).map f = (l.take j).map f ++ [f m] := by
 rw [List.take_add_one, h, List.map_append]
 rfl
theorem imF_sgn (s : Sta) (p : Pos) (gl : List Int) (n : Nat) : ∀ x ∈ imF s p gl n, ∀ m ∈ x.mem, m.2 = 1 ∨ m.2 = -1 := by
 intro x hx m hm
 unfold imF at hx
 obtain ⟨k, _, rfl⟩ := List.mem_map.1 hx
 unfold imS memF at hm
 obtain ⟨b, _, rfl⟩ := List.mem_map.1 hm
 unfold sgZ
 dsimp only
 split
 ·unfold sgB
  split <;> first | exact .inl rfl | exact .inr rfl | (split <;> first | exact .inl rfl | exact .inr rfl)
 exact .inl rfl
theorem r34sec_c (s : Sta) (p : Pos) (cs : Array Value) (r : Rel) [hR : RelC cs r] (aW : Option Addr) (cW : Nat) (W : List Int) (aG : Option Addr) (cG : Nat) (G : List Bool) (w : World) (h : GoodAt w s p) (hW : WvAt w aW s.bays.length cW W) (hG : GdAt w aG s.bays.length cG G) (hu : usB r = true) (hw : WvOK W G s.bays.length) :
  Calls Tryz.prog 27 #[.agg #[Value.string s.nm, Value.slice s.aB s.buses.length s.cB, Value.slice s.aL s.lines.length s.cL, Value.slice s.aS s.srcs.length s.cS, Value.slice s.aY s.bays.length s.cY], .agg #[Value.slice p.aC p.closed.length p.cC, Value.slice p.aK p.rows.length p.cK], .agg cs, .slice aW s.bays.length cW, .slice aG s.bays.length cG] w (RetPq (imI s p) (prS s W G r) w) := by
 have hlens := h.lens
 have OFC := hh fun (w' : World) (hq : Q w w') => r33of_g s p w' (h.q hq)
 unfold RetIm at OFC
 have OVC := hh fun (w' : World) (hq : Q w w') => r34over_c s cs r aW cW W aG cG G w' (h.st.q hq) h.e1 (hW.q hq) (hG.q hq) hu hw
 have HMO : Hid (∀ ml : List (Int × Int), cpB G ml = true → (∀ m ∈ ml, ∃ k : Nat, m.1 = (k : Int) ∧ k < s.bays.length) → ∀ m ∈ ml, ∃ k y, MemOK s W s.bays.length m k y) := hh fun ml hc hb m hm => by
  obtain ⟨k, e, hk⟩ := hb m hm
  have hg := cpB_mem hc hm
  rw [e, Int.toNat_natCast] at hg
  exact memOK_of h.e1 hw e hk hg
 have OPC := hh fun (w' : World) (hq : Q w w') (A B : Option Addr) (n c d : Nat) (ml : List (Int × Int)) (hA : RdN w' A n c .i64 (ml.map Prod.fst)) (hB : RdN w' B n d .i64 (ml.map Prod.snd)) (hn : n ≤ 16) (ph : Nat) (hp : ph < 3) (hc : cpB G ml = true) (hb : ∀ m ∈ ml, ∃ k : Nat, m.1 = (k : Int) ∧ k < s.bays.length) (hsg : ∀ m ∈ ml, m.2 = 1 ∨ m.2 = -1) => r34op_c s cs r aW s.bays.length cW W A B n c d ml ph w' (h.st.q hq) (hW.q hq) hA hB hn hp hu (HMO.o ml hc hb) hsg
 have HIP : Hid (∀ x ∈ imI s p, x.mem.length ≤ 16 ∧ x.buses.length ≤ s.buses.length ∧ ∀ m ∈ x.mem, ∃ k : Nat, m.1 = (k : Int) ∧ k < s.bays.length) := hh (imF_prop s p _ _ (by omega))
 have HIS : Hid (∀ x ∈ imI s p, ∀ m ∈ x.mem, m.2 = 1 ∨ m.2 = -1) := hh (imF_sgn s p _ _)
 have HIL : (imI s p).length ≤ 4 := by
  have := imF_len s p (grI s (rsP p)) s.buses.length
  unfold imI
  omega
 have c4 := hR.hm
 have hm0 : 0 ≤ r.hm ∧ r.hm ≤ 100 := by
  unfold usB at hu
  split at hu
  ·simp only [Bool.and_eq_true, decide_eq_true_eq] at hu
   omega
  simp only [Bool.and_eq_true, decide_eq_true_eq] at hu
  omega
 have HDS : Hid (∀ ml ph, dsM W r.hm ml ph = (decide (0 < r.hm) && ml.any fun m => dstB (wvF W m.1.toNat ph) r.hm)) := hh fun ml ph => by
  unfold dsM
  split
  ·rename_i h0; rw [h0]; rfl
  rename_i h0; rw [decide_eq_true (by omega : 0 < r.hm), Bool.true_and]
 have HPS : Hid (∀ x, prS s W G r x = if cpB G x.mem = true then ⟨opM s W r x.mem, dsM W r.hm x.mem, true, trP (opM s W r x.mem) (dsM W r.hm x.mem) (ovO s W G r) 3⟩ else ⟨fun _ => false, fun _ => false, false, false⟩) := hh fun x => rfl
 generalize prS s W G r = PS at HPS ⊢
 generalize ovO s W G r = O at HPS OVC
 generalize imI s p = IM at OFC HIP HIS HIL ⊢
 have HW := hh hW
 have HG := hh hG
 obtain ⟨aY, eaY⟩ : ∃ a, s.aY = a := ⟨_, rfl⟩
 obtain ⟨nY, eY⟩ : ∃ n, s.bays.length = n := ⟨_, rfl⟩
 obtain ⟨n, en⟩ : ∃ n, IM.length = n := ⟨_, rfl⟩
 rw [eaY, eY] at OFC OVC OPC
 rw [eY] at HIP HMO hlens HW HG
 rw [en] at OFC HIL
 rw [eaY, eY]
 obtain ⟨hm, ehm⟩ : ∃ x, r.hm = x := ⟨_, rfl⟩
 rw [ehm] at c4 hm0 HDS HPS
 obtain ⟨m00, m01⟩ := hm0
 have hY16 : nY ≤ 16 := by omega
 have EN := hh en
 clear h hW hG hu hw eaY eY hlens en ehm
 go_enter Tryz.func27, Tryz.ntmps27
 go_upto_region 3 with (first | (go_at_call 28; (with_reducible refine (OFC.o _ Q.i).mono ?_); rintro e w' ⟨A, c, rs, rfl, ⟨k1, rfl⟩, hsec, hd⟩; have HSEC := hh hsec; have HD := hh hd; clear hsec hd) | (go_at_call 51; (with_reducible refine (OVC.o _ Q.i).q ?_); intro k2) | fail)
 refine wp_world ?_
 intro V eV
 have hrs : rs.length = n := by rw [← List.length_map (f := SecR.d), HD.o, EN.o]
 have HQV : Hid (Q w V) := hh (by rw [eV]; exact Q.i)
 have HBX : Hid (HB V w.heap.size #[Value.string s.nm, Value.slice s.aB s.buses.length s.cB, Value.slice s.aL s.lines.length s.cL, Value.slice s.aS s.srcs.length s.cS, Value.slice aY nY s.cY] 27) := hh (by rw [eV]; exact (HB.new _ _ _ _ rfl).q Q.i)
 have HBX2 : Hid (HB V (w.heap.size + 1) #[Value.slice p.aC p.closed.length p.cC, Value.slice p.aK p.rows.length p.cK] 31) := hh (by rw [eV]; exact (HB.new (w.alloc (Obj.cells #[Value.string s.nm, Value.slice s.aB s.buses.length s.cB, Value.slice s.aL s.lines.length s.cL, Value.slice s.aS s.srcs.length s.cS, Value.slice aY nY s.cY] 27)) _ _ _ (by simp)).q Q.i)
 have HBX3 : Hid (HB V (w.heap.size + 1 + 1) cs 44) := hh (by rw [eV]; exact (HB.new ((w.alloc (Obj.cells #[Value.string s.nm, Value.slice s.aB s.buses.length s.cB, Value.slice s.aL s.lines.length s.cL, Value.slice s.aS s.srcs.length s.cS, Value.slice aY nY s.cY] 27)).alloc (Obj.cells #[Value.slice p.aC p.closed.length p.cC, Value.slice p.aK p.rows.length p.cK] 31)) _ _ _ (by simp)).q Q.i)
 have HBX4 : Hid (HB V (w.heap.size + 1 + 1 + 1 + k1.os.size + k2.os.size) #[Value.bool (O 0), Value.bool (O 1), Value.bool (O 2)] 65) := hh (by rw [eV]; exact HB.new _ _ _ _ (by simp [World.size_jk]))
 have HSV : Hid (SecsAt (((w.alloc (Obj.cells #[Value.string s.nm, Value.slice s.aB s.buses.length s.cB, Value.slice s.aL s.lines.length s.cL, Value.slice s.aS s.srcs.length s.cS, Value.slice aY nY s.cY] 27)).alloc (Obj.cells #[Value.slice p.aC p.closed.length p.cC, Value.slice p.aK p.rows.length p.cK] 31)).alloc (Obj.cells cs 44)) V (.slice A n c) rs) := hh (by rw [eV]; exact HSEC.o.q Q.i)
 have HW := hh (HW.o.q HQV.o)
 have HG := hh (HG.o.q HQV.o)
 have HRS := hh (rdsec_of_row HSV.o hrs)
 have HBU : Hid (∀ a ∈ rs, RdN V a.aB a.d.buses.length a.cB .i64 a.d.buses ∧ RdV V a.aM a.d.mem.length a.cM 2 (a.d.mem.flatMap mmC)) := hh fun a ha => ⟨rdn_of_row (HSV.o.2 a ha).1 rfl, rdm_of_row (HSV.o.2 a ha).2 rfl⟩
 have OPC := hh fun (w' : World) (hq : Q V w') => OPC.o w' (HQV.o.trans hq)
 have n0 : (0 : Int) ≤ (n : Int) := by omega
 clear eV HSEC OFC OVC
 generalize w.heap.size + 1 + 1 + 1 + k1.os.size + k2.os.size = b4 at HBX4 ⊢
 generalize w.heap.size + 1 + 1 = b3 at HBX3 ⊢
 generalize w.heap.size + 1 = b2 at HBX2 ⊢
 generalize w.heap.size = b at HBX ⊢
 go_wp2_with fail
 go_loopw [15, 44] (fun v i wr => ∃ (k : Nat) (A' : Option Addr) (c' : Nat), v = .slice A' k c' ∧ i = .int .i64 k ∧ k ≤ n ∧ Hid (Q V wr) ∧ Hid (RowP V wr (.slice A' k c') (rs.take k) PS)) (fun _ i _ => n - (intOf i).toNat)
 case atStart => exact ⟨0, none, 0, rfl, rfl, Nat.zero_le _, hh (Q.refl _), hh (World.ownsRow_nil _ _ _ _)⟩
 case round =>
 obtain ⟨k, A', c', rfl, rfl, hk, HQK, HRP⟩ := hrel
 have hqk := HQK.o
 obtain ⟨kk, rfl⟩ := hqk
 by_cases hlt : k < n
 rotate_left
 ·obtain rfl : k = n := by omega
  have HTN : Hid (rs.take k = rs) := hh (List.take_of_length_le (by rw [hrs]; exact Nat.le_refl _))
  rw [HTN.o] at HRP
  have hmw : w.heap.size ≤ V.heap.size := HQV.o.below.size
  have HRM : Hid (∀ a ∈ rs, RowM w V (.slice a.aM a.d.mem.length a.cM) a.d.mem) := hh fun a ha => World.ownsRow.mono (HSV.o.2 a ha).2 (by simp only [World.size_alloc]; omega)
  have HPR : Hid (RowP w (V.jk kk) (.slice A' k c') rs PS) := hh (World.ownsRow.mono HRP.o hmw)
  go_wp2_with fail
  subst hrs
  go_ret
  exact ⟨A', c', rs, by first | done | rfl, HQV.o.trans (HQK.o.trans Q.i), HD.o, HPR.o.q Q.i, fun a ha => ownsRow_q (HRM.o a ha) (HQK.o.trans Q.i)⟩
 obtain ⟨a, ha⟩ : ∃ a, rs[k]? = some a := ⟨_, List.getElem?_eq_getElem (by omega)⟩
 have ham := List.mem_of_getElem? ha
 obtain ⟨g4, o4, rfl, og4, hc4⟩ := sec_at HRS.o (by omega)
 obtain ⟨x1, x2, x3⟩ := hc4.o k a ha
 have HMA0 := hh (HBU.o a ham).2
 obtain ⟨b1, b2', b3'⟩ := HIP.o a.d (by rw [← HD.o]; exact List.mem_map_of_mem ham)
 have HMB := hh b3'
 have HMS := hh (HIS.o a.d (by rw [← HD.o]; exact List.mem_map_of_mem ham))
 have HPA := hh (HPS.o a.d)
 have HTK := hh (List.take_add_one (l := rs) (i := k))
 have HAK : Hid (rs.take (k + 1) = rs.take k ++ [a]) := hh (by rw [HTK.o, ha]; rfl)
 have HLK : Hid ((rs.take k).length = k) := hh (by rw [List.length_take, hrs]; omega)
 have k0 : (0 : Int) ≤ (k : Int) := by omega
 have k1' : (k : Int) < (n : Int) := by omega
 clear hc4 ha ham HTK b2' b3'
 go_upto_region 7 with fail
 refine wp_world ?_
 intro U eU
 have HQU : Hid (Q V U) := hh (by rw [eU]; exact Q.i)
 have hq7 : Q V U := HQU.o
 have HBS : Hid (HB U (V.heap.size + kk.os.size) #[Value.slice a.aB a.d.buses.length a.cB, Value.slice a.aM a.d.mem.length a.cM, Value.bool a.d.mv] 64) := hh (by rw [eU]; exact HB.new _ _ _ _ (by simp [World.size_jk]))
 have HRU : Hid (RowP V U (.slice A' k c') (rs.take k) PS) := hh (HRP.o.q (by rw [eU]; exact Q.i))
 have HBX0 := HBX
 have HBX : Hid (HB U b #[Value.string s.nm, Value.slice s.aB s.buses.length s.cB, Value.slice s.aL s.lines.length s.cL, Value.slice s.aS s.srcs.length s.cS, Value.slice aY nY s.cY] 27) := hh (HBX.o.q hq7)
 have HBX2 : Hid (HB U b2 #[Value.slice p.aC p.closed.length p.cC, Value.slice p.aK p.rows.length p.cK] 31) := hh (HBX2.o.q hq7)
 have HBX3 : Hid (HB U b3 cs 44) := hh (HBX3.o.q hq7)
 have HBX4 : Hid (HB U b4 #[Value.bool (O 0), Value.bool (O 1), Value.bool (O 2)] 65) := hh (HBX4.o.q hq7)
 have HGU := hh (HG.o.q hq7)
 have HWU := hh (HW.o.q hq7)
 have HMA := hh (HMA0.o.q hq7)
 have OPU := hh fun (w' : World) (hq : Q U w') => OPC.o w' (HQU.o.trans hq)
 obtain ⟨ml, eml⟩ : ∃ l, a.d.mem = l := ⟨_, rfl⟩
 obtain ⟨aM, eaM⟩ : ∃ m, a.aM = m := ⟨_, rfl⟩
 obtain ⟨cM, ecM⟩ : ∃ m, a.cM = m := ⟨_, rfl⟩
 obtain ⟨m, em⟩ : ∃ m, ml.length = m := ⟨_, rfl⟩
 have HCELL : Hid (∀ gd, prG a gd = #[Value.slice a.aB a.d.buses.length a.cB, Value.slice aM m cM, Value.bool a.d.mv, Value.bool false, Value.bool false, Value.bool false, Value.bool false, Value.bool false, Value.bool false, Value.bool gd, Value.bool false]) := hh fun gd => by unfold prG; rw [eaM, ecM, eml, em]
 rw [eml, em] at HMA b1
 rw [eml, eaM, ecM, em] at HBS
 rw [eml] at HMB HMS HPA
 rw [eaM, ecM] at HMA
 have z0 := HBS.o.cell 0
 have z1 := HBS.o.cell 1
 have z2 := HBS.o.cell 2
 simp only [List.getElem?_toArray, List.getElem?_cons_zero, List.getElem?_cons_succ] at z0 z1 z2
 have obS := HBS.o.old
 have EM := hh em
 have m0 : (0 : Int) ≤ (m : Int) := by omega
 have x4 : U.cell? ⟨b3, 48, none⟩ = some (.int .i64 hm) := (HBX3.o.cell 48).trans c4
 have s0 := HBX.o.cell 0
 have s1 := HBX.o.cell 1
 have s2 := HBX.o.cell 2
 have s3 := HBX.o.cell 3
 have s4 := HBX.o.cell 4
 have p0 := HBX2.o.cell 0
 have p1 := HBX2.o.cell 1
 simp only [List.getElem?_toArray, List.getElem?_cons_zero, List.getElem?_cons_succ] at s0 s1 s2 s3 s4 p0 p1
 have ob := HBX.o.old
 have ob2 := HBX2.o.old
 have ob3 := HBX3.o.old
 have ob4 := HBX4.o.old
 haveI bk3 : Blk U b3 (Obj.cells cs 44) := ⟨HBX3.o⟩
 clear x1 x2 x3 eU em eml eaM ecM HBX0 hq7
 generalize V.heap.size + kk.os.size = bS at z0 z1 z2 obS HBS ⊢
 go_wp2_with fail
 go_loopw [19, 20, 53] (fun v u i wr => ∃ (j : Nat) (A1 A2 : Option Addr) (c1 c2 : Nat) (gd : Bool), v = .slice A1 j c1 ∧ u = .slice A2 j c2 ∧ i = .int .i64 j ∧ j ≤ m ∧ Hid (SecSt U wr U.heap.size (prG a gd) (.slice A1 j c1) (.slice A2 j c2) ((ml.take j).map Prod.fst) ((ml.take j).map Prod.snd)) ∧ Hid (gd = cpB G (ml.take j))) (fun _ _ i _ => m - (intOf i).toNat)
 case atStart => exact ⟨0, none, none, 0, 0, true, rfl, rfl, rfl, Nat.zero_le _, hh ⟨(by repeat' (first | exact Q.refl _ | refine Q.alloc ?_ _ | refine Q.jk ?_ _ | refine Q.drew ?_)), by rw [HCELL.o]; exact HB.new _ _ _ _ rfl, Nat.le_refl _, World.ownsRow_nil _ _ _ _, World.ownsRow_nil _ _ _ _, Apart.nil _⟩, hh rfl⟩
 case round =>
 obtain ⟨j, A1, A2, c1, c2, gd, rfl, rfl, rfl, hj, HST, HGD⟩ := hrel
 have hq8 := HST.o.q
 obtain ⟨kj, rfl⟩ := hq8
 by_cases hlj : j < m
 ·obtain ⟨mm, hmm⟩ : ∃ x, ml[j]? = some x := ⟨_, List.getElem?_eq_getElem (by rw [EM.o]; exact hlj)⟩
  obtain ⟨gM, oM, rfl, ogM, hcM⟩ := mem_at HMA.o (by omega)
  obtain ⟨y0', y1'⟩ := hcM.o j mm hmm
  obtain ⟨q, eq, hq⟩ := HMB.o mm (List.mem_of_getElem? hmm)
  obtain ⟨gG, oG, rfl, ogG, hcG⟩ := HGU.o.at_ (by omega)
  have aG := hcG.o q hq
  have TF := hh (map_take Prod.fst ml j mm hmm)
  have TS := hh (map_take Prod.snd ml j mm hmm)
  have TC := hh (cpB_take (G := G) hmm)
  obtain ⟨mb, sg⟩ := mm
  dsimp only at y0' y1' eq TF TS TC
  subst eq
  rw [Int.toNat_natCast] at TC
  have LF : Hid (((ml.take j).map Prod.fst).length = j) := hh (by rw [List.length_map, List.length_take, EM.o]; omega)
  have LS : Hid (((ml.take j).map Prod.snd).length = j) := hh (by rw [List.length_map, List.length_take, EM.o]; omega)
  generalize (ml.take j).map Prod.fst = la at HST TF LF
  generalize (ml.take j).map Prod.snd = lb at HST TS LS
  obtain ⟨bq, ebq⟩ : ∃ x, G.getD q false = x := ⟨_, rfl⟩
  rw [ebq] at aG TC
  have j0 : (0 : Int) ≤ (j : Int) := by omega
  have j1 : (j : Int) < (m : Int) := by omega
  have q0 : (0 : Int) ≤ (q : Int) := by omega
  have q1 : (q : Int) < (nY : Int) := by omega
  clear hcM hcG hmm ebq
  go_upto_region 12 with fail
  refine wp_world ?_
  intro V2 eV2
  have HST2 : Hid (SecSt U V2 U.heap.size (prG a gd) (.slice A1 j c1) (.slice A2 j c2) la lb) := hh (by rw [eV2]; exact HST.o.to Q.i)
  have HX : Hid (HB V2 (U.heap.size + kj.os.size) #[Value.int .i64 (q : Int), Value.int .i64 sg] 86) := hh (by rw [eV2]; exact HB.new _ _ _ _ (by simp [World.size_jk]))
  clear eV2 HST
  generalize U.heap.size + kj.os.size = bx at HX ⊢
  have v0 := HX.o.cell 0
  have v1 := HX.o.cell 1
  simp only [List.getElem?_toArray, List.getElem?_cons_zero, List.getElem?_cons_succ] at v0 v1
  have obx := HX.o.old
  have hnx := own_hb HST2.o.ra HX.o (by decide)
  have hny := own_hb HST2.o.rb HX.o (by decide)
  go_cut [19, 20] (fun v u wx => ∃ (A1' A2' : Option Addr) (c1' c2' : Nat), v = .slice A1' (j + 1) c1' ∧ u = .slice A2' (j + 1) c2' ∧ SecSt U wx U.heap.size (prG a gd) (.slice A1' (j + 1) c1') (.slice A2' (j + 1) c2') (la ++ [(q : Int)]) (lb ++ [sg]) ∧ HB wx bx #[Value.int .i64 (q : Int), Value.int .i64 sg] 86)
  case first =>
   go_region_law (first
    | (refine step_appA rfl _ _ rfl U U.heap.size (prG a gd) (.slice A1 j c1) (.slice A2 j c2) la lb (q : Int) _ (by rfl) (by rfl) (HST2.o.to Q.i) (by simp [go_sem, World.size_jk]; done) (by rw [LF.o]; omega) ?_; intro A1' c1' w1 hst1 hk1; rw [LF.o] at hst1 ⊢; have hx1 := hk1 _ _ _ (HX.o.q Q.i) hnx; have u0 := hx1.cell 0; have u1 := hx1.cell 1; simp only [List.getElem?_toArray, List.getElem?_cons_zero, List.getElem?_cons_succ] at u0 u1; have obu := hx1.old)
    | (refine step_appB rfl _ _ rfl U U.heap.size (prG a gd) _ (.slice A2 j c2) _ lb sg _ (by rfl) (by rfl) (hst1.to Q.i) (by first | (simp [go_sem, World.size_jk]; done) | exact (hk1 _ #[Value.int .i64 sg] 3 (by first | exact HB.new _ _ _ _ (by simp) | exact (HB.new _ _ _ _ (by simp)).alloc _) (fun e => by have := (HST2.o.ra.lt _ e).2; first | omega | (simp only [World.size_alloc] at this; omega))).cell 0) (by rw [LS.o]; omega) ?_; intro A2' c2' w2 hst2 hk2; rw [LS.o] at hst2 ⊢; have hx2 := hk2 _ _ _ (hx1.q Q.i) hny))
   all_goals (go_wp2_with fail)
   all_goals go_meet
   all_goals exact ⟨A1', A2', c1', c2', rfl, rfl, hst2, hx2⟩
  case rest =>
   obtain ⟨A1', A2', c1', c2', rfl, rfl, hst2, hx2⟩ := hcut
   have HST3 := hh hst2
   have HX3 := hh hx2
   have hq9 := hst2.q
   clear hst2 hx2 HST2 HX v0 v1 obx hnx hny
   obtain ⟨kz, rfl⟩ := hq9
   have v0 := HX3.o.cell 0
   simp only [List.getElem?_toArray, List.getElem?_cons_zero, List.getElem?_cons_succ] at v0
   have obx := HX3.o.old
   have p9 : (U.jk kz).cell? ⟨U.heap.size, 9, none⟩ = some (.bool gd) := HST3.o.hb.cell 9
   have f9 := HST3.o.hb.soft 9
   have obp : Old U.heap.size (U.jk kz) := HST3.o.hb.old
   have HSET : Hid (∀ x, SecSt U ((U.jk kz).setCell ⟨U.heap.size, 9, none⟩ (.bool x)) U.heap.size (prG a x) (.slice A1' (j + 1) c1') (.slice A2' (j + 1) c2') ((ml.take (j + 1)).map Prod.fst) ((ml.take (j + 1)).map Prod.snd)) := hh fun x => by
    rw [← prG_set a gd x, TF.o, TS.o]
    exact HST3.o.set 9 _
   have TC2 : Hid ((gd && bq) = cpB G (ml.take (j + 1))) := hh (by rw [TC.o, ← HGD.o])
   clear TC HGD HST3 HX3
   cases gd with
   | false =>
    go_wp2_with fail
    go_roundw
    case rel => exact ⟨j + 1, A1', A2', c1', c2', false, rfl, rfl, by go_num, by omega, hh (HSET.o false), TC2⟩
    case measure => simp [intOf] <;> omega
   | true =>
    rw [Bool.true_and] at TC2
    go_wp2_with fail
    go_roundw
    case rel => exact ⟨j + 1, A1', A2', c1', c2', bq, rfl, rfl, by go_num, by omega, hh (HSET.o bq), TC2⟩
    case measure => simp [intOf] <;> omega
 obtain rfl : j = m := by omega
 rw [show ml.take j = ml from List.take_of_length_le (by rw [EM.o]; exact Nat.le_refl _)] at HST HGD
 have KLEN : Hid ((ml.map Prod.fst).length = j ∧ (ml.map Prod.snd).length = j) := hh ⟨by rw [List.length_map, EM.o], by rw [List.length_map, EM.o]⟩
 obtain ⟨C, eC⟩ : ∃ C, cpB G ml = C := ⟨_, rfl⟩
 rw [eC] at HGD HPA
 have EC := hh eC
 obtain rfl : gd = C := HGD.o
 clear eC HGD hlj hj
 cases gd with
 | false =>
  have HPB := hh (HPA.o.trans (if_neg (by decide)))
  clear HPA
  go_wp2_with fail
  go_loopw [78] (fun i wr => ∃ ph : Nat, i = .int .i64 ph ∧ ph ≤ 3 ∧ Hid (SecSt U wr U.heap.size (prG a false) (.slice A1 j c1) (.slice A2 j c2) (ml.map Prod.fst) (ml.map Prod.snd))) (fun i _ => 3 - (intOf i).toNat)
  case atStart => exact ⟨0, rfl, by omega, HST⟩
  case round =>
  clear HST
  obtain ⟨ph, rfl, hph, HST⟩ := hrel
  have hq9 := HST.o.q
  obtain ⟨kz, rfl⟩ := hq9
  have p9 : (U.jk kz).cell? ⟨U.heap.size, 9, none⟩ = some (.bool false) := HST.o.hb.cell 9
  have obp : Old U.heap.size (U.jk kz) := HST.o.hb.old
  by_cases hlp : ph < 3
  ·have g0 : (0 : Int) ≤ (ph : Int) := by omega
   have g1 : (ph : Int) < 3 := by omega
   go_wp2_with fail
   go_roundw
   case rel => exact ⟨ph + 1, by go_num, by omega, HST⟩
   case measure => simp [intOf] <;> omega
  obtain rfl : ph = 3 := by omega
  have HFB : Hid (HB (U.jk kz) U.heap.size (prC a (PS a.d)).toArray 67) := hh (by rw [HPB.o]; exact HST.o.hb)
  clear HST p9 hph hlp
  obtain ⟨pr, epr⟩ : ∃ x, PS a.d = x := ⟨_, rfl⟩
  rw [epr] at HFB
  have EPR := hh epr
  have y0 := HFB.o.cell 0
  have y1 := HFB.o.cell 1
  have y2 := HFB.o.cell 2
  have y3 := HFB.o.cell 3
  have y4 := HFB.o.cell 4
  have y5 := HFB.o.cell 5
  have y6 := HFB.o.cell 6
  have y7 := HFB.o.cell 7
  have y8 := HFB.o.cell 8
  have y9 := HFB.o.cell 9
  have y10 := HFB.o.cell 10
  simp only [prC, secC, List.cons_append, List.nil_append, List.getElem?_toArray, List.getElem?_cons_zero, List.getElem?_cons_succ] at y0 y1 y2 y3 y4 y5 y6 y7 y8 y9 y10
  have obq := HFB.o.old
  clear epr
  go_wp2_with (first | (at_builtin; refine wpList_app_pro rfl _ _ rfl V (.slice A' k c') (rs.take k) PS a _ rfl rfl (HRU.o.q Q.i) (by rw [EPR.o]; exact cells_of (t := 67) (HB.new _ _ _ _ (by simp [World.size_jk]))) (by rw [HLK.o]; omega) (HQU.o.trans Q.i) ?_; intro A2' c2' kx hrp; rw [HLK.o] at hrp ⊢) | fail)
  go_roundw
  case rel => exact ⟨k + 1, A2', c2', rfl, by go_num, by omega, hh Q.i, hh (by rw [HAK.o]; exact hrp)⟩
  case measure => simp [intOf] <;> omega
 | true =>
  have HPB := hh (HPA.o.trans (if_pos rfl))
  clear HPA
  obtain ⟨op, eop⟩ : ∃ f, opM s W r ml = f := ⟨_, rfl⟩
  obtain ⟨bl, ebl⟩ : ∃ f, dsM W hm ml = f := ⟨_, rfl⟩
  have HDM := hh fun ph => HDS.o ml ph
  have OPS := hh fun (w' : World) (hq : Q U w') (hA : RdN w' A1 j c1 .i64 (ml.map Prod.fst)) (hB : RdN w' A2 j c2 .i64 (ml.map Prod.snd)) (ph : Nat) (hp : ph < 3) => OPU.o w' hq A1 A2 j c1 c2 ml hA hB b1 ph hp EC.o HMB.o HMS.o
  have HMK := hh (HMO.o ml EC.o HMB.o)
  rw [eop] at HPB
  rw [ebl] at HPB HDM
  simp only [eop] at OPS
  clear eop ebl OPU HDS HMO
  go_wp2_with fail
  go_loopw [78] (fun i wr => ∃ (ph : Nat) (F : Nat → Value), i = .int .i64 ph ∧ ph ≤ 3 ∧ Hid (SecSt U wr U.heap.size (arrF F 11) (.slice A1 j c1) (.slice A2 j c2) (ml.map Prod.fst) (ml.map Prod.snd)) ∧ Hid (∀ q, q < 11 → some (F q) = (prQ a op bl O ph)[q]?)) (fun i _ => 3 - (intOf i).toNat)
  case atStart => exact ⟨0, fun q => (prG a true)[q]!, rfl, by omega, HST, hh fun q hq => by rw [prQ_zero]; rcases (by omega : q = 0 ∨ q = 1 ∨ q = 2 ∨ q = 3 ∨ q = 4 ∨ q = 5 ∨ q = 6 ∨ q = 7 ∨ q = 8 ∨ q = 9 ∨ q = 10) with rfl | rfl | rfl | rfl | rfl | rfl | rfl | rfl | rfl | rfl | rfl <;> rfl⟩
  case round =>
  clear HST
  obtain ⟨ph, F, rfl, hph, HST, HF⟩ := hrel
  have hq9 := HST.o.q
  obtain ⟨kz, rfl⟩ := hq9
  by_cases hlp : ph < 3
  rotate_left
  ·obtain rfl : ph = 3 := by omega
   have HFB : Hid (HB (U.jk kz) U.heap.size (prC a (PS a.d)).toArray 67) := hh (by
    refine hb_list HST.o.hb (by rw [HPB.o]; rfl) fun q hq => ?_
    rw [HF.o q hq, prQ_three, HPB.o])
   clear HST HF hph hlp OPS HMK
   obtain ⟨pr, epr⟩ : ∃ x, PS a.d = x := ⟨_, rfl⟩
   rw [epr] at HFB
   have EPR := hh epr
   have y0 := HFB.o.cell 0
   have y1 := HFB.o.cell 1
   have y2 := HFB.o.cell 2
   have y3 := HFB.o.cell 3
   have y4 := HFB.o.cell 4
   have y5 := HFB.o.cell 5
   have y6 := HFB.o.cell 6
   have y7 := HFB.o.cell 7
   have y8 := HFB.o.cell 8
   have y9 := HFB.o.cell 9
   have y10 := HFB.o.cell 10
   simp only [prC, secC, List.cons_append, List.nil_append, List.getElem?_toArray, List.getElem?_cons_zero, List.getElem?_cons_succ] at y0 y1 y2 y3 y4 y5 y6 y7 y8 y9 y10
   have obq := HFB.o.old
   clear epr
   go_wp2_with (first | (at_builtin; refine wpList_app_pro rfl _ _ rfl V (.slice A' k c') (rs.take k) PS a _ rfl rfl (HRU.o.q Q.i) (by rw [EPR.o]; exact cells_of (t := 67) (HB.new _ _ _ _ (by simp [World.size_jk]))) (by rw [HLK.o]; omega) (HQU.o.trans Q.i) ?_; intro A2' c2' kx hrp; rw [HLK.o] at hrp ⊢) | fail)
   go_roundw
   case rel => exact ⟨k + 1, A2', c2', rfl, by go_num, by omega, hh Q.i, hh (by rw [HAK.o]; exact hrp)⟩
   case measure => simp [intOf] <;> omega
  have g0 : (0 : Int) ≤ (ph : Int) := by omega
  have g1 : (ph : Int) < 3 := by omega
  obtain ⟨ob', eob'⟩ : ∃ x, op ph = x := ⟨_, rfl⟩
  have EOB := hh eob'
  have OPP := hh fun (w' : World) (hq : Q U w') hA hB => OPS.o w' hq hA hB ph hlp
  rw [eob'] at OPP
  have f9 : F 9 = .bool true := by have := HF.o 9 (by decide); unfold prQ at this; simpa [secC] using this
  have f6 : F (6 + ph) = .bool false := by
   have := HF.o (6 + ph) (by omega)
   unfold prQ at this
   rcases (by omega : ph = 0 ∨ ph = 1 ∨ ph = 2) with rfl | rfl | rfl <;> simpa [secC] using this
  have f10 : F 10 = .bool (trP op bl O ph) := by have := HF.o 10 (by decide); unfold prQ at this; simpa [secC] using this
  have p9 : (U.jk kz).cell? ⟨U.heap.size, 9, none⟩ = some (.bool true) := by rw [HST.o.hb.cell, arrF_get F (by decide), f9]
  have p3 : (U.jk kz).cell? ⟨U.heap.size, 3 + ph, none⟩ = some (F (3 + ph)) := by rw [HST.o.hb.cell, arrF_get F (by omega)]
  have fz3 := HST.o.hb.soft (3 + ph)
  have obp : Old U.heap.size (U.jk kz) := HST.o.hb.old
  clear eob'
  go_upto_region 20 with (first | (go_at_call 52; (with_reducible refine (OPP.o _ (HST.o.q.trans Q.i) (rdn_of_row (HST.o.ra.q Q.i) KLEN.o.1) (rdn_of_row (HST.o.rb.q Q.i) KLEN.o.2)).q ?_); intro ko) | fail)
  refine wp_world ?_
  intro V3 eV3
  have HST3 : Hid (SecSt U V3 U.heap.size (arrF (updF F (3 + ph) (.bool ob')) 11) (.slice A1 j c1) (.slice A2 j c2) (ml.map Prod.fst) (ml.map Prod.snd)) := hh (by rw [eV3, ← arrF_set]; exact (HST.o.set _ _).to Q.i)
  have HF1 : Hid (updF F (3 + ph) (.bool ob') (6 + ph) = .bool false ∧ updF F (3 + ph) (.bool ob') (3 + ph) = .bool ob' ∧ updF F (3 + ph) (.bool ob') 10 = .bool (trP op bl O ph) ∧ ∀ q, q ≠ 3 + ph → updF F (3 + ph) (.bool ob') q = F q) := hh ⟨by rw [updF_other _ _ (by omega), f6], updF_same _ _ _, by rw [updF_other _ _ (by omega), f10], fun q hq => updF_other _ _ hq⟩
  clear eV3 HST p9 p3 fz3 obp f9 f6 f10 OPP
  generalize updF F (3 + ph) (.bool ob') = F1 at HST3 HF1
  have hq9 := HST3.o.q
  obtain ⟨k3, rfl⟩ := hq9
  have HDP := hh (HDM.o ph)
  go_wp2_with fail
  go_loopw [96] (fun i wr => ∃ (t : Nat) (F3 : Nat → Value), i = .int .i64 t ∧ t ≤ j ∧ Hid (SecSt U wr U.heap.size (arrF F3 11) (.slice A1 j c1) (.slice A2 j c2) (ml.map Prod.fst) (ml.map Prod.snd)) ∧ Hid (F3 (6 + ph) = .bool (decide (0 < hm) && (ml.take t).any fun m => dstB (wvF W m.1.toNat ph) hm)) ∧ Hid (∀ q, q ≠ 6 + ph → F3 q = F1 q)) (fun i _ => j - (intOf i).toNat)
  case atStart => exact ⟨0, F1, rfl, by omega, HST3, hh (by rw [HF1.o.1, List.take_zero, List.any_nil, Bool.and_false]), hh fun q _ => rfl⟩
  case round =>
  clear HST3
  obtain ⟨t, F3, rfl, ht, HST, H6, HO3⟩ := hrel
  have hq9 := HST.o.q
  obtain ⟨kt, rfl⟩ := hq9
  have obp : Old U.heap.size (U.jk kt) := HST.o.hb.old
  by_cases hlt2 : t < j
  rotate_left
  ·obtain rfl : t = j := by omega
   rw [show ml.take t = ml from List.take_of_length_le (by rw [EM.o]; exact Nat.le_refl _)] at H6
   have H6b : Hid (F3 (6 + ph) = .bool (bl ph)) := hh (by rw [H6.o, HDP.o])
   obtain ⟨bb, ebb⟩ : ∃ x, bl ph = x := ⟨_, rfl⟩
   obtain ⟨bt, ebt⟩ : ∃ x, trP op bl O ph = x := ⟨_, rfl⟩
   obtain ⟨bo, ebo⟩ : ∃ x, O ph = x := ⟨_, rfl⟩
   have p3 : (U.jk kt).cell? ⟨U.heap.size, 3 + ph, none⟩ = some (.bool ob') := by rw [HST.o.hb.cell, arrF_get F3 (by omega), HO3.o _ (by omega), HF1.o.2.1]
   have p6 : (U.jk kt).cell? ⟨U.heap.size, 6 + ph, none⟩ = some (.bool bb) := by rw [HST.o.hb.cell, arrF_get F3 (by omega), H6b.o, ebb]
   have p10 : (U.jk kt).cell? ⟨U.heap.size, 10, none⟩ = some (.bool bt) := by rw [HST.o.hb.cell, arrF_get F3 (by omega), HO3.o _ (by omega), HF1.o.2.2.1, ebt]
   have pO : U.cell? ⟨b4, ph, none⟩ = some (.bool bo) := by
    rw [HBX4.o.cell, ← ebo]
    rcases (by omega : ph = 0 ∨ ph = 1 ∨ ph = 2) with rfl | rfl | rfl <;> rfl
   have fz10 := HST.o.hb.soft 10
   have HNS : Hid (∀ x, SecSt U ((U.jk kt).setCell ⟨U.heap.size, 10, none⟩ (.bool x)) U.heap.size (arrF (updF F3 10 (.bool x)) 11) (.slice A1 t c1) (.slice A2 t c2) (ml.map Prod.fst) (ml.map Prod.snd)) := hh fun x => by rw [← arrF_set]; exact HST.o.set _ _
   have HNF : Hid (∀ q, q < 11 → some (updF F3 10 (.bool (bt || (ob' && !bb && bo))) q) = (prQ a op bl O (ph + 1))[q]?) := hh (prQ_next a op bl O ph hlp F _ HF.o (by rw [updF_other _ _ (by omega), HO3.o _ (by omega), HF1.o.2.1, EOB.o]) (by rw [updF_other _ _ (by omega), H6b.o]) (by rw [updF_same, EOB.o, ebb, ebt, ebo]) (fun q h1 h2 h3 => by rw [updF_other _ _ h3, HO3.o q h2, HF1.o.2.2.2 q h1]))
   clear HST H6 H6b HF HF1 HO3 ebb ebt ebo HDP EOB
   cases bt <;> cases ob' <;> cases bb <;> cases bo
   all_goals
    go_wp2_with fail
    go_roundw
    case rel => exact ⟨ph + 1, _, by go_num, by omega, hh (HNS.o _), HNF⟩
    case measure => simp [intOf] <;> omega
  obtain ⟨mm, hmm⟩ : ∃ x, ml[t]? = some x := ⟨_, List.getElem?_eq_getElem (by rw [EM.o]; exact hlt2)⟩
  obtain ⟨gA, oA, rfl, ogA, hcA⟩ := RdN.at_ (rdn_of_row HST.o.ra KLEN.o.1) (by omega)
  have a1 := hcA.o t hlt2
  rw [show (ml.map Prod.fst).getD t 0 = mm.1 by simp [List.getD, hmm]] at a1
  obtain ⟨q, y, hq⟩ := HMK.o mm (List.mem_of_getElem? hmm)
  obtain ⟨g2, o2, rfl, og2, hc2⟩ := HWU.o.at_ (by have := hq.lt; omega)
  have hlq := hq.lt
  have HWN := hh (hc2.o q ph hlq (by omega))
  have HWK := hh (hq.w ph hlp)
  rw [hq.e] at a1
  have HTK := hh (any_take (fun m : Int × Int => dstB (wvF W m.1.toNat ph) hm) ml t mm hmm)
  have EMQ : Hid (mm.1.toNat = q) := hh (by rw [hq.e]; exact Int.toNat_natCast q)
  rw [EMQ.o] at HTK
  obtain ⟨dd, edd⟩ : ∃ x, dstB (wvF W q ph) hm = x := ⟨_, rfl⟩
  have DSQ := hh fun w' hq => rdist_c g2 (o2 + q * 72 + ph * 12) 12 (wvF W q ph) hm w' (HWN.o.q hq) HWK.o m00 m01
  rw [edd] at DSQ HTK
  obtain ⟨pb, epb⟩ : ∃ x, (decide (0 < hm) && (ml.take t).any fun m => dstB (wvF W m.1.toNat ph) hm) = x := ⟨_, rfl⟩
  rw [epb] at H6
  have HNX : Hid ((decide (0 < hm) && (ml.take (t + 1)).any fun m => dstB (wvF W m.1.toNat ph) hm) = (pb || (decide (0 < hm) && dd))) := hh (by rw [HTK.o, Bool.and_or_distrib_left, epb])
  have p6 : (U.jk kt).cell? ⟨U.heap.size, 6 + ph, none⟩ = some (.bool pb) := by rw [HST.o.hb.cell, arrF_get F3 (by omega), H6.o]
  have fz6 := HST.o.hb.soft (6 + ph)
  have t0 : (0 : Int) ≤ (t : Int) := by omega
  have t1 : (t : Int) < (j : Int) := by omega
  have q0 : (0 : Int) ≤ (q : Int) := by omega
  have q1 : (q : Int) < (nY : Int) := by omega
  clear hcA hc2 hmm hq HWN HWK HTK edd epb H6
  go_upto_region 23 with fail
  refine wrj (by kernel_rfl) ?_
  repeat (go_big_quiet_step (first | (go_at_call 53; exact Calls.jk_of (DSQ.o _ Q.i))))
  refine wq0 fun kq => ?_
  have HNS : Hid (∀ x, SecSt U (((U.jk kt).setCell ⟨U.heap.size, 6 + ph, none⟩ (.bool x)).jk kq) U.heap.size (arrF (updF F3 (6 + ph) (.bool x)) 11) (.slice (some ⟨gA, oA, none⟩) j c1) (.slice A2 j c2) (ml.map Prod.fst) (ml.map Prod.snd)) := hh fun x => by rw [← arrF_set]; exact (HST.o.set _ _).to Q.i
  have HOX : Hid (∀ x, ∀ q, q ≠ 6 + ph → updF F3 (6 + ph) (.bool x) q = F1 q) := hh fun x q hq => (updF_other _ _ hq).trans (HO3.o q hq)
  clear HST
  cases pb with
  | true =>
   go_wp2_with fail
   go_roundw
   case rel => exact ⟨t + 1, _, by go_num, by omega, hh (HNS.o true), hh (by rw [updF_same, HNX.o]; rfl), hh (HOX.o true)⟩
   case measure => simp [intOf] <;> omega
  | false =>
   by_cases hp : 0 < hm
   ·skip
    go_wp2_with fail
    go_roundw
    case rel => exact ⟨t + 1, _, by go_num, by omega, hh (HNS.o dd), hh (by rw [updF_same, HNX.o, decide_eq_true hp]; cases dd <;> rfl), hh (HOX.o dd)⟩
    case measure => simp [intOf] <;> omega
   skip
   go_wp2_with fail
   go_roundw
   case rel => exact ⟨t + 1, _, by go_num, by omega, hh (HNS.o false), hh (by rw [updF_same, HNX.o, decide_eq_false hp]; rfl), hh (HOX.o false)⟩
   case measure => simp [intOf] <;> omega
structure TrSt (V B w : World) (g nY : Nat) (F : Nat → Value) (v : Value) (rs : List SecR) (f : Sec → Prt) : Prop where
 q : Q V w
 hb : HB w g (arrF F nY) 4
 gp : V.heap.size ≤ g
 rp : RowP B w v rs f
 rm : ∀ a ∈ rs, RowM B w (.slice a.aM a.d.mem.length a.cM) a.d.mem
theorem TrSt.to {V B w w' : World} {g nY : Nat} {F : Nat → Value} {v : Value} {rs : List SecR} {f : Sec → Prt} (h : TrSt V B w g nY F v rs f) (hq : Q w w') : TrSt V B w' g nY F v rs f := ⟨h.q.trans hq, h.hb.q hq, h.gp, h.rp.q hq, fun a ha => ownsRow_q (h.rm a ha) hq⟩
theorem TrSt.set {V B w : World} {g nY : Nat} {F : Nat → Value} {v : Value} {rs : List SecR} {f : Sec → Prt} (h : TrSt V B w g nY F v rs f) (i : Nat) (x : Value) : TrSt V B (w.setCell ⟨g, i, none⟩ x) g nY (updF F i x) v rs f := ⟨h.q.setCell h.gp x, by rw [← arrF_set]; exact h.hb.set i x, h.gp, kept_hb h.hb h.rp (by decide), fun a ha => kept_hb h.hb (h.rm a ha) (by decide)⟩
theorem hb_apart {w : World} {g b : Nat} {cs cs' : Array Value} {t t' : TypeId} (h : HB w g cs t) (h' : HB w b cs' t') (hne : t ≠ t') : g ≠ b := by
 rintro rfl
 have e : w.heap[g]? = some (.cells cs t) := h
 have e' : w.heap[g]? = some (.cells cs' t') := h'
 rw [e] at e'
 injection e' with e'
 injection e' with _ h1 _
 exact hne h1
theorem RowP.cells {V w : World} {A : Option Addr} {n c : Nat} {rs : List SecR} {f : Sec → Prt} (h : RowP V w (.slice A n c) rs f) (hl : rs.length = n) (hn : 0 < n) : ∃ g o, A = some ⟨g, o, none⟩ ∧ Old g w ∧ Hid (∀ k a q u, rs[k]? = some a → q < 11 → (prC a (f a.d))[q]? = some u → w.cell? ⟨g, o + k * 11 + q, none⟩ = some u) := by
 subst hl
 obtain ⟨g, o, e, ho, hc⟩ := (h.at_ rfl).at_ hn
 refine ⟨g, o, e, ho, hh fun k a q u ha hq hu => ?_⟩
 rw [Nat.add_assoc]
 exact hc.o (k * 11 + q) u (by rw [prC_get rs f k q a ha hq]; exact hu)
theorem r34trips_c (s : Sta) (p : Pos) (cs : Array Value) (r : Rel) [hR : RelC cs r] (aW : Option Addr) (cW : Nat) (W : List Int) (aG : Option Addr) (cG : Nat) (G : List Bool) (aF : Option Addr) (cF : Nat) (FL : List Bool) (w : World) (h : GoodAt w s p) (hW : WvAt w aW s.bays.length cW W) (hG : GdAt w aG s.bays.length cG G) (hF : GdAt w aF s.bays.length cF FL) (hu : usB r = true) (hw : WvOK W G s.bays.length) :
  Calls Tryz.prog 11 #[.agg #[Value.string s.nm, Value.slice s.aB s.buses.length s.cB, Value.slice s.aL s.lines.length s.cL, Value.slice s.aS s.srcs.length s.cS, Value.slice s.aY s.bays.length s.cY], .agg #[Value.slice p.aC p.closed.length p.cC, Value.slice p.aK p.rows.length p.cK], .agg cs, .slice aW s.bays.length cW, .slice aG s.bays.length cG, .slice aF s.bays.length cF] w (RetTg (tpB s p FL (prS s W G r)) s.bays.length w) := by
 have hlens := h.lens
 have TGC := hh fun (w' : World) (hq : Q w w') => r29targets_c s p aF cF FL w' (h.q hq) (hF.q hq)
 unfold RetTg at TGC
 have SEC := hh fun (w' : World) (hq : Q w w') => r34sec_c s p cs r aW cW W aG cG G w' (h.q hq) (hW.q hq) (hG.q hq) hu hw
 unfold RetPq at SEC
 have HIP : Hid (∀ x ∈ imI s p, x.mem.length ≤ 16 ∧ x.buses.length ≤ s.buses.length ∧ ∀ m ∈ x.mem, ∃ k : Nat, m.1 = (k : Int) ∧ k < s.bays.length) := hh (imF_prop s p _ _ (by omega))
 have HIL : (imI s p).length ≤ 4 := by
  have := imF_len s p (grI s (rsP p)) s.buses.length
  unfold imI
  omega
 have HTP : Hid (tpB s p FL (prS s W G r) = fun b => tgB s p FL s.bays.length b || trB (imI s p) (prS s W G r) b) := hh (by funext b; rfl)
 have HTR := hh fun rs b => trB_map rs (prS s W G r) b
 generalize tpB s p FL (prS s W G r) = TP at HTP ⊢
 generalize tgB s p FL s.bays.length = TG at TGC HTP
 generalize prS s W G r = PS at SEC HTP HTR
 generalize imI s p = IM at SEC HIP HIL HTP
 have hY16 : s.bays.length ≤ 16 := by omega
 have n0 : (0 : Int) ≤ (s.bays.length : Int) := by omega
 obtain ⟨aY, eaY⟩ : ∃ a, s.aY = a := ⟨_, rfl⟩
 obtain ⟨nY, eY⟩ : ∃ n, s.bays.length = n := ⟨_, rfl⟩
 rw [eaY, eY] at TGC SEC
 rw [eY] at HIP hY16 n0
 rw [eaY, eY]
 clear h hW hG hF hu hw hlens eaY eY
 go_enter Tryz.func11, Tryz.ntmps11
 go_upto_region 3 with (first | (go_at_call 26; (with_reducible refine (TGC.o _ Q.i).mono ?_); rintro e w' ⟨g, rfl, ⟨kt, rfl⟩, hge, htb⟩) | (go_at_call 27; (with_reducible refine (SEC.o _ Q.i).mono ?_); rintro e w' ⟨A, c, rs, rfl, ⟨k2, rfl⟩, hd, hrp, hrm⟩) | fail)
 refine wp_world ?_
 intro U eU
 have HD := hh hd
 have hrs4 : rs.length ≤ 4 := by rw [← hd, List.length_map] at HIL; exact HIL
 obtain ⟨B, hB⟩ : ∃ B, B = ((((w.alloc (Obj.cells #[Value.string s.nm, Value.slice s.aB s.buses.length s.cB, Value.slice s.aL s.lines.length s.cL, Value.slice s.aS s.srcs.length s.cS, Value.slice aY nY s.cY] 27)).alloc (Obj.cells #[Value.slice p.aC p.closed.length p.cC, Value.slice p.aK p.rows.length p.cK] 31)).alloc (Obj.cells cs 44)).jk kt) := ⟨_, rfl⟩
 have HT : Hid (TrSt w B U g nY (fun b => .bool (TG b)) (.slice A rs.length c) rs PS) := hh (by
  rw [eU, hB]
  exact ⟨Q.i, htb.q Q.i, Nat.le_trans (by simp [World.size_alloc]; omega) hge, hrp, hrm⟩)
 obtain ⟨n, en⟩ : ∃ n, rs.length = n := ⟨_, rfl⟩
 rw [en] at hrs4 HT ⊢
 have HN := hh en
 have hn0 : (0 : Int) ≤ (n : Int) := by omega
 clear eU hd hrp hrm htb hge hB TGC SEC en HIL
 go_wp2_with fail
 go_loopw [29] (fun i wr => ∃ (k : Nat) (FT : Nat → Value), i = .int .i64 k ∧ k ≤ n ∧ Hid (TrSt w B wr g nY FT (.slice A n c) rs PS) ∧ Hid (∀ b, b < nY → FT b = .bool (TG b || (rs.take k).any fun a => (PS a.d).tr && a.d.mem.any fun m => decide (m.1 = (b : Int))))) (fun i _ => n - (intOf i).toNat)
 case atStart => exact ⟨0, _, rfl, Nat.zero_le _, HT, hh fun b _ => by simp⟩
 case round =>
 clear HT
 obtain ⟨k, FT, rfl, hk, HT, HV⟩ := hrel
 have hq := HT.o.q
 obtain ⟨kk, rfl⟩ := hq
 by_cases hlt : k < n
 rotate_left
 ·obtain rfl : k = n := by omega
  have HFN : Hid (arrF FT nY = arrF (fun b => .bool (TP b)) nY) := hh (arrF_congr fun b hb => by
   rw [HV.o b hb, HTP.o, List.take_of_length_le (by rw [HN.o]; exact Nat.le_refl _), ← HTR.o rs b, HD.o])
  go_wp2_with fail
  go_ret
  exact ⟨g, by first | done | rfl, Q.i, HT.o.gp, by rw [← HFN.o]; exact HT.o.hb.q Q.i⟩
 obtain ⟨a, ha⟩ : ∃ a, rs[k]? = some a := ⟨_, List.getElem?_eq_getElem (by rw [HN.o]; exact hlt)⟩
 have ham := List.mem_of_getElem? ha
 obtain ⟨g4, o4, rfl, og4, hc4⟩ := HT.o.rp.cells HN.o (by omega)
 have HRM := hh fun (w' : World) (h : TrSt w B w' g nY FT (.slice (some ⟨g4, o4, none⟩) n c) rs PS) => h.rm a ham
 have HIA := hh (HIP.o a.d (by rw [← HD.o]; exact List.mem_map_of_mem ham))
 have HTK := hh fun b : Nat => any_take_succ rs (fun a => (PS a.d).tr && a.d.mem.any fun m => decide (m.1 = (b : Int))) k a ha
 obtain ⟨ml, eml⟩ : ∃ l, a.d.mem = l := ⟨_, rfl⟩
 obtain ⟨m, em⟩ : ∃ x, ml.length = x := ⟨_, rfl⟩
 obtain ⟨tr, etr⟩ : ∃ x, (PS a.d).tr = x := ⟨_, rfl⟩
 have x0 := hc4.o k a 0 _ ha (by decide) rfl
 have x1 := hc4.o k a 1 _ ha (by decide) rfl
 have x2 := hc4.o k a 2 _ ha (by decide) rfl
 have x3 := hc4.o k a 3 _ ha (by decide) rfl
 have x4 := hc4.o k a 4 _ ha (by decide) rfl
 have x5 := hc4.o k a 5 _ ha (by decide) rfl
 have x6 := hc4.o k a 6 _ ha (by decide) rfl
 have x7 := hc4.o k a 7 _ ha (by decide) rfl
 have x8 := hc4.o k a 8 _ ha (by decide) rfl
 have x9 := hc4.o k a 9 _ ha (by decide) rfl
 have x10 := hc4.o k a 10 _ ha (by decide) rfl
 rw [Nat.add_zero] at x0
 obtain ⟨aM, eaM⟩ : ∃ x, a.aM = x := ⟨_, rfl⟩
 rw [eml, em, eaM] at x1
 rw [etr] at x10
 rw [eml] at HIA
 obtain ⟨T, eT⟩ : ∃ T : Nat → Bool, T = fun b : Nat => TG b || (rs.take k).any fun a => (PS a.d).tr && a.d.mem.any fun m => decide (m.1 = (b : Int)) := ⟨_, rfl⟩
 have HVT : Hid (∀ b, b < nY → FT b = .bool (T b)) := hh (by rw [eT]; exact HV.o)
 have HTK2 : Hid (∀ b : Nat, (TG b || (rs.take (k + 1)).any fun a => (PS a.d).tr && a.d.mem.any fun m => decide (m.1 = (b : Int))) = (T b || (tr && ml.any fun m => decide (m.1 = (b : Int))))) := hh fun b => by
  rw [HTK.o b, eT, eml, etr, Bool.or_assoc]
 have HRW : Hid (∀ (w' : World) F', TrSt w B w' g nY F' (.slice (some ⟨g4, o4, none⟩) n c) rs PS → RowM B w' (.slice aM m a.cM) ml) := hh fun w' F' h => by have := h.rm a ham; rw [eml, em, eaM] at this; exact this
 have EM := hh em
 have hm16 : m ≤ 16 := by have := HIA.o.1; omega
 have m0 : (0 : Int) ≤ (m : Int) := by omega
 have k0 : (0 : Int) ≤ (k : Int) := by omega
 have k1 : (k : Int) < (n : Int) := by omega
 have HLT := hh hlt
 clear hc4 ha ham HTK HRM eml em etr eT HV hlt hk eaM
 go_upto_region 5 with fail
 refine wp_world ?_
 intro U2 eU2
 have HT2 : Hid (TrSt w B U2 g nY FT (.slice (some ⟨g4, o4, none⟩) n c) rs PS) := hh (by rw [eU2]; exact HT.o.to Q.i)
 have HX : Hid (HB U2 (w.heap.size + kk.os.size) #[Value.slice a.aB a.d.buses.length a.cB, Value.slice aM m a.cM, Value.bool a.d.mv, Value.bool ((PS a.d).op 0), Value.bool ((PS a.d).op 1), Value.bool ((PS a.d).op 2), Value.bool ((PS a.d).bl 0), Value.bool ((PS a.d).bl 1), Value.bool ((PS a.d).bl 2), Value.bool (PS a.d).gd, Value.bool tr] 67) := hh (by rw [eU2]; exact HB.new _ _ _ _ (by simp [World.size_jk]))
 clear eU2 x0 x1 x2 x3 x4 x5 x6 x7 x8 x9 x10 HT
 generalize w.heap.size + kk.os.size = bx at HX ⊢
 have HNE : Hid (g ≠ bx) := hh (hb_apart HT2.o.hb HX.o (by decide))
 have y1 := HX.o.cell 1
 simp only [List.getElem?_toArray, List.getElem?_cons_zero, List.getElem?_cons_succ] at y1
 have obx := HX.o.old
 go_wp2_with fail
 go_loopw [37] (fun i wr => ∃ (j : Nat) (F2 : Nat → Value), i = .int .i64 j ∧ j ≤ m ∧ Hid (TrSt w B wr g nY F2 (.slice (some ⟨g4, o4, none⟩) n c) rs PS) ∧ Hid (HB wr bx #[Value.slice a.aB a.d.buses.length a.cB, Value.slice aM m a.cM, Value.bool a.d.mv, Value.bool ((PS a.d).op 0), Value.bool ((PS a.d).op 1), Value.bool ((PS a.d).op 2), Value.bool ((PS a.d).bl 0), Value.bool ((PS a.d).bl 1), Value.bool ((PS a.d).bl 2), Value.bool (PS a.d).gd, Value.bool tr] 67) ∧ Hid (∀ b, b < nY → F2 b = .bool (T b || (tr && (ml.take j).any fun m => decide (m.1 = (b : Int)))))) (fun i _ => m - (intOf i).toNat)
 case atStart => exact ⟨0, FT, rfl, Nat.zero_le _, HT2, HX, hh fun b hb => by rw [HVT.o b hb, List.take_zero, List.any_nil, Bool.and_false, Bool.or_false]⟩
 case round =>
 clear HT2 HX y1 obx
 obtain ⟨j, F2, rfl, hj, HT, HX, HV2⟩ := hrel
 have hq := HT.o.q
 obtain ⟨k2, rfl⟩ := hq
 by_cases hlj : j < m
 rotate_left
 ·obtain rfl : j = m := by omega
  have HV3 : Hid (∀ b, b < nY → F2 b = .bool (TG b || (rs.take (k + 1)).any fun a => (PS a.d).tr && a.d.mem.any fun m => decide (m.1 = (b : Int)))) := hh fun b hb => by
   rw [HTK2.o b, HV2.o b hb, List.take_of_length_le (by rw [EM.o]; exact Nat.le_refl _)]
  clear HV2
  go_wp2_with fail
  go_roundw
  case rel => exact ⟨k + 1, F2, by go_num, by have := HLT.o; omega, HT, HV3⟩
  case measure => have := HLT.o; simp [intOf] <;> omega
 obtain ⟨mm, hmm⟩ : ∃ x, ml[j]? = some x := ⟨_, List.getElem?_eq_getElem (by rw [EM.o]; exact hlj)⟩
 obtain ⟨gM, oM, rfl, ogM, hcM⟩ := mem_at (rdm_of_row (HRW.o _ _ HT.o) EM.o) (by omega)
 obtain ⟨z0, z1⟩ := hcM.o j mm hmm
 obtain ⟨q, eq, hq⟩ := HIA.o.2.2 mm (List.mem_of_getElem? hmm)
 have HTJ := hh fun b : Nat => any_take_succ ml (fun m => decide (m.1 = (b : Int))) j mm hmm
 obtain ⟨mb, sg⟩ := mm
 dsimp only at z0 z1 eq HTJ
 subst eq
 obtain ⟨bv, ebv⟩ : ∃ x, (T q || (tr && (ml.take j).any fun m => decide (m.1 = (q : Int)))) = x := ⟨_, rfl⟩
 have y10 := HX.o.cell 10
 simp only [List.getElem?_toArray, List.getElem?_cons_zero, List.getElem?_cons_succ] at y10
 have obx := HX.o.old
 have pq : (w.jk k2).cell? ⟨g, q, none⟩ = some (.bool bv) := by rw [HT.o.hb.cell, arrF_get _ hq, HV2.o q hq, ebv]
 have fq := HT.o.hb.soft q
 have og : Old g (w.jk k2) := HT.o.hb.old
 have j0 : (0 : Int) ≤ (j : Int) := by omega
 have j1 : (j : Int) < (m : Int) := by omega
 have q0 : (0 : Int) ≤ (q : Int) := by omega
 have q1 : (q : Int) < (nY : Int) := by omega
 have HNT : Hid (∀ x, TrSt w B ((w.jk k2).setCell ⟨g, q, none⟩ x) g nY (updF F2 q x) (.slice (some ⟨g4, o4, none⟩) n c) rs PS) := hh fun x => HT.o.set q x
 have HNX : Hid (∀ x, HB ((w.jk k2).setCell ⟨g, q, none⟩ x) bx #[Value.slice a.aB a.d.buses.length a.cB, Value.slice (some ⟨gM, oM, none⟩) m a.cM, Value.bool a.d.mv, Value.bool ((PS a.d).op 0), Value.bool ((PS a.d).op 1), Value.bool ((PS a.d).op 2), Value.bool ((PS a.d).bl 0), Value.bool ((PS a.d).bl 1), Value.bool ((PS a.d).bl 2), Value.bool (PS a.d).gd, Value.bool tr] 67) := hh fun x => HX.o.other HNE.o
 have HNV : Hid (∀ b, b < nY → updF F2 q (.bool (bv || tr)) b = .bool (T b || (tr && (ml.take (j + 1)).any fun m => decide (m.1 = (b : Int))))) := hh fun b hb => by
  rw [HTJ.o b]
  by_cases e : b = q
  rotate_left
  ·rw [updF_other _ _ e, HV2.o b hb, decide_eq_false (fun h : (q : Int) = (b : Int) => e (by omega)), Bool.or_false]
  subst e
  rw [updF_same, ← ebv, decide_eq_true rfl]
  cases T b <;> cases tr <;> simp
 clear hcM hmm HTJ HV2 ebv HT HX
 cases bv <;> cases tr
 all_goals
  go_upto_region 8 with fail
  refine wp_region_tail 12 (by kernel_rfl) (by kernel_rfl) ?_
  simp only [List.take_succ_cons, List.take_zero, List.drop_succ_cons, List.drop_zero]
  repeat (go_big_quiet_step (fail))
  refine wq0 fun kq => ?_
  go_wp2_with fail
  go_roundw
  case rel => exact ⟨j + 1, _, by go_num, by omega, hh ((HNT.o _).to (by repeat' (first | exact Q.refl _ | refine Q.jk ?_ _ | refine Q.alloc ?_ _ | refine Q.drew ?_))), hh ((HNX.o _).q (by repeat' (first | exact Q.refl _ | refine Q.jk ?_ _ | refine Q.alloc ?_ _ | refine Q.drew ?_))), HNV⟩
  case measure => simp [intOf] <;> omega
end Go.Proofs.YtcjflafjmdfanaaGreatDoor
