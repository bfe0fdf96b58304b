
/- The words for Sections of the reference 34: two rows of numbers and a box beside. -/
import Derived.Test.YtcjflafjmdfanaaGreatDoorBv38
import Derived.Test.YtcjflafjmdfanaaGreatDoorBv34
import Derived.Test.YtcjflafjmdfanaaGreatDoorBv33
import Derived.Test.YtcjflafjmdfanaaGreatDoorBv11
set_option maxHeartbeats 64000000
set_option maxRecDepth 100000
set_option linter.unusedSimpArgs false
set_option linter.unusedVariables false
/- What Overall of the reference 34 returns. -/
namespace Go.Proofs.YtcjflafjmdfanaaGreatDoor
open Go.RowKit Go.Sub
attribute [local go_sem ↓] Go.wp_at_zero Go.wp_at_succ
theorem ovM_any (s : Sta) (G : List Bool) (n k : Nat) (y : Byr) (hk : k < n) (hy : s.bays[k]? = some y) (h3 : y.kd ≠ 3) (hg : G.getD k false = false) : cpB G (ovM s n) = false := by
 unfold cpB
 rw [List.all_eq_false]
 refine ⟨((k : Int), 1), ?_, by simpa using hg⟩
 unfold ovM
 refine List.mem_map.2 ⟨k, List.mem_filter.2 ⟨List.mem_range.2 hk, ?_⟩, rfl⟩
 have e : kdZ s k = y.kd := by unfold kdZ; rw [hy]
 rw [e]
 simpa using h3
theorem ovM_all (s : Sta) (G : List Bool) (n : Nat) (h : ∀ k, k < n → kdZ s k ≠ 3 → G.getD k false = true) : cpB G (ovM s n) = true := by
 unfold cpB
 rw [List.all_eq_true]
 intro m hm
 unfold ovM at hm
 obtain ⟨k, hk, rfl⟩ := List.mem_map.1 hm
 obtain ⟨h1, h2⟩ := List.mem_filter.1 hk
 have := h k (List.mem_range.1 h1) (by simpa using h2)
 simpa using this
theorem r34over_c (s : Sta) (cs : Array Value) (r : Rel) [hR : RelC cs r] (aW : Option Addr) (cW : Nat) (W : List Int) (aG : Option Addr) (cG : Nat) (G : List Bool) (w : World) (hs : StAt w s) (h1 : stE s = 0) (hW : WvAt w aW s.bays.length cW W) (hG : GdAt w aG s.bays.length cG G) (hu : usB r = true) (hw : WvOK W G s.bays.length) :
  Calls Tryz.prog 51 #[.agg #[Value.string s.nm, Value.slice s.aB s.buses.length s.cB, Value.slice s.aL s.lines.length s.cL, Value.slice s.aS s.srcs.length s.cS, Value.slice s.aY s.bays.length s.cY], .agg cs, .slice aW s.bays.length cW, .slice aG s.bays.length cG] w fun e w' => e = .returned (.tuple #[.agg #[.bool (ovO s W G r 0), .bool (ovO s W G r 1), .bool (ovO s W G r 2)], .bool (cpB G (ovM s s.bays.length))]) ∧ Q w w' := by
 have hY16 : s.bays.length ≤ 16 := by
  have := (stE_parts h1).1
  unfold stBad at this
  omega
 have OPC := hh fun (w' : World) (hq : Q w w') (hc : cpB G (ovM s s.bays.length) = true) (A B : Option Addr) (n c d : Nat) (hA : RdN w' A n c .i64 ((ovM s s.bays.length).map Prod.fst)) (hB : RdN w' B n d .i64 ((ovM s s.bays.length).map Prod.snd)) (hn : n ≤ 16) (ph : Nat) (hp : ph < 3) => r34op_c s cs r aW s.bays.length cW W A B n c d (ovM s s.bays.length) ph w' (hs.q hq) (hW.q hq) hA hB hn hp hu (fun m hm => by
  obtain ⟨k, e, hk⟩ := ovM_mem _ _ _ hm
  have hg := cpB_mem hc hm
  rw [e, Int.toNat_natCast] at hg
  exact memOK_of h1 hw (by rw [e]) hk hg) (fun m hm => by
  obtain ⟨k, e, hk⟩ := ovM_mem _ _ _ hm
  exact .inl (by rw [e]))
 have HAY := hh fun k y (hy : s.bays[k]? = some y) => hs.bayAt hy
 have HG := hh hG
 have HVS := hh (ovM_succ s)
 have HVL := hh (ovM_len s)
 have HAN := hh fun k y (hk : k < s.bays.length) (hy : s.bays[k]? = some y) (h3 : y.kd ≠ 3) hg => ovM_any s G s.bays.length k y hk hy h3 hg
 have HAL := hh (ovM_all s G s.bays.length)
 have HKD : Hid (∀ k y, s.bays[k]? = some y → kdZ s k = y.kd) := hh fun k y hy => by unfold kdZ; rw [hy]
 have HO : Hid (∀ ph, ovO s W G r ph = (cpB G (ovM s s.bays.length) && opM s W r (ovM s s.bays.length) ph)) := hh fun ph => rfl
 generalize ovO s W G r = O at HO ⊢
 obtain ⟨aY, eaY⟩ : ∃ a, s.aY = a := ⟨_, rfl⟩
 obtain ⟨nY, eY⟩ : ∃ n, s.bays.length = n := ⟨_, rfl⟩
 rw [eaY] at HAY
 rw [eY] at hY16 HO HAN HAL HG
 rw [eaY, eY] at OPC
 rw [eaY, eY]
 have HYB : Hid (∀ k, k < nY → ∃ y, s.bays[k]? = some y) := hh fun k hk => ⟨_, List.getElem?_eq_getElem (by omega)⟩
 obtain ⟨C, eC⟩ : ∃ C, cpB G (ovM s nY) = C := ⟨_, rfl⟩
 obtain ⟨o0, eo0⟩ : ∃ o, O 0 = o := ⟨_, rfl⟩
 obtain ⟨o1, eo1⟩ : ∃ o, O 1 = o := ⟨_, rfl⟩
 obtain ⟨o2, eo2⟩ : ∃ o, O 2 = o := ⟨_, rfl⟩
 rw [eC, eo0, eo1, eo2]
 have EC := hh eC
 have EO0 := hh eo0
 have EO1 := hh eo1
 have EO2 := hh eo2
 rw [eC] at HAN HAL HO OPC
 clear hs h1 hW hG hu hw eaY eY eC eo0 eo1 eo2
 have n0 : (0 : Int) ≤ (nY : Int) := by omega
 go_enter Tryz.func51, Tryz.ntmps51
 go_wp2_with fail
 go_loopw [10, 11, 19] (fun v u i wr => ∃ (k m : Nat) (A B : Option Addr) (c d : Nat), v = .slice A m c ∧ u = .slice B m d ∧ i = .int .i64 k ∧ k ≤ nY ∧ Q (((w.alloc (Obj.cells #[Value.string s.nm, Value.slice s.aB s.buses.length s.cB, Value.slice s.aL s.lines.length s.cL, Value.slice s.aS s.srcs.length s.cS, Value.slice aY nY s.cY] 27)).alloc (Obj.cells cs 44)).alloc (Obj.cells #[.bool false, .bool false, .bool false] 65)) wr ∧ Hid ((ovM s k).length = m) ∧ Hid (RowI (((w.alloc (Obj.cells #[Value.string s.nm, Value.slice s.aB s.buses.length s.cB, Value.slice s.aL s.lines.length s.cL, Value.slice s.aS s.srcs.length s.cS, Value.slice aY nY s.cY] 27)).alloc (Obj.cells cs 44)).alloc (Obj.cells #[.bool false, .bool false, .bool false] 65)) wr (.slice A m c) ((ovM s k).map Prod.fst)) ∧ Hid (RowI (((w.alloc (Obj.cells #[Value.string s.nm, Value.slice s.aB s.buses.length s.cB, Value.slice s.aL s.lines.length s.cL, Value.slice s.aS s.srcs.length s.cS, Value.slice aY nY s.cY] 27)).alloc (Obj.cells cs 44)).alloc (Obj.cells #[.bool false, .bool false, .bool false] 65)) wr (.slice B m d) ((ovM s k).map Prod.snd)) ∧ Hid (Apart (.slice A m c) (.slice B m d)) ∧ Hid (∀ j, j < k → kdZ s j ≠ 3 → G.getD j false = true)) (fun _ _ i _ => nY - (intOf i).toNat)
 case atStart => exact ⟨0, 0, none, none, 0, 0, rfl, rfl, rfl, Nat.zero_le _, Q.refl _, hh rfl, hh (World.ownsRow_nil _ _ _ _), hh (World.ownsRow_nil _ _ _ _), hh (Apart.nil _), hh fun j hj => absurd hj (Nat.not_lt_zero _)⟩
 case round =>
  obtain ⟨k, m, A, B, c, d, rfl, rfl, rfl, hk, ⟨kk, rfl⟩, HML, HRA, HRB, HAP, HZ⟩ := hrel
  by_cases hlt : k < nY
  rotate_left
  ·obtain rfl : nY = k := by omega
   have hm16 : m ≤ 16 := by have := HVL.o nY; rw [HML.o] at this; omega
   have HRA := hh (rdn_of_row HRA.o (by rw [List.length_map, HML.o]))
   have HRB := hh (rdn_of_row HRB.o (by rw [List.length_map, HML.o]))
   have EC1 : Hid (C = true) := hh (HAL.o HZ.o)
   obtain rfl : true = C := EC1.o.symm
   have E0 : ∀ ph, O ph = opM s W r (ovM s nY) ph := fun ph => by rw [HO.o, Bool.true_and]
   generalize ovM s nY = ml at OPC HRA HRB E0
   have OPD := hh fun (w' : World) (hq : Q w w') (hA : RdN w' A m c .i64 (ml.map Prod.fst)) (hB : RdN w' B m d .i64 (ml.map Prod.snd)) (ph : Nat) (hp : ph < 3) => OPC.o w' hq rfl A B m c d hA hB hm16 ph hp
   simp only [← E0] at OPD
   have OP0 : Hid (∀ (w' : World), Q w w' → RdN w' A m c .i64 (ml.map Prod.fst) → RdN w' B m d .i64 (ml.map Prod.snd) → Calls Tryz.prog 52 #[.agg #[Value.string s.nm, Value.slice s.aB s.buses.length s.cB, Value.slice s.aL s.lines.length s.cL, Value.slice s.aS s.srcs.length s.cS, Value.slice aY nY s.cY], .agg cs, .slice aW nY cW, .slice A m c, .slice B m d, .int .i64 0] w' fun e w'' => e = .returned (.bool (O 0)) ∧ Q w' w'') := hh fun w' hq hA hB => OPD.o w' hq hA hB 0 (by decide)
   rw [EO0.o] at OP0
   have OP1 : Hid (∀ (w' : World), Q w w' → RdN w' A m c .i64 (ml.map Prod.fst) → RdN w' B m d .i64 (ml.map Prod.snd) → Calls Tryz.prog 52 #[.agg #[Value.string s.nm, Value.slice s.aB s.buses.length s.cB, Value.slice s.aL s.lines.length s.cL, Value.slice s.aS s.srcs.length s.cS, Value.slice aY nY s.cY], .agg cs, .slice aW nY cW, .slice A m c, .slice B m d, .int .i64 1] w' fun e w'' => e = .returned (.bool (O 1)) ∧ Q w' w'') := hh fun w' hq hA hB => OPD.o w' hq hA hB 1 (by decide)
   rw [EO1.o] at OP1
   have OP2 : Hid (∀ (w' : World), Q w w' → RdN w' A m c .i64 (ml.map Prod.fst) → RdN w' B m d .i64 (ml.map Prod.snd) → Calls Tryz.prog 52 #[.agg #[Value.string s.nm, Value.slice s.aB s.buses.length s.cB, Value.slice s.aL s.lines.length s.cL, Value.slice s.aS s.srcs.length s.cS, Value.slice aY nY s.cY], .agg cs, .slice aW nY cW, .slice A m c, .slice B m d, .int .i64 2] w' fun e w'' => e = .returned (.bool (O 2)) ∧ Q w' w'') := hh fun w' hq hA hB => OPD.o w' hq hA hB 2 (by decide)
   rw [EO2.o] at OP2
   clear HML HAY HVS HVL HKD HYB hlt hk HZ HAN HAL HO HAP EC1 OPC OPD E0 EO0 EO1 EO2 HG EC
   go_wp2_with fail
   refine wp_loop_rounds 4 ?_
   repeat (rw [rounds_succ]; go_wp2_with (first | (go_at_call 52; (with_reducible refine (OP0.o _ Q.i (HRA.o.q Q.i) (HRB.o.q Q.i)).q ?_); intro kp0) | (go_at_call 52; (with_reducible refine (OP1.o _ Q.i (HRA.o.q Q.i) (HRB.o.q Q.i)).q ?_); intro kp1) | (go_at_call 52; (with_reducible refine (OP2.o _ Q.i (HRA.o.q Q.i) (HRB.o.q Q.i)).q ?_); intro kp2) | fail))
   refine bodyPost_ret (v := .tuple #[.agg #[.bool o0, .bool o1, .bool o2], .bool true]) (by simp [results, Tryz.results51, go_sem]) rfl ⟨rfl, Q.i⟩
  obtain ⟨y, hy⟩ := HYB.o k hlt
  obtain ⟨g, o, rfl, og, hc⟩ := HAY.o k y hy
  obtain ⟨gG, oG, rfl, ogG, hc2⟩ := HG.o.at_ (by omega)
  have a1 := hc2.o k hlt
  obtain ⟨q0, q1, q2, q3, q4, q5, q6, q7, q8, q9, q10, q11⟩ := by12 hc
  have HVK := hh (HVS.o k)
  have HKK := hh (HKD.o k y hy)
  rw [HKK.o] at HVK
  have HANK := hh (HAN.o k y hlt hy)
  have hmk : m ≤ k := by have := HVL.o k; rw [HML.o] at this; exact this
  have k0 : (0 : Int) ≤ (k : Int) := by omega
  have k1 : (k : Int) < (nY : Int) := by omega
  obtain ⟨b, eb⟩ : ∃ b, G.getD k false = b := ⟨_, rfl⟩
  rw [eb] at a1 HANK
  have EB := hh eb
  have LA : Hid (((ovM s k).map Prod.fst).length = m) := hh (by rw [List.length_map, HML.o])
  have LB : Hid (((ovM s k).map Prod.snd).length = m) := hh (by rw [List.length_map, HML.o])
  generalize ovM s k = ml at HML HRA HRB HVK LA LB
  clear hc hc2 hy eb
  by_cases h3 : y.kd = 3
  ·have h3' : (y.kd == 3) = true := by simpa using h3
   have EV : Hid (ovM s (k + 1) = ml) := hh (by rw [HVK.o, if_pos h3])
   have HZ' : Hid (∀ j, j < k + 1 → kdZ s j ≠ 3 → G.getD j false = true) := hh fun j hj hne => by
    by_cases e : j = k
    ·subst e; rw [HKK.o] at hne; exact absurd h3 hne
    exact HZ.o j (by omega) hne
   clear h3 HVK HANK
   go_wp2_with fail
   go_roundw
   case rel => exact ⟨k + 1, m, A, B, c, d, rfl, rfl, by go_num, by omega, Q.i, hh (by rw [EV.o]; exact HML.o), hh (by rw [EV.o]; exact ownsRow_q HRA.o Q.i), hh (by rw [EV.o]; exact ownsRow_q HRB.o Q.i), HAP, HZ'⟩
   case measure => simp [intOf] <;> omega
  have h3' : (y.kd == 3) = false := by simpa using h3
  cases b with
  | false =>
   have EC0 : Hid (C = false) := hh (HANK.o h3 rfl)
   have HO1 := HO.o
   rw [EC0.o] at HO1
   have E0 : ∀ ph, O ph = false := fun ph => by rw [HO1, Bool.false_and]
   obtain rfl : false = o0 := (E0 0).symm.trans EO0.o
   obtain rfl : false = o1 := (E0 1).symm.trans EO1.o
   obtain rfl : false = o2 := (E0 2).symm.trans EO2.o
   obtain rfl : false = C := EC0.o.symm
   clear HO1 E0 EO0 EO1 EO2 h3 HVK HANK HO OPC HAL HAN
   go_wp2_with fail
   refine bodyPost_ret (v := .tuple #[.agg #[.bool false, .bool false, .bool false], .bool false]) (by simp [results, Tryz.results51, go_sem]) rfl ⟨rfl, Q.i⟩
  | true =>
   have EV : Hid (ovM s (k + 1) = ml ++ [((k : Int), 1)]) := hh (by rw [HVK.o, if_neg h3])
   have EVA : Hid ((ovM s (k + 1)).map Prod.fst = ml.map Prod.fst ++ [(k : Int)]) := hh (by rw [EV.o, List.map_append]; rfl)
   have EVB : Hid ((ovM s (k + 1)).map Prod.snd = ml.map Prod.snd ++ [1]) := hh (by rw [EV.o, List.map_append]; rfl)
   have HZ' : Hid (∀ j, j < k + 1 → kdZ s j ≠ 3 → G.getD j false = true) := hh fun j hj hne => by
    by_cases e : j = k
    ·subst e; exact EB.o
    exact HZ.o j (by omega) hne
   clear h3 HVK HANK
   generalize ml.map Prod.fst = la at HRA EVA LA
   generalize ml.map Prod.snd = lb at HRB EVB LB
   go_wp2_with (first | (at_builtin; refine wpList_app_int rfl _ _ rfl (((w.alloc (Obj.cells #[Value.string s.nm, Value.slice s.aB s.buses.length s.cB, Value.slice s.aL s.lines.length s.cL, Value.slice s.aS s.srcs.length s.cS, Value.slice (some ⟨g, o, none⟩) nY s.cY] 27)).alloc (Obj.cells cs 44)).alloc (Obj.cells #[.bool false, .bool false, .bool false] 65)) (.slice A m c) la (k : Int) _ rfl rfl (HRA.o.q Q.i) (by simp [go_sem, World.size_jk]) (by rw [LA.o]; omega) Q.i ?_; intro vA k7 hra hgr; obtain ⟨A', c', rfl⟩ := own_slice' hra; rw [List.length_append, LA.o] at hgr hra ⊢; have HRA' := hh hra; have HRB' : Hid (RowI (((w.alloc (Obj.cells #[Value.string s.nm, Value.slice s.aB s.buses.length s.cB, Value.slice s.aL s.lines.length s.cL, Value.slice s.aS s.srcs.length s.cS, Value.slice (some ⟨g, o, none⟩) nY s.cY] 27)).alloc (Obj.cells cs 44)).alloc (Obj.cells #[.bool false, .bool false, .bool false] 65)) ((((w.alloc (Obj.cells #[Value.string s.nm, Value.slice s.aB s.buses.length s.cB, Value.slice s.aL s.lines.length s.cL, Value.slice s.aS s.srcs.length s.cS, Value.slice (some ⟨g, o, none⟩) nY s.cY] 27)).alloc (Obj.cells cs 44)).alloc (Obj.cells #[.bool false, .bool false, .bool false] 65)).jk k7) (.slice B m d) lb) := hh (hgr _ _ _ _ _ (HRB.o.q Q.i) HAP.o).1; have HAP' : Hid (Apart (.slice A' (m + 1) c') (.slice B m d)) := hh (hgr _ _ _ _ _ (HRB.o.q Q.i) HAP.o).2; clear hra hgr) | (at_builtin; refine wpList_app_int rfl _ _ rfl (((w.alloc (Obj.cells #[Value.string s.nm, Value.slice s.aB s.buses.length s.cB, Value.slice s.aL s.lines.length s.cL, Value.slice s.aS s.srcs.length s.cS, Value.slice (some ⟨g, o, none⟩) nY s.cY] 27)).alloc (Obj.cells cs 44)).alloc (Obj.cells #[.bool false, .bool false, .bool false] 65)) (.slice B m d) lb 1 _ rfl rfl (HRB'.o.q Q.i) (by simp [go_sem, World.size_jk]) (by rw [LB.o]; omega) Q.i ?_; intro vB k8 hrb hgr; obtain ⟨B', d', rfl⟩ := own_slice' hrb; rw [List.length_append, LB.o] at hgr hrb ⊢; have HRB'' := hh hrb; have HRA'' : Hid (RowI (((w.alloc (Obj.cells #[Value.string s.nm, Value.slice s.aB s.buses.length s.cB, Value.slice s.aL s.lines.length s.cL, Value.slice s.aS s.srcs.length s.cS, Value.slice (some ⟨g, o, none⟩) nY s.cY] 27)).alloc (Obj.cells cs 44)).alloc (Obj.cells #[.bool false, .bool false, .bool false] 65)) ((((w.alloc (Obj.cells #[Value.string s.nm, Value.slice s.aB s.buses.length s.cB, Value.slice s.aL s.lines.length s.cL, Value.slice s.aS s.srcs.length s.cS, Value.slice (some ⟨g, o, none⟩) nY s.cY] 27)).alloc (Obj.cells cs 44)).alloc (Obj.cells #[.bool false, .bool false, .bool false] 65)).jk k8) (.slice A' (m + 1) c') (la ++ [(k : Int)])) := hh (hgr _ _ _ _ _ (HRA'.o.q Q.i) HAP'.o.symm).1; have HAP'' : Hid (Apart (.slice B' (m + 1) d') (.slice A' (m + 1) c')) := hh (hgr _ _ _ _ _ (HRA'.o.q Q.i) HAP'.o.symm).2; clear hrb hgr) | fail)
   go_roundw
   case rel =>
    exact ⟨k + 1, m + 1, A', B', c', d', rfl, rfl, by go_num, by omega, Q.i, hh (by rw [EV.o, List.length_append, HML.o]; rfl), hh (by rw [EVA.o]; exact HRA''.o), hh (by rw [EVB.o]; exact HRB''.o), hh HAP''.o.symm, HZ'⟩
   case measure => simp [intOf] <;> omega
structure SecSt (U w : World) (P : Nat) (cs : Array Value) (vA vB : Value) (la lb : List Int) : Prop where
 q : Q U w
 hb : HB w P cs 67
 gp : U.heap.size ≤ P
 ra : RowI U w vA la
 rb : RowI U w vB lb
 ap : Apart vA vB
theorem SecSt.to {U w w' : World} {P : Nat} {cs : Array Value} {vA vB : Value} {la lb : List Int} (h : SecSt U w P cs vA vB la lb) (hq : Q w w') : SecSt U w' P cs vA vB la lb := ⟨h.q.trans hq, h.hb.q hq, h.gp, h.ra.q hq, h.rb.q hq, h.ap⟩
theorem SecSt.set {U w : World} {P : Nat} {cs : Array Value} {vA vB : Value} {la lb : List Int} (h : SecSt U w P cs vA vB la lb) (i : Nat) (v : Value) : SecSt U (w.setCell ⟨P, i, none⟩ v) P (cs.setIfInBounds i v) vA vB la lb := ⟨h.q.setCell h.gp v, h.hb.set i v, h.gp, kept_hb h.hb h.ra (by decide), kept_hb h.hb h.rb (by decide), h.ap⟩
theorem step_appA {ops : Array Oper} {o : Oper} {a : Act} {w : World} {K : Act → World → Prop} {Q' : Exit → Act → World → Prop} {E : Prop} (hgd : o.guard = none) (s x : Operand)
  (ho : o.op = .call { callee := .builtin .append, args := #[s, x], argTypes := #[61, 61] }) (U : World) (P : Nat) (cs : Array Value) (vA vB : Value) (la lb : List Int) (z : Int) (g : Nat)
  (hs : a.eval s = vA) (hx : a.eval x = .slice (some ⟨g, 0, none⟩) 1 1) (hst : SecSt U w P cs vA vB la lb) (hg : w.cell? ⟨g, 0, none⟩ = some (.int .i64 z)) (hlen : la.length < 1000)
  (h : ∀ A' c' w', SecSt U w' P cs (.slice A' (la.length + 1) c') vB (la ++ [z]) lb → (∀ b cs t, HB w b cs t → vA.ownBlock ≠ some b → HB w' b cs t) → K (a.put o.dst (.slice A' (la.length + 1) c')) w') :
  if Region.wanted o (yielded ops a.tmps) = true then Oper.wp Tryz.prog o a w K Q' else E := by
 have hw : Region.wanted o (yielded ops a.tmps) = true := by simp [Region.wanted, hgd]
 rw [if_pos hw]
 obtain ⟨i, hi, hz, hs1, hb⟩ := infoInt
 obtain ⟨v', w', hr, h2, h3, _, h5⟩ := run_append_own_at (P := Tryz.prog) w U.heap.size 61 o.type 3 i _ 1 8 Tryz.underlying61 hi hz hs1 hb rfl (by decide) vA _ _ hst.ra ⟨g, 0, none⟩ 1 1 [.int .i64 z] rfl
  (fun j u hj => by
   match j, hj with
   | 0, hj => simp at hj; subst hj; rw [addr_add0]; exact hg) (by intro u hu; simp at hu; subst hu; rfl) (by unfold maxLen; omega) (by omega) hst.q.below.size
 obtain ⟨A', c', rfl⟩ := own_slice' h2
 have hq : Q U w' := grown_Q hst.q h3 fun g hg => (hst.ra.lt g hg).1
 have hb' : HB w' P cs 67 := hst.hb.grown h3 (fun e => own_hb hst.ra hst.hb (by decide) e.symm)
 have hr' : RowI U w' (.slice A' (la.length + 1) c') (la ++ [z]) := by
  unfold RowI
  rw [List.length_append, List.map_append]
  exact h2
 have hO : RowI U w' vB lb := by
  refine World.ownsRow.kept hst.rb h3 ?_
  cases hub : vB.ownBlock with
  | none => exact .inl rfl
  | some g => exact .inr fun e3 => hst.ap g e3.symm hub
 have hap : Apart (.slice A' (la.length + 1) c') vB := by
  intro g hg hug
  rcases h5 with hat | hat
  ·exact hst.ap g (hat ▸ hg) hug
  rw [hat] at hg
  have := (hst.rb.lt g hug).2
  have := Option.some.inj hg
  omega
 unfold Oper.wp execOp
 simp only [ho, resolve, invoke, builtin, Sem.run_bind, Sem.run_pure, Result.andThen_ok, List.map_toArray, List.map_cons, List.map_nil, hs, hx, hr]
 exact h A' c' w' ⟨hq, hb', hst.gp, hr', hO, hap⟩ (fun b cs t hb hne => hb.grown h3 (fun e => hne e.symm))
theorem step_appB {ops : Array Oper} {o : Oper} {a : Act} {w : World} {K : Act → World → Prop} {Q' : Exit → Act → World → Prop} {E : Prop} (hgd : o.guard = none) (s x : Operand)
  (ho : o.op = .call { callee := .builtin .append, args := #[s, x], argTypes := #[61, 61] }) (U : World) (P : Nat) (cs : Array Value) (vA vB : Value) (la lb : List Int) (z : Int) (g : Nat)
  (hs : a.eval s = vB) (hx : a.eval x = .slice (some ⟨g, 0, none⟩) 1 1) (hst : SecSt U w P cs vA vB la lb) (hg : w.cell? ⟨g, 0, none⟩ = some (.int .i64 z)) (hlen : lb.length < 1000)
  (h : ∀ A' c' w', SecSt U w' P cs vA (.slice A' (lb.length + 1) c') la (lb ++ [z]) → (∀ b cs t, HB w b cs t → vB.ownBlock ≠ some b → HB w' b cs t) → K (a.put o.dst (.slice A' (lb.length + 1) c')) w') :
  if Region.wanted o (yielded ops a.tmps) = true then Oper.wp Tryz.prog o a w K Q' else E := by
 have hw : Region.wanted o (yielded ops a.tmps) = true := by simp [Region.wanted, hgd]
 rw [if_pos hw]
 obtain ⟨i, hi, hz, hs1, hb⟩ := infoInt
 obtain ⟨v', w', hr, h2, h3, _, h5⟩ := run_append_own_at (P := Tryz.prog) w U.heap.size 61 o.type 3 i _ 1 8 Tryz.underlying61 hi hz hs1 hb rfl (by decide) vB _ _ hst.rb ⟨g, 0, none⟩ 1 1 [.int .i64 z] rfl
  (fun j u hj => by
   match j, hj with
   | 0, hj => simp at hj; subst hj; rw [addr_add0]; exact hg) (by intro u hu; simp at hu; subst hu; rfl) (by unfold maxLen; omega) (by omega) hst.q.below.size
 obtain ⟨A', c', rfl⟩ := own_slice' h2
 have hq : Q U w' := grown_Q hst.q h3 fun g hg => (hst.rb.lt g hg).1
 have hb' : HB w' P cs 67 := hst.hb.grown h3 (fun e => own_hb hst.rb hst.hb (by decide) e.symm)
 have hr' : RowI U w' (.slice A' (lb.length + 1) c') (lb ++ [z]) := by
  unfold RowI
  rw [List.length_append, List.map_append]
  exact h2
 have hO : RowI U w' vA la := by
  refine World.ownsRow.kept hst.ra h3 ?_
  cases hub : vA.ownBlock with
  | none => exact .inl rfl
  | some g => exact .inr fun e3 => hst.ap.symm g e3.symm hub
 have hap : Apart (.slice A' (lb.length + 1) c') vA := by
  intro g hg hug
  rcases h5 with hat | hat
  ·exact hst.ap.symm g (hat ▸ hg) hug
  rw [hat] at hg
  have := (hst.ra.lt g hug).2
  have := Option.some.inj hg
  omega
 unfold Oper.wp execOp
 simp only [ho, resolve, invoke, builtin, Sem.run_bind, Sem.run_pure, Result.andThen_ok, List.map_toArray, List.map_cons, List.map_nil, hs, hx, hr]
 exact h A' c' w' ⟨hq, hb', hst.gp, hO, hr', hap.symm⟩ (fun b cs t hb hne => hb.grown h3 (fun e => hne e.symm))
def RowP (V w : World) (v : Value) (rs : List SecR) (f : Sec → Prt) : Prop := w.ownsRow V.heap.size 67 11 v rs.length (rs.flatMap fun a => prC a (f a.d))
theorem RowP.q {V w w' : World} {v : Value} {rs : List SecR} {f : Sec → Prt} (h : RowP V w v rs f) (hq : Q w w') : RowP V w' v rs f := ownsRow_q h hq
theorem wpList_app_pro {ops : Array Oper} {rest : List Oper} {o : Oper} {a : Act} {w : World} {Q' : Exit → Act → World → Prop} (hgd : o.guard = none) (s x : Operand)
  (ho : o.op = .call { callee := .builtin .append, args := #[s, x], argTypes := #[58, 58] }) (V : World) (v : Value) (rs : List SecR) (f : Sec → Prt) (b : SecR) (g : Nat)
  (hs : a.eval s = v) (hx : a.eval x = .slice (some ⟨g, 0, none⟩) 1 1) (hown : RowP V w v rs f) (hg : ∀ j u, (prC b (f b.d))[j]? = some u → w.cell? ⟨g, j, none⟩ = some u) (hlen : rs.length < 1000) (hQ : Q V w)
  (h : ∀ A' c' kk, RowP V (V.jk kk) (.slice A' (rs.length + 1) c') (rs ++ [b]) f → wpList Tryz.prog ops Q' rest (a.put o.dst (.slice A' (rs.length + 1) c')) (V.jk kk)) : wpList Tryz.prog ops Q' (o :: rest) a w := by
 obtain ⟨i, hi, hz, hs1, hb⟩ := infoPro
 refine wpList_app hgd s x 58 ho V 67 i _ 11 64 Tryz.underlying58 hi hz hs1 hb rfl (by decide) v _ _ hs hown ⟨g, 0, none⟩ 1 1 (prC b (f b.d)) hx rfl ?_ ?_ (by unfold maxLen; omega) (by omega) hQ ?_
 ·intro j u hj
  rw [addr_add0, Nat.zero_add]
  exact hg j u hj
 ·intro u hu
  simp only [prC, secC, List.cons_append, List.nil_append, List.mem_cons, List.mem_nil_iff, or_false] at hu
  rcases hu with rfl | rfl | rfl | rfl | rfl | rfl | rfl | rfl | rfl | rfl | rfl <;> rfl
 intro v' kk h1 h2
 obtain ⟨A', c', rfl⟩ := own_slice' h1
 exact h A' c' kk (by unfold RowP; rw [List.length_append, List.flatMap_append, List.flatMap_singleton]; exact h1)
def RetPq (l : List Sec) (f : Sec → Prt) (w : World) (e : Ending) (w' : World) : Prop := ∃ A c rs, e = .returned (.slice A rs.length c) ∧ Q w w' ∧ rs.map SecR.d = l ∧ RowP w w' (.slice A rs.length c) rs f ∧ ∀ a ∈ rs, RowM w w' (.slice a.aM a.d.mem.length a.cM) a.d.mem
theorem RowP.at_ {V w : World} {A : Option Addr} {n c : Nat} {rs : List SecR} {f : Sec → Prt} (h : RowP V w (.slice A n c) rs f) (hl : rs.length = n) : RdV w A rs.length c 11 (rs.flatMap fun a => prC a (f a.d)) := by
 subst hl
 obtain ⟨A', c', e, hr⟩ := rdv_of_own h (by rw [prC_len])
 injection e with e1 e2 e3
 subst e1 e3
 exact hr
theorem hb_list {w : World} {P : Nat} {F : Nat → Value} {t : TypeId} {l : List Value} (h : HB w P (arrF F 11) t) (hl : l.length = 11) (hF : ∀ q, q < 11 → some (F q) = l[q]?) : HB w P l.toArray t := by
 have e : arrF F 11 = l.toArray := by
  apply Array.ext
  ·simp [arrF_size, hl]
  intro i h1 h2
  rw [arrF_size] at h1
  have a1 := arrF_get F h1
  have a2 := hF i h1
  rw [a2] at a1
  rw [← Option.some_inj, ← Array.getElem?_eq_getElem, ← Array.getElem?_eq_getElem, a1, List.getElem?_toArray]
 rw [← e]
 exact h
theorem prQ_next (a : SecR) (op bl O : Nat → Bool) (n : Nat) (hn : n < 3) (F F4 : Nat → Value) (h : ∀ q, q < 11 → some (F q) = (prQ a op bl O n)[q]?) (h3 : F4 (3 + n) = .bool (op n)) (h6 : F4 (6 + n) = .bool (bl n)) (h10 : F4 10 = .bool (trP op bl O n || (op n && !bl n && O n))) (ho : ∀ q, q ≠ 3 + n → q ≠ 6 + n → q ≠ 10 → F4 q = F q) :
  ∀ q, q < 11 → some (F4 q) = (prQ a op bl O (n + 1))[q]? := by
 intro q hq
 have hq' := h q hq
 have ht := trP_succ op bl O n
 have ho' := ho q
 unfold prQ at hq' ⊢
 rw [ht]
 rcases (by omega : n = 0 ∨ n = 1 ∨ n = 2) with rfl | rfl | rfl <;>
  (rcases (by omega : q = 0 ∨ q = 1 ∨ q = 2 ∨ q = 3 ∨ q = 4 ∨ q = 5 ∨ q = 6 ∨ q = 7 ∨ q = 8 ∨ q = 9 ∨ q = 10) with rfl | rfl | rfl | rfl | rfl | rfl | rfl | rfl | rfl | rfl | rfl) <;>
  simp [secC] at hq' h3 h6 h10 ho' ⊢ <;> first | assumption | (rw [h10]) | (rw [ho']; assumption)
def prG (a : SecR) (gd : Bool) : Array Value := #[Value.slice a.aB a.d.buses.length a.cB, Value.slice a.aM a.d.mem.length a.cM, Value.bool a.d.mv, Value.bool false, Value.bool false, Value.bool false, Value.bool false, Value.bool false, Value.bool false, Value.bool gd, Value.bool false]
theorem prG_set (a : SecR) (gd x : Bool) : (prG a gd).setIfInBounds 9 (.bool x) = prG a x := rfl
end Go.Proofs.YtcjflafjmdfanaaGreatDoor
