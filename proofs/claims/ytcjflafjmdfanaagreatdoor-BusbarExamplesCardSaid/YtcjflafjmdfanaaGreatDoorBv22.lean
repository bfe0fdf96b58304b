
/- What overall of package busbar returns. -/
import Derived.Test.YtcjflafjmdfanaaGreatDoorBv21
set_option maxHeartbeats 64000000
set_option maxRecDepth 100000
set_option linter.unusedSimpArgs false
set_option linter.unusedVariables false
namespace Go.Sub
open Go
def kdZ (s : Sta) (k : Nat) : Int := match s.bays[k]? with | some y => y.kd | none => 3
def ovM (s : Sta) (n : Nat) : List (Int × Int) := ((List.range n).filter fun k => !decide (kdZ s k = 3)).map fun (k : Nat) => ((k : Int), 1)
theorem ovM_succ (s : Sta) (n : Nat) : ovM s (n + 1) = if kdZ s n = 3 then ovM s n else ovM s n ++ [((n : Int), 1)] := by
 unfold ovM
 rw [List.range_succ, List.filter_append, List.map_append]
 by_cases h : kdZ s n = 3
 ·rw [if_pos h, List.filter_cons_of_neg (by simpa using h)]
  simp
 rw [if_neg h, List.filter_cons_of_pos (by simpa using h)]
 rfl
theorem ovM_len (s : Sta) (n : Nat) : (ovM s n).length ≤ n := by
 unfold ovM
 rw [List.length_map]
 exact Nat.le_trans (List.length_filter_le _ _) (by rw [List.length_range]; exact Nat.le_refl _)
theorem ovM_mem (s : Sta) (n : Nat) (m : Int × Int) (h : m ∈ ovM s n) : ∃ k : Nat, m = ((k : Int), 1) ∧ k < n := by
 unfold ovM at h
 obtain ⟨k, hk, rfl⟩ := List.mem_map.1 h
 exact ⟨k, rfl, List.mem_range.1 (List.mem_filter.1 hk).1⟩
def WvOK (W : List Int) (G : List Bool) (n : Nat) : Prop := ∀ k, k < n → G.getD k false = true → ∀ ph, ph < 3 → WinOK (wvF W k ph) 16383
theorem memOK_of {s : Sta} {W : List Int} {G : List Bool} (h1 : stE s = 0) (hw : WvOK W G s.bays.length) {m : Int × Int} {k : Nat} (e : m.1 = (k : Int)) (hk : k < s.bays.length) (hg : G.getD k false = true) : ∃ k y, MemOK s W s.bays.length m k y := by
 obtain ⟨y, hy⟩ : ∃ y, s.bays[k]? = some y := ⟨_, List.getElem?_eq_getElem hk⟩
 have hr := (stE_bay h1 k y hy).rg
 unfold rgB at hr
 simp only [Bool.and_eq_true, winB, decide_eq_true_eq] at hr
 exact ⟨k, y, e, hk, hy, hr.2.1.1.2.1, hr.2.1.1.2.2, hw k hk hg⟩
theorem cpB_mem {G : List Bool} {ml : List (Int × Int)} (h : cpB G ml = true) {m : Int × Int} (hm : m ∈ ml) : G.getD m.1.toNat false = true := List.all_eq_true.1 h m hm
def ovO (s : Sta) (W : List Int) (G : List Bool) (r : Rel) (ph : Nat) : Bool := cpB G (ovM s s.bays.length) && opM s W r (ovM s s.bays.length) ph
end Go.Sub
namespace Go.Proofs.YtcjflafjmdfanaaGreatDoor
open Go.RowKit Go.Sub
attribute [local go_sem ↓] Go.wp_at_zero Go.wp_at_succ
theorem wpList_app_mem {ops : Array Oper} {rest : List Oper} {o : Oper} {a : Act} {w : World} {Q' : Exit → Act → World → Prop} (hgd : o.guard = none) (s x : Operand)
  (ho : o.op = .call { callee := .builtin .append, args := #[s, x], argTypes := #[62, 62] }) (W0 : World) (v : Value) (l : List (Int × Int)) (m : Int × Int) (g : Nat)
  (hs : a.eval s = v) (hx : a.eval x = .slice (some ⟨g, 0, none⟩) 1 1) (hown : RowM W0 w v l) (hg : ∀ j u, (mmC m)[j]? = some u → w.cell? ⟨g, j, none⟩ = some u) (hlen : l.length < 1000) (hQ : Q W0 w)
  (h : ∀ A' c' kk, RowM W0 (W0.jk kk) (.slice A' (l.length + 1) c') (l ++ [m]) → Grown W0.heap.size v (.slice A' (l.length + 1) c') w (W0.jk kk) → wpList Tryz.prog ops Q' rest (a.put o.dst (.slice A' (l.length + 1) c')) (W0.jk kk)) : wpList Tryz.prog ops Q' (o :: rest) a w := by
 obtain ⟨i, hi, hz, hs1, hb⟩ := infoMem
 refine wpList_app hgd s x 62 ho W0 86 i _ 2 16 Tryz.underlying62 hi hz hs1 hb rfl (by decide) v _ _ hs hown ⟨g, 0, none⟩ 1 1 (mmC m) hx rfl ?_ ?_ (by unfold maxLen; omega) (by omega) hQ ?_
 ·intro j u hj
  rw [addr_add0, Nat.zero_add]
  exact hg j u hj
 ·intro u hu
  simp only [mmC, List.mem_cons, List.mem_nil_iff, or_false] at hu
  rcases hu with rfl | rfl <;> rfl
 intro v' kk h1 h2
 obtain ⟨A', c', rfl⟩ := own_slice' h1
 exact h A' c' kk (by unfold RowM; rw [List.length_append, List.flatMap_append, List.flatMap_singleton]; exact h1) h2
theorem rdm_of_row {W0 w : World} {A : Option Addr} {n c : Nat} {ml : List (Int × Int)} (h : RowM W0 w (.slice A n c) ml) (hl : ml.length = n) : RdV w A n c 2 (ml.flatMap mmC) := by
 subst hl
 obtain ⟨A', c', e, hr⟩ := rdv_of_own h (by rw [mmC_len])
 injection e with e1 e2 e3
 subst e1 e3
 exact hr
theorem overall_c (s : Sta) (cs : Array Value) (r : Rel) [hR : RelC cs r] (aW : Option Addr) (cW : Nat) (W : List Int) (aG : Option Addr) (cG : Nat) (G : List Bool) (w : World) (hr : RootsOK w) (hs : StAt w s) (h1 : stE s = 0) (hW : WvAt w aW s.bays.length cW W) (hG : GdAt w aG s.bays.length cG G) (hu : usB r = true) (hw : WvOK W G s.bays.length) :
  Calls Tryz.prog 31 #[.agg #[Value.string s.nm, Value.slice s.aB s.buses.length s.cB, Value.slice s.aL s.lines.length s.cL, Value.slice s.aS s.srcs.length s.cS, Value.slice s.aY s.bays.length s.cY], .agg cs, .slice aW s.bays.length cW, .slice aG s.bays.length cG] w fun e w' => e = .returned (.tuple #[.agg #[.bool (ovO s W G r 0), .bool (ovO s W G r 1), .bool (ovO s W G r 2)], .bool (cpB G (ovM s s.bays.length)), .int .i64 0]) ∧ Q w w' := by
 have hY16 : s.bays.length ≤ 16 := by
  have := (stE_parts h1).1
  unfold stBad at this
  omega
 have CPC := hh fun (w' : World) (hq : Q w w') (A : Option Addr) (n c : Nat) (hm : RdV w' A n c 2 ((ovM s s.bays.length).flatMap mmC)) (hn : n < 1000) => complete_c A n c (ovM s s.bays.length) aG s.bays.length cG G w' hm (hG.q hq) hn (fun m hm => by
  obtain ⟨k, rfl, hk⟩ := ovM_mem _ _ _ hm
  exact ⟨k, rfl, hk⟩)
 have OPC := hh fun (w' : World) (hq : Q w w') (hr : RootsOK w') (hc : cpB G (ovM s s.bays.length) = true) (A : Option Addr) (n c : Nat) (hm : RdV w' A n c 2 ((ovM s s.bays.length).flatMap mmC)) (hn : n ≤ 16) (ph : Nat) (hp : ph < 3) => operates_c s cs r aW s.bays.length cW W A n c (ovM s s.bays.length) ph w' hr (hs.q hq) (hW.q hq) hm hn hp hu (fun m hm => by
  obtain ⟨k, e, hk⟩ := ovM_mem _ _ _ hm
  have hg := cpB_mem hc hm
  rw [e, Int.toNat_natCast] at hg
  exact memOK_of h1 hw (by rw [e]) hk hg) (by omega)
 have HAY := hh fun k y (hy : s.bays[k]? = some y) => hs.bayAt hy
 have HVS := hh (ovM_succ s)
 have HVL := hh (ovM_len s)
 have HV0 : Hid (ovM s 0 = []) := hh rfl
 have HKD : Hid (∀ k y, s.bays[k]? = some y → kdZ s k = y.kd) := hh fun k y hy => by unfold kdZ; rw [hy]
 have HO : Hid (∀ ph, ovO s W G r ph = (cpB G (ovM s s.bays.length) && opM s W r (ovM s s.bays.length) ph)) := hh fun ph => rfl
 generalize ovO s W G r = O at HO ⊢
 obtain ⟨aY, eaY⟩ : ∃ a, s.aY = a := ⟨_, rfl⟩
 obtain ⟨nY, eY⟩ : ∃ n, s.bays.length = n := ⟨_, rfl⟩
 rw [eaY] at HAY
 rw [eY] at hY16 HO
 rw [eY] at CPC
 rw [eaY, eY] at OPC
 rw [eaY, eY]
 have HYB : Hid (∀ k, k < nY → ∃ y, s.bays[k]? = some y) := hh fun k hk => ⟨_, List.getElem?_eq_getElem (by omega)⟩
 obtain ⟨C, eC⟩ : ∃ C, cpB G (ovM s nY) = C := ⟨_, rfl⟩
 obtain ⟨o0, eo0⟩ : ∃ o, O 0 = o := ⟨_, rfl⟩
 obtain ⟨o1, eo1⟩ : ∃ o, O 1 = o := ⟨_, rfl⟩
 obtain ⟨o2, eo2⟩ : ∃ o, O 2 = o := ⟨_, rfl⟩
 rw [eC, eo0, eo1, eo2]
 have EC := hh eC
 have EO0 := hh eo0
 have EO1 := hh eo1
 have EO2 := hh eo2
 clear hs h1 hW hG hu hw eaY eY eC eo0 eo1 eo2
 go_enter Tryz.func31, Tryz.ntmps31
 go_wp2_with fail
 go_loopw [11, 21] (fun v i wr => ∃ (k m : Nat) (A : Option Addr) (c : Nat), v = .slice A m c ∧ i = .int .i64 k ∧ k ≤ nY ∧ Q (((w.alloc (Obj.cells #[Value.string s.nm, Value.slice s.aB s.buses.length s.cB, Value.slice s.aL s.lines.length s.cL, Value.slice s.aS s.srcs.length s.cS, Value.slice aY nY s.cY] 27)).alloc (Obj.cells cs 44)).alloc (Obj.cells #[.bool false, .bool false, .bool false] 65)) wr ∧ Hid ((ovM s k).length = m) ∧ Hid (RowM (((w.alloc (Obj.cells #[Value.string s.nm, Value.slice s.aB s.buses.length s.cB, Value.slice s.aL s.lines.length s.cL, Value.slice s.aS s.srcs.length s.cS, Value.slice aY nY s.cY] 27)).alloc (Obj.cells cs 44)).alloc (Obj.cells #[.bool false, .bool false, .bool false] 65)) wr (.slice A m c) (ovM s k))) (fun _ i _ => nY - (intOf i).toNat)
 case atStart => exact ⟨0, 0, none, 0, rfl, rfl, Nat.zero_le _, Q.refl _, hh rfl, hh (World.ownsRow_nil _ _ _ _)⟩
 case round =>
  obtain ⟨k, m, A, c, rfl, rfl, hk, ⟨kk, rfl⟩, HML, HRM⟩ := hrel
  by_cases hlt : k < nY
  ·obtain ⟨y, hy⟩ := HYB.o k hlt
   obtain ⟨g, o, rfl, og, hc⟩ := HAY.o k y hy
   obtain ⟨q0, q1, q2, q3, q4, q5, q6, q7, q8, q9, q10, q11⟩ := by12 hc
   have HVK := hh (HVS.o k)
   rw [HKD.o k y hy] at HVK
   have hmk : m ≤ k := by have := HVL.o k; rw [HML.o] at this; exact this
   have k0 : (0 : Int) ≤ (k : Int) := by omega
   have k1 : (k : Int) < (nY : Int) := by omega
   generalize ovM s k = ml at HML HRM HVK
   clear hc hy
   by_cases h3 : y.kd = 3
   ·have h3' : (y.kd != 3) = false := by simpa using h3
    have EV : Hid (ovM s (k + 1) = ml) := hh (by rw [HVK.o, if_pos h3])
    clear h3 HVK
    go_wp2_with fail
    go_roundw
    case rel => exact ⟨k + 1, m, A, c, rfl, by go_num, by omega, Q.i, hh (by rw [EV.o]; exact HML.o), hh (by rw [EV.o]; exact ownsRow_q HRM.o Q.i)⟩
    case measure => simp [intOf] <;> omega
   have h3' : (y.kd != 3) = true := by simpa using h3
   have EV : Hid (ovM s (k + 1) = ml ++ [((k : Int), 1)]) := hh (by rw [HVK.o, if_neg h3])
   clear h3 HVK
   go_wp2_with (first | (at_builtin; refine wpList_app_mem rfl _ _ rfl (((w.alloc (Obj.cells #[Value.string s.nm, Value.slice s.aB s.buses.length s.cB, Value.slice s.aL s.lines.length s.cL, Value.slice s.aS s.srcs.length s.cS, Value.slice (some ⟨g, o, none⟩) nY s.cY] 27)).alloc (Obj.cells cs 44)).alloc (Obj.cells #[.bool false, .bool false, .bool false] 65)) (.slice A m c) ml ((k : Int), 1) _ rfl rfl (ownsRow_q HRM.o Q.i) (cells_of (HB.new _ _ _ _ (by simp [World.size_jk]))) (by rw [HML.o]; omega) Q.i ?_; intro A' c' kx hrm hgr; rw [HML.o] at hrm ⊢) | fail)
   go_roundw
   case rel => exact ⟨k + 1, m + 1, A', c', rfl, by go_num, by omega, Q.i, hh (by rw [EV.o, List.length_append, HML.o]; rfl), hh (by rw [EV.o]; exact hrm)⟩
   case measure => simp [intOf] <;> omega
  obtain rfl : nY = k := by omega
  have hm16 : m ≤ 16 := by have := HVL.o nY; rw [HML.o] at this; omega
  have HRD := hh (rdm_of_row HRM.o HML.o)
  generalize ovM s nY = ml at CPC OPC HRD HO EC
  clear HRM HML HAY HVS HVL HV0 HKD HYB hlt hk
  rw [EC.o] at CPC OPC
  have HO1 := HO.o
  rw [EC.o] at HO1
  clear HO EC
  cases C with
  | false =>
   have E0 : ∀ ph, O ph = false := fun ph => by rw [HO1, Bool.false_and]
   obtain rfl : false = o0 := (E0 0).symm.trans EO0.o
   obtain rfl : false = o1 := (E0 1).symm.trans EO1.o
   obtain rfl : false = o2 := (E0 2).symm.trans EO2.o
   clear HO1 E0 EO0 EO1 EO2
   go_wp2_with (first | (go_at_call 36; (with_reducible refine (CPC.o _ Q.i A m c (HRD.o.q Q.i) (by omega)).q ?_); intro kc) | fail)
   refine bodyPost_ret (v := .tuple #[.agg #[.bool false, .bool false, .bool false], .bool false, .int .i64 0]) (by simp [results, Tryz.results31, go_sem]) rfl ⟨rfl, Q.i⟩
  | true =>
   have E0 : ∀ ph, O ph = opM s W r ml ph := fun ph => by rw [HO1, Bool.true_and]
   have OPD := hh fun (w' : World) (hq : Q w w') (hr : RootsOK w') (hm : RdV w' A m c 2 (ml.flatMap mmC)) (ph : Nat) (hp : ph < 3) => OPC.o w' hq hr rfl A m c hm hm16 ph hp
   simp only [← E0] at OPD
   have OP0 : Hid (∀ (w' : World), Q w w' → RootsOK w' → RdV w' A m c 2 (ml.flatMap mmC) → Calls Tryz.prog 37 #[.agg #[Value.string s.nm, Value.slice s.aB s.buses.length s.cB, Value.slice s.aL s.lines.length s.cL, Value.slice s.aS s.srcs.length s.cS, Value.slice aY nY s.cY], .agg cs, .slice aW nY cW, .slice A m c, .int .i64 0] w' fun e w'' => e = .returned (.tuple #[.bool (O 0), .int .i64 0]) ∧ Q w' w'') := hh fun w' hq hr hm => OPD.o w' hq hr hm 0 (by decide)
   have OP1 : Hid (∀ (w' : World), Q w w' → RootsOK w' → RdV w' A m c 2 (ml.flatMap mmC) → Calls Tryz.prog 37 #[.agg #[Value.string s.nm, Value.slice s.aB s.buses.length s.cB, Value.slice s.aL s.lines.length s.cL, Value.slice s.aS s.srcs.length s.cS, Value.slice aY nY s.cY], .agg cs, .slice aW nY cW, .slice A m c, .int .i64 1] w' fun e w'' => e = .returned (.tuple #[.bool (O 1), .int .i64 0]) ∧ Q w' w'') := hh fun w' hq hr hm => OPD.o w' hq hr hm 1 (by decide)
   have OP2 : Hid (∀ (w' : World), Q w w' → RootsOK w' → RdV w' A m c 2 (ml.flatMap mmC) → Calls Tryz.prog 37 #[.agg #[Value.string s.nm, Value.slice s.aB s.buses.length s.cB, Value.slice s.aL s.lines.length s.cL, Value.slice s.aS s.srcs.length s.cS, Value.slice aY nY s.cY], .agg cs, .slice aW nY cW, .slice A m c, .int .i64 2] w' fun e w'' => e = .returned (.tuple #[.bool (O 2), .int .i64 0]) ∧ Q w' w'') := hh fun w' hq hr hm => OPD.o w' hq hr hm 2 (by decide)
   rw [EO0.o] at OP0
   rw [EO1.o] at OP1
   rw [EO2.o] at OP2
   clear OPD OPC E0 HO1 EO0 EO1 EO2
   go_wp2_with (first | (go_at_call 36; (with_reducible refine (CPC.o _ Q.i A m c (HRD.o.q Q.i) (by omega)).q ?_); intro kc) | fail)
   refine wp_loop_rounds 4 ?_
   repeat (rw [rounds_succ]; go_wp2_with (first | (go_at_call 37; (with_reducible refine (OP0.o _ Q.i (hr.q Q.i) (HRD.o.q Q.i)).q ?_); intro kp0) | (go_at_call 37; (with_reducible refine (OP1.o _ Q.i (hr.q Q.i) (HRD.o.q Q.i)).q ?_); intro kp1) | (go_at_call 37; (with_reducible refine (OP2.o _ Q.i (hr.q Q.i) (HRD.o.q Q.i)).q ?_); intro kp2) | fail))
   refine bodyPost_ret (v := .tuple #[.agg #[.bool o0, .bool o1, .bool o2], .bool true, .int .i64 0]) (by simp [results, Tryz.results31, go_sem]) rfl ⟨rfl, Q.i⟩
end Go.Proofs.YtcjflafjmdfanaaGreatDoor
