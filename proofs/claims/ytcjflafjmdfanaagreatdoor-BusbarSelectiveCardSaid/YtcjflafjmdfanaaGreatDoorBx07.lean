
/- BusbarSelective, walked: it returns true. -/
import Derived.Test.YtcjflafjmdfanaaGreatDoorBx01
import Derived.Test.YtcjflafjmdfanaaGreatDoorBx04
import Derived.Test.YtcjflafjmdfanaaGreatDoorBx02
import Derived.Test.YtcjflafjmdfanaaGreatDoorBv35
import Derived.Test.YtcjflafjmdfanaaGreatDoorBv37
set_option maxHeartbeats 64000000
set_option maxRecDepth 100000
set_option linter.unusedSimpArgs false
set_option linter.unusedVariables false
namespace Go
open Go.RowKit
theorem Q.setCells {a w : World} (h : Q a w) {b o : Nat} (hb : a.heap.size ≤ b) : ∀ (vs : List Value), Q a (w.setCells b o vs) := by
 intro vs
 induction vs generalizing w o with
 | nil => exact h
 | cons v vs ih => exact ih (h.setCell hb v)
theorem ones_list (ks : List Int) : ∀ u ∈ ks.map (Value.int .i64), u.oneCell' = true := fun u hu => by
 obtain ⟨z, _, rfl⟩ := List.mem_map.1 hu
 rfl
end Go
namespace Go.Proofs.YtcjflafjmdfanaaGreatDoor
open Go.RowKit Go.Sub
attribute [local go_sem ↓] Go.wp_at_zero Go.wp_at_succ
theorem put_wave {W0 w : World} {n c k g : Nat} {W ks : List Int} {ws : Array Value} (h : w.ownsRow W0.heap.size 72 72 (.slice (some ⟨g, 0, none⟩) n c) n (W.map (Value.int .i64))) (hq : Q W0 w) (hl : W.length = n * 72) (hk : k < n) (hks : ks.length = 72) (hws : ws = (ks.map (Value.int .i64)).toArray) (hn : n < 1000) :
  ∃ w2, (bigStore 72 ⟨g, k * 72, none⟩ (.agg ws)).run Tryz.prog w = .ok () w2 ∧ Q W0 w2 ∧ WvAt w2 (some ⟨g, 0, none⟩) n c (updW W k ks) ∧ w2.heap.size = w.heap.size := by
 subst hws
 have hlt := h.lt g rfl
 rcases h.2 with ⟨h0, _⟩ | ⟨g', cap, cur, e, hb, hg, hc, _, hcs, htake⟩
 ·cases h0
 injection e with e1 e2 e3
 injection e1 with e1
 injection e1 with e1
 subst e1
 subst e3
 have hcell : ∀ i, i < n * 72 → w.cell? ⟨g, i, none⟩ = some (.int .i64 (W.getD i 0)) := fun i hi => by
  have := h.cells (g := g) rfl i (.int .i64 (W.getD i 0)) (by
   rw [List.getElem?_map, List.getElem?_eq_getElem (by omega), List.getD_eq_getElem?_getD, List.getElem?_eq_getElem (by omega)]
   rfl)
  have e : (⟨g, 0, none⟩ : Addr).add i = ⟨g, i, none⟩ := by unfold Addr.add; split <;> simp_all
  rwa [e] at this
 have ht : w.there g (k * 72) 72 := fun j hj => ⟨by rw [hcell _ (by omega)]; rfl, by
  simp [World.frozen?, hg]⟩
 have hsz : ((ks.map (Value.int .i64)).toArray).size = 72 := by simp [hks]
 have hrun := run_storeVar_mid (P := Tryz.prog) w g (k * 72) 72 (ks.map (Value.int .i64)).toArray (by rw [hsz]; exact ht) (by rw [hsz]; exact infoWave72) (all_oneCell_toArray (ones_list ks))
 have hsame := World.rangeAt_setCells_same w g (k * 72) (ks.map (Value.int .i64)) (by rw [List.length_map, hks]; exact ht)
 have hQ := Q.setCells hq (b := g) (o := k * 72) hb (ks.map (Value.int .i64))
 have hsize : (w.setCells g (k * 72) (ks.map (Value.int .i64))).heap.size = w.heap.size := by
  have : ∀ (vs : List Value) (o : Nat) (w : World), (w.setCells g o vs).heap.size = w.heap.size := by
   intro vs
   induction vs with
   | nil => intro o w; rfl
   | cons v vs ih => intro o w; exact (ih _ _).trans (World.size_setCell _ _ _)
  exact this _ _ _
 refine ⟨_, hrun, hQ, ⟨⟨by rw [List.length_map, updW_len hl hks hk], hc, fun _ => ⟨g, 0, rfl, by rw [hsize]; exact hlt.2, fun i u hi => ?_⟩, fun e => by cases e⟩, by omega⟩, hsize⟩
 rw [Nat.zero_add]
 have hi72 : i < n * 72 := by
  have := (List.getElem?_eq_some_iff.1 hi).1
  rwa [List.length_map, updW_len hl hks hk] at this
 obtain ⟨q, rr, rfl, hrr⟩ : ∃ q rr, i = q * 72 + rr ∧ rr < 72 := ⟨i / 72, i % 72, by omega, by omega⟩
 have hqn : q < n := by omega
 rw [List.getElem?_map] at hi
 by_cases e : q = k
 ·subst e
  rw [updW_same hl hks hk hrr] at hi
  exact hsame rr u (by rw [List.getElem?_map]; exact hi)
 have h2 := updW_other (ks := ks) hl hks hk e hrr
 rw [List.getElem?_eq_getElem (by rw [updW_len hl hks hk]; exact hi72)] at hi
 rw [List.getD_eq_getElem?_getD, List.getElem?_eq_getElem (by rw [updW_len hl hks hk]; exact hi72)] at h2
 simp only [Option.getD_some] at h2
 simp only [Option.map_some, Option.some.injEq] at hi
 rw [← hi, h2]
 have h3 := World.rangeAt_setCells_apart (w := w) (b' := g) (o' := q * 72 + rr) (cs := [.int .i64 (W.getD (q * 72 + rr) 0)]) (fun j v hv => by
  match j, hv with
  | 0, hv => simp at hv; subst hv; exact hcell _ (by omega)) g (k * 72) (ks.map (Value.int .i64)) (by
  right
  simp only [List.length_cons, List.length_nil, List.length_map, hks]
  rcases Nat.lt_or_ge q k with h | h <;> omega)
 exact h3 0 _ rfl
theorem orE_z (a b : Int) : orE a b = 0 ↔ a = 0 ∧ b = 0 := by
 unfold orE
 split <;> simp_all
theorem build0 {W : World} : ∀ w, (bigBuild 45 0 #[]).run Tryz.prog w = .ok (.slice (some ⟨w.heap.size, 0, none⟩) 0 0) (w.alloc (.cells #[] 72)) := by
 intro w
 obtain ⟨i, hi, hz, hs1, hb⟩ := infoWave
 simp [bigBuild, Instr.buildSlice, run_underlying Tryz.underlying45, sizeOf, typeInfo, hi, newRow, Instr.fill]
 rw [show Array.range 0 = #[] from rfl, Array.map_empty]
theorem own_nil0 (V0 : World) : (V0.alloc (.cells #[] 72)).ownsRow V0.heap.size 72 72 (.slice (some ⟨V0.heap.size, 0, none⟩) 0 0) 0 [] := World.ownsRow_lit V0 #[] 0 (Nat.le_refl _) (by decide) rfl
theorem wpList_app_waves {ops : Array Oper} {rest : List Oper} {o : Oper} {a : Act} {w : World} {Q' : Exit → Act → World → Prop} (hgd : o.guard = none) (s x : Operand)
  (ho : o.op = .call { callee := .builtin .append, args := #[s, x], argTypes := #[45, 45] }) (W0 : World) (v : Value) (n : Nat) (xs : List Value) (m : Nat) (A : Option Addr) (c : Nat) (news : List Value)
  (hs : a.eval s = v) (hx : a.eval x = .slice A m c) (hown : w.ownsRow W0.heap.size 72 72 v n xs) (hr : RdV w A m c 72 news) {m0 : Nat} (hm0 : m0 < m) (h1 : ∀ u ∈ news, u.oneCell' = true) (hlen : n < 1000) (hm : m < 1000) (hQ : Q W0 w)
  (h : ∀ A' c' kk, (W0.jk kk).ownsRow W0.heap.size 72 72 (.slice A' (n + m) c') (n + m) (xs ++ news) → wpList Tryz.prog ops Q' rest (a.put o.dst (.slice A' (n + m) c')) (W0.jk kk)) : wpList Tryz.prog ops Q' (o :: rest) a w := by
 obtain ⟨i, hi, hz, hs1, hb⟩ := infoWave
 obtain ⟨g, og, rfl, ho', hc⟩ := hr.at_ (by omega)
 refine wpList_app hgd s x 45 ho W0 72 i _ 72 576 Tryz.underlying45 hi hz hs1 hb rfl (by decide) v n xs hs hown ⟨g, og, none⟩ m c news hx hr.1 ?_ h1 (by unfold maxLen; omega) (by omega) hQ ?_
 ·intro j u hj
  have e : (⟨g, og, none⟩ : Addr).add j = ⟨g, og + j, none⟩ := by unfold Addr.add; split <;> simp_all
  rw [e]
  exact hc.o j u hj
 intro v' kk h1 h2
 obtain ⟨A', c', rfl⟩ := own_slice' h1
 exact h A' c' kk h1
theorem put_own {W0 w : World} {n c k : Nat} {A : Option Addr} {W ks : List Int} {ws : Array Value} (h : w.ownsRow W0.heap.size 72 72 (.slice A n c) n (W.map (Value.int .i64))) (hq : Q W0 w) (hl : W.length = n * 72) (hk : k < n) (hks : ks.length = 72) (hws : ws = (ks.map (Value.int .i64)).toArray) (hn : n < 1000) :
  ∃ g, A = some ⟨g, 0, none⟩ ∧ ∃ w2, (bigStore 72 ⟨g, k * 72, none⟩ (.agg ws)).run Tryz.prog w = .ok () w2 ∧ Q W0 w2 ∧ WvAt w2 (some ⟨g, 0, none⟩) n c (updW W k ks) ∧ w2.heap.size = w.heap.size := by
 obtain ⟨g, c', e⟩ := own_slice h (by omega)
 injection e with e1 e2 e3
 subst e1 e3
 exact ⟨g, rfl, put_wave h hq hl hk hks hws hn⟩
theorem sel_walk (s : Sta) (p : Pos) (cs : Array Value) (r : Rel) [hR : RelC cs r] [h53 : Ones53 cs] (aW : Option Addr) (nW cW : Nat) (W : List Int) (aG : Option Addr) (nG cG : Nat) (G : List Bool) (bay : Int) (ws : Array Value) (ks : List Int) (w : World)
  (hr : RootsOK w) (hws : ws = (ks.map (Value.int .i64)).toArray) (hks : ks.length = 72) (hst : StAt w s) (hps : PosAt w p) (hwv : WvAt w aW nW cW W) (hgd : GdAt w aG nG cG G) :
  Calls Tryz.prog 5 #[.agg (caseC (Value.string s.nm) (Value.slice s.aB s.buses.length s.cB) (Value.slice s.aL s.lines.length s.cL) (Value.slice s.aS s.srcs.length s.cS) (Value.slice s.aY s.bays.length s.cY) (Value.slice p.aC p.closed.length p.cC) (Value.slice p.aK p.rows.length p.cK) cs (Value.slice aW nW cW) (Value.slice aG nG cG)), .int .i64 bay, .agg ws] w fun e w' => e = .returned (.bool true) ∧ Q w w' := by
 have HST := hh hst
 have HPS := hh hps
 have HWV := hh hwv
 have HGD := hh hgd
 have HWS := hh hws
 haveI : C72 ws := ⟨by rw [hws]; simp [hks]⟩
 haveI : Ones ws := ⟨by rw [hws]; exact all_oneCell_toArray (ones_list ks)⟩
 clear hst hps hwv hgd hws
 have SM := hh fun w' : World => small_c s p cs r aW nW cW aG nG cG w'
 go_enter Tryz.func5, Tryz.ntmps5
 go_upto_region 3 with (first | (go_at_call 7; (with_reducible refine (SM.o _).mono ?_); rintro e w' ⟨b, rfl, ⟨ks0, rfl⟩, hsm⟩) | (go_at_call 8; (with_reducible refine (known34_c _ (hr.q Q.i)).q ?_); intro kz) | fail)
 all_goals (try (go_ret; exact ⟨rfl, Q.i⟩))
 have hb1 : b = true := by assumption
 have hb2 : 0 ≤ bay := by omega
 have hb3 : bay < (nW : Int) := by omega
 obtain ⟨k, rfl⟩ := Int.eq_ofNat_of_zero_le hb2
 have hkn : k < nW := by omega
 obtain ⟨y1, y2, y3, y4, y5, y6⟩ := hsm hb1
 obtain ⟨E1, eE1⟩ : ∃ E, seE s p r W G nW nG s.bays.length = E := ⟨_, rfl⟩
 obtain ⟨E2, eE2⟩ : ∃ E, seE s p r (updW W k ks) G nW nG s.bays.length = E := ⟨_, rfl⟩
 have HWL : Hid (W.length = nW * 72) := hh (by have := HWV.o.1.1; rwa [List.length_map] at this)
 have SEC1 := hh fun (w' : World) (hq : Q w w') => secs_u s p cs r aW nW cW W aG nG cG G w' (hr.q hq) (HST.o.q hq) (HPS.o.q hq) (HWV.o.q hq) (HGD.o.q hq)
 have SEC2 := hh fun (w' : World) (A : Option Addr) (c : Nat) (hq : Q w w') (hw : WvAt w' A nW c (updW W k ks)) => secs_u s p cs r A nW c (updW W k ks) aG nG cG G w' (hr.q hq) (HST.o.q hq) (HPS.o.q hq) hw (HGD.o.q hq)
 rw [eE1] at SEC1
 rw [eE2] at SEC2
 unfold RetU at SEC1 SEC2
 have HIP : Hid (E1 = 0 → ∀ x ∈ imI s p, x.mem.length ≤ 16 ∧ ∀ m ∈ x.mem, ∃ k : Nat, m.1 = (k : Int)) := hh (fun e => by
  have h1 : stE s = 0 := by
   have h2 : orE (orE (stE s) (psE s p)) (ckE r W G s.bays.length nW nG s.bays.length) = 0 := eE1.trans e
   exact ((orE_z _ _).1 ((orE_z _ _).1 h2).1).1
  have hY := (stE_parts h1).1
  unfold stBad at hY
  intro x hx
  have h3 := imF_prop s p _ _ (by omega) x hx
  exact ⟨h3.1, fun m hm => by obtain ⟨q, e, _⟩ := h3.2.2 m hm; exact ⟨q, e⟩⟩)
 have HIL : E1 = 0 → (imI s p).length ≤ 10 := fun _ => by
  have := imF_len s p (grI s (rsP p)) s.buses.length
  unfold imI
  omega
 have HPC : Hid (∀ x ∈ imI s p, (∀ m ∈ x.mem, ∃ k : Nat, m.1 = (k : Int)) → (x.mem.any fun m => decide (m.1 = (k : Int))) = false → (prS s W G r x).gd = (prS s (updW W k ks) G r x).gd ∧ ∀ i, i < 3 → (prS s W G r x).op i = (prS s (updW W k ks) G r x).op i ∧ (prS s W G r x).bl i = (prS s (updW W k ks) G r x).bl i) := hh fun x _ hm hno => prS_congr (sameW_upd HWL.o hks hkn hm hno)
 have HTR : Hid (∀ x, (prS s W G r x).tr = true → (prS s W G r x).gd = true) := hh fun x h => prS_tr h
 generalize prS s W G r = F1 at SEC1 HPC HTR
 generalize prS s (updW W k ks) G r = F2 at SEC2 HPC
 generalize imI s p = IM at SEC1 SEC2 HIP HIL HPC
 have k0 : (0 : Int) ≤ (k : Int) := by omega
 have k1 : (k : Int) < (nW : Int) := by omega
 have k01 : ¬ (k : Int) < 0 := by omega
 have HHR := hh hr
 clear hb1 hb2 hb3 hsm eE1 eE2 SM hr y1 y2 y3 y4 y6
 go_upto_region 4 with (first | (go_at_call 14; (with_reducible refine (SEC1.o _ Q.i).mono ?_); rintro e w' ⟨A1, c1, rs1, rfl, ⟨kA, rfl⟩, hu1⟩) | fail)
 refine wp_world ?_
 intro V0 eV0
 have HQ0 : Hid (Q w V0) := hh (by rw [eV0]; exact Q.i)
 have HP1 : Hid (E1 = 0 → rs1.map SecR.d = IM ∧ PrAt V0 A1 c1 rs1 F1) := hh (by rw [eV0]; exact hu1)
 have hb3 : HB V0 w.heap.size (caseC (Value.string s.nm) (Value.slice s.aB s.buses.length s.cB) (Value.slice s.aL s.lines.length s.cL) (Value.slice s.aS s.srcs.length s.cS) (Value.slice s.aY s.bays.length s.cY) (Value.slice p.aC p.closed.length p.cC) (Value.slice p.aK p.rows.length p.cK) cs (Value.slice aW nW cW) (Value.slice aG nG cG)) 47 := by rw [eV0]; exact (((HB.new _ _ _ _ rfl).alloc _).jk _).jk _
 have hb5 : HB V0 (w.heap.size + 1) ws 72 := by rw [eV0]; exact ((HB.new _ _ _ _ (by simp)).jk _).jk _
 clear eV0 hu1
 have HB3 := hh hb3
 have c60 := hb3.cell 60
 rw [caseC_60] at c60
 have o3 := hb3.old
 haveI : Blk V0 (w.heap.size + 1) (.cells ws 72) := ⟨hb5⟩
 clear hb3 hb5
 have hbs := build0 (W := V0)
 go_upto_region 6 with (first
  | (at_builtin; refine wpList_app_waves rfl _ _ rfl V0 (.slice (some ⟨V0.heap.size, 0, none⟩) 0 0) 0 [] nW aW cW (W.map (Value.int .i64)) rfl rfl (own_nil0 V0) ((HWV.o.q HQ0.o).q Q.i).1 hkn (ones_list W) (by omega) (by omega) Q.i ?_; intro A2 c2 kB hown; rw [List.nil_append, Nat.zero_add] at hown; obtain ⟨g2, e2, V2, hst2, hq2, hw2, hz2⟩ := put_own hown Q.i HWL.o hkn hks HWS.o (by omega); subst e2; have HQ2 := hh hq2; have HW2 := hh hw2; clear hown hq2 hw2)
  | fail)
 have HP1 : Hid (E1 = 0 → rs1.map SecR.d = IM ∧ PrAt V2 A1 c1 rs1 F1) := hh fun e => ⟨(HP1.o e).1, (HP1.o e).2.q HQ2.o⟩
 have hb3 := HB.q HB3.o HQ2.o
 have HQX : Hid (Q w V2) := hh (HQ0.o.trans HQ2.o)
 haveI : Blk V2 w.heap.size (.cells (caseC (Value.string s.nm) (Value.slice s.aB s.buses.length s.cB) (Value.slice s.aL s.lines.length s.cL) (Value.slice s.aS s.srcs.length s.cS) (Value.slice s.aY s.bays.length s.cY) (Value.slice p.aC p.closed.length p.cC) (Value.slice p.aK p.rows.length p.cK) cs (Value.slice aW nW cW) (Value.slice aG nG cG)) 47) := ⟨hb3⟩
 have s0 := hb3.cell 0
 have s1 := hb3.cell 1
 have s2 := hb3.cell 2
 have s3 := hb3.cell 3
 have s4 := hb3.cell 4
 have s5 := hb3.cell 5
 have s6 := hb3.cell 6
 have s61 := hb3.cell 61
 rw [caseC_0] at s0
 rw [caseC_1] at s1
 rw [caseC_2] at s2
 rw [caseC_3] at s3
 rw [caseC_4] at s4
 rw [caseC_5] at s5
 rw [caseC_6] at s6
 rw [caseC_61] at s61
 have oX := hb3.old
 clear hst2 hz2 hbs c60 o3 HB3 hb3 HQ2 HQ0
 go_upto_region 7 with (first | (go_at_call 14; (with_reducible refine (SEC2.o _ (some ⟨g2, 0, none⟩) c2 (by repeat' (first | with_reducible exact Q.refl _ | with_reducible exact HQX.o | refine Q.alloc ?_ _ | refine Q.jk ?_ _ | refine Q.drew ?_)) (HW2.o.q Q.i)).mono ?_); rintro e w' ⟨A2, c2', rs2, rfl, ⟨kC, rfl⟩, hu2⟩) | fail)
 refine wp_world ?_
 intro V3 eV3
 have hq3 : Q V2 V3 := by rw [eV3]; exact Q.i
 have HP2 : Hid (E2 = 0 → rs2.map SecR.d = IM ∧ PrAt V3 A2 c2' rs2 F2) := hh (by rw [eV3]; exact hu2)
 have HP1 : Hid (E1 = 0 → rs1.map SecR.d = IM ∧ PrAt V3 A1 c1 rs1 F1) := hh fun e => ⟨(HP1.o e).1, (HP1.o e).2.q hq3⟩
 have HQX : Hid (Q w V3) := hh (HQX.o.trans hq3)
 have HRX : Hid (RootsOK V3) := hh (HHR.o.q HQX.o)
 clear s0 s1 s2 s3 s4 s5 s6 s61 oX hu2 hq3 eV3 HW2 SEC1 SEC2 HST HPS HWV HGD HWS
 by_cases e1 : E1 = 0
 rotate_left
 ·have e1' : (E1 != 0) = true := by simpa using e1
  go_wp2_with (first | (go_at_call 8; (with_reducible refine (known34_c _ (HRX.o.q (by repeat' (first | with_reducible exact Q.refl _ | with_reducible exact HQX.o | refine Q.alloc ?_ _ | refine Q.jk ?_ _ | refine Q.drew ?_)))).q ?_); intro kz) | fail)
  go_ret
  exact ⟨rfl, (by repeat' (first | with_reducible exact Q.refl _ | with_reducible exact HQX.o | refine Q.alloc ?_ _ | refine Q.jk ?_ _ | refine Q.drew ?_))⟩
 by_cases e2 : E2 = 0
 rotate_left
 ·have e2' : (E2 != 0) = true := by simpa using e2
  subst e1
  go_wp2_with (first | (go_at_call 8; (with_reducible refine (known34_c _ (HRX.o.q (by repeat' (first | with_reducible exact Q.refl _ | with_reducible exact HQX.o | refine Q.alloc ?_ _ | refine Q.jk ?_ _ | refine Q.drew ?_)))).q ?_); intro kz) | fail)
  go_ret
  exact ⟨rfl, (by repeat' (first | with_reducible exact Q.refl _ | with_reducible exact HQX.o | refine Q.alloc ?_ _ | refine Q.jk ?_ _ | refine Q.drew ?_))⟩
 subst e1 e2
 obtain ⟨n, en⟩ : ∃ n, rs1.length = n := ⟨_, rfl⟩
 have en2 : rs2.length = n := by
  have := congrArg List.length ((HP2.o rfl).1.trans (HP1.o rfl).1.symm)
  simp only [List.length_map] at this
  omega
 have hn10 : n ≤ 10 := by
  have := HIL rfl
  rwa [← (HP1.o rfl).1, List.length_map, en] at this
 rw [en, en2]
 have HD1 := hh (HP1.o rfl).1
 have HA1 := hh (HP1.o rfl).2
 have HD2 := hh (HP2.o rfl).1
 have HA2 := hh (HP2.o rfl).2
 have HN1 := hh en
 have HN2 := hh en2
 have HIX := hh (HIP.o rfl)
 have n0 : (0 : Int) ≤ (n : Int) := by omega
 clear HP1 HP2 HIL HIP en en2
 go_wp2_with fail
 go_loopw [80] (fun i wr => ∃ q : Nat, i = .int .i64 q ∧ q ≤ n ∧ Q V3 wr) (fun i _ => n - (intOf i).toNat)
 case atStart => exact ⟨0, rfl, Nat.zero_le _, (by repeat' (first | exact Q.refl _ | refine Q.alloc ?_ _ | refine Q.jk ?_ _ | refine Q.drew ?_))⟩
 case round =>
  obtain ⟨q, rfl, hq, kk, rfl⟩ := hrel
  by_cases hlt : q < n
  rotate_left
  ·obtain rfl : n = q := by omega
   go_wp2_with (first | (go_at_call 8; (with_reducible refine (known34_c _ (HRX.o.q (by repeat' (first | with_reducible exact Q.refl _ | with_reducible exact HQX.o | refine Q.alloc ?_ _ | refine Q.jk ?_ _ | refine Q.drew ?_)))).q ?_); intro kz) | fail)
   go_ret
   exact ⟨rfl, (by repeat' (first | with_reducible exact Q.refl _ | with_reducible exact HQX.o | refine Q.alloc ?_ _ | refine Q.jk ?_ _ | refine Q.drew ?_))⟩
  obtain ⟨a1, ha1⟩ : ∃ a, rs1[q]? = some a := ⟨_, List.getElem?_eq_getElem (by rw [HN1.o]; exact hlt)⟩
  obtain ⟨a2, ha2⟩ : ∃ a, rs2[q]? = some a := ⟨_, List.getElem?_eq_getElem (by rw [HN2.o]; exact hlt)⟩
  have hd : a2.d = a1.d := by
   have h1 := congrArg (·[q]?) (HD2.o.trans HD1.o.symm)
   simp only [List.getElem?_map, ha1, ha2, Option.map_some, Option.some.injEq] at h1
   exact h1
  have hin : a1.d ∈ IM := by rw [← HD1.o]; exact List.mem_map_of_mem (List.mem_of_getElem? ha1)
  obtain ⟨g4, o4, rfl, og4, hc4⟩ := PrAt.at_ HA1.o (by rw [HN1.o]; omega)
  obtain ⟨g5, o5, rfl, og5, hc5⟩ := PrAt.at_ HA2.o (by rw [HN2.o]; omega)
  have hIA := HIX.o a1.d hin
  have hPC := HPC.o a1.d hin hIA.2
  have hTR := HTR.o a1.d
  have hmem := (HA1.o.2 a1 (List.mem_of_getElem? ha1)).2
  have hb := fun u u' => hc5.o q a2 u u' ha2
  rw [hd] at hb
  obtain ⟨t1, et1⟩ : ∃ t, F1 a1.d = t := ⟨_, rfl⟩
  obtain ⟨t2, et2⟩ : ∃ t, F2 a1.d = t := ⟨_, rfl⟩
  have ha := fun u u' => hc4.o q a1 u u' ha1
  rw [et1] at hPC hTR ha
  rw [et2] at hPC hb
  have x0 := ha 0 _ (by decide) rfl
  have x1 := ha 1 _ (by decide) rfl
  have x2 := ha 2 _ (by decide) rfl
  have x3 := ha 3 _ (by decide) rfl
  have x4 := ha 4 _ (by decide) rfl
  have x5 := ha 5 _ (by decide) rfl
  have x6 := ha 6 _ (by decide) rfl
  have x7 := ha 7 _ (by decide) rfl
  have x8 := ha 8 _ (by decide) rfl
  have x9 := ha 9 _ (by decide) rfl
  have x10 := ha 10 _ (by decide) rfl
  have z3 := hb 3 _ (by decide) rfl
  have z4 := hb 4 _ (by decide) rfl
  have z5 := hb 5 _ (by decide) rfl
  have z6 := hb 6 _ (by decide) rfl
  have z7 := hb 7 _ (by decide) rfl
  have z8 := hb 8 _ (by decide) rfl
  have z9 := hb 9 _ (by decide) rfl
  rw [Nat.add_zero] at x0
  obtain ⟨ml, eml⟩ : ∃ ml, a1.d.mem = ml := ⟨_, rfl⟩
  obtain ⟨m, em⟩ : ∃ m, ml.length = m := ⟨_, rfl⟩
  have hm16 : m ≤ 16 := by rw [← em, ← eml]; exact hIA.1
  have MB : Hid (∀ m ∈ ml, ∃ k : Nat, m.1 = (k : Int)) := hh (by rw [← eml]; exact hIA.2)
  rw [eml] at hPC hmem x1
  rw [em] at x1
  have ARC : Hid (∀ (W' : World) (g : Nat), g = W'.heap.size → Q V3 W' → Calls Tryz.prog 15 #[.slice (some ⟨g, 0, none⟩) 1 1, .int .i64 0] (W'.alloc (.cells #[.slice a1.aB a1.d.buses.length a1.cB, .slice a1.aM m a1.cM, .bool a1.d.mv] 64)) fun e w'' => ∃ g2, e = .returned (.slice (some ⟨g2, 0, none⟩) m m) ∧ Q (W'.alloc (.cells #[.slice a1.aB a1.d.buses.length a1.cB, .slice a1.aM m a1.cM, .bool a1.d.mv] 64)) w'' ∧ RdN w'' (some ⟨g2, 0, none⟩) m m .i64 (ml.map Prod.fst)) := hh fun W' g hg hqw => by
   have hsc : ScAt (W'.alloc (.cells #[.slice a1.aB a1.d.buses.length a1.cB, .slice a1.aM m a1.cM, .bool a1.d.mv] 64)) (some ⟨g, 0, none⟩) 1 [a1] := ⟨rdv_of_hb (HB.new _ _ _ _ hg) 1 1 3 _ (by simp [secC, eml, em]) rfl (by decide), fun a ha => by
    rw [List.mem_singleton] at ha
    subst ha
    rw [eml]
    exact hmem.q (.alloc hqw _)⟩
   have := around_c (some ⟨g, 0, none⟩) 1 [a1] 0 a1 _ hsc rfl (by rw [eml]; omega) (show 1 < 1000 by decide)
   rw [eml, em] at this
   exact this.mono fun e w'' ⟨g2, h1, h2, _, h3⟩ => ⟨g2, h1, h2, h3⟩
  have HM := hh em
  have HPCx := hh hPC
  have HTRx := hh hTR
  have k1' : (q : Int) < (n : Int) := by omega
  have k0' : (0 : Int) ≤ (q : Int) := by omega
  clear hc4 hc5 ha hb hPC hmem hIA hd hin ha1 ha2 et1 et2 em eml hTR
  go_wp2_with (first | (go_at_call 15; (with_reducible refine (ARC.o _ _ (by simp [World.size_jk]) (by repeat' (first | with_reducible exact Q.refl _ | refine Q.alloc ?_ _ | refine Q.jk ?_ _ | refine Q.drew ?_))).mono ?_); rintro e w' ⟨g, rfl, ⟨ka, rfl⟩, hrd⟩; have HRD := hh hrd; clear hrd) | fail)
  go_loopw [13, 91] (fun mb i wr => ∃ (j : Nat) (b : Bool), i = .int .i64 j ∧ mb = .bool b ∧ j ≤ m ∧ Hid (b = (ml.take j).any fun x => decide (x.1 = (k : Int))) ∧ Q (((V3.jk kk).alloc (Obj.cells #[.slice a1.aB a1.d.buses.length a1.cB, .slice a1.aM m a1.cM, .bool a1.d.mv] 64)).jk ka) wr) (fun _ i _ => m - (intOf i).toNat)
  case atStart => exact ⟨0, false, rfl, rfl, Nat.zero_le _, hh rfl, (by repeat' (first | exact Q.refl _ | refine Q.alloc ?_ _ | refine Q.jk ?_ _ | refine Q.drew ?_))⟩
  case round =>
   obtain ⟨j, b, rfl, rfl, hj, HBJ, k4, rfl⟩ := hrel
   by_cases hlj : j < m
   ·obtain ⟨mm, hmm⟩ : ∃ x, ml[j]? = some x := ⟨_, List.getElem?_eq_getElem (by rw [HM.o]; exact hlj)⟩
    obtain ⟨g9, o9, e9, og9, hc9⟩ := RdN.at_ HRD.o (by omega)
    cases e9
    have x11 := hc9.o j hlj
    rw [Nat.zero_add, List.getD_eq_getElem?_getD, List.getElem?_map, hmm] at x11
    simp only [Option.map_some, Option.getD_some] at x11
    have HTJ := hh (any_take_succ ml (fun x => decide (x.1 = (k : Int))) j mm hmm)
    have j0 : (0 : Int) ≤ (j : Int) := by omega
    have j1 : (j : Int) < (m : Int) := by omega
    obtain ⟨z, ez⟩ : ∃ z, mm.1 = z := ⟨_, rfl⟩
    rw [ez] at x11 HTJ
    clear hc9 hmm ez x0 x1 x2 x3 x4 x5 x6 x7 x8 x9 x10 z3 z4 z5 z6 z7 z8 z9 og4 og5
    cases b with
    | true =>
     go_wp2_with fail
     go_roundw
     case rel => exact ⟨j + 1, true, by go_num, rfl, by omega, hh (by rw [HTJ.o, ← HBJ.o]; rfl), Q.i⟩
     case measure => simp [intOf] <;> omega
    | false =>
     by_cases e : z = (k : Int)
     ·have e' : (z == (k : Int)) = true := by simpa using e
      go_wp2_with fail
      go_roundw
      case rel => exact ⟨j + 1, _, by go_num, rfl, by omega, hh (by rw [HTJ.o, ← HBJ.o]; simp [e]), Q.i⟩
      case measure => simp [intOf] <;> omega
     have e' : (z == (k : Int)) = false := by simpa using e
     go_wp2_with fail
     go_roundw
     case rel => exact ⟨j + 1, _, by go_num, rfl, by omega, hh (by rw [HTJ.o, ← HBJ.o]; simp [e]), Q.i⟩
     case measure => simp [intOf] <;> omega
   obtain rfl : m = j := by omega
   have hb : b = ml.any fun x => decide (x.1 = (k : Int)) := by rw [HBJ.o, List.take_of_length_le (by rw [HM.o]; exact Nat.le_refl _)]
   have hpc := HPCx.o
   rw [← hb] at hpc
   have htr := HTRx.o
   obtain ⟨gd, egd⟩ : ∃ x, t1.gd = x := ⟨_, rfl⟩
   obtain ⟨tr, etr⟩ : ∃ x, t1.tr = x := ⟨_, rfl⟩
   rw [egd] at x9 hpc htr
   rw [etr] at x10 htr
   have hw : tr = false ∨ (tr = true ∧ gd = true) := by
    cases tr with
    | false => exact .inl rfl
    | true => exact .inr ⟨rfl, htr rfl⟩
   clear htr egd etr hb HBJ HTRx HPCx
   cases b with
   | true =>
    clear hpc
    rcases hw with rfl | ⟨rfl, hgd⟩
    rotate_left
    ·rw [hgd] at x9
     clear hgd
     skip
     go_wp2_with fail
     try simp only [List.append]
     refine wrj (by kernel_rfl) ?_
     repeat (go_big_quiet_step (fail))
     refine wq0 fun kq => ?_
     go_wp2_with fail
     go_roundw
     case rel => exact ⟨q + 1, by go_num, by omega, Q.i⟩
     case measure => simp [intOf] <;> omega
    skip
    go_wp2_with fail
    try simp only [List.append]
    refine wrj (by kernel_rfl) ?_
    repeat (go_big_quiet_step (fail))
    refine wq0 fun kq => ?_
    go_wp2_with fail
    go_roundw
    case rel => exact ⟨q + 1, by go_num, by omega, Q.i⟩
    case measure => simp [intOf] <;> omega
   | false =>
    obtain ⟨hg, hpc⟩ := hpc rfl
    rw [← (hpc 0 (by decide)).1] at z3
    rw [← (hpc 1 (by decide)).1] at z4
    rw [← (hpc 2 (by decide)).1] at z5
    rw [← (hpc 0 (by decide)).2] at z6
    rw [← (hpc 1 (by decide)).2] at z7
    rw [← (hpc 2 (by decide)).2] at z8
    rw [← hg] at z9
    clear hpc hg
    rcases hw with rfl | ⟨rfl, hgd⟩
    rotate_left
    ·rw [hgd] at x9 z9
     clear hgd
     skip
     go_wp2_with fail
     try simp only [List.append]
     refine wrj (by kernel_rfl) ?_
     repeat (go_big_quiet_step (fail))
     refine wq0 fun kq => ?_
     go_wp2_with fail
     go_roundw
     case rel => exact ⟨q + 1, by go_num, by omega, Q.i⟩
     case measure => simp [intOf] <;> omega
    skip
    go_wp2_with fail
    try simp only [List.append]
    refine wrj (by kernel_rfl) ?_
    repeat (go_big_quiet_step (fail))
    refine wq0 fun kq => ?_
    go_wp2_with fail
    go_roundw
    case rel => exact ⟨q + 1, by go_num, by omega, Q.i⟩
    case measure => simp [intOf] <;> omega
end Go.Proofs.YtcjflafjmdfanaaGreatDoor
