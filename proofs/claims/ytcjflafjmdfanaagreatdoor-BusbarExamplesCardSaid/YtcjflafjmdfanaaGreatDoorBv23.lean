
/- What sections of package busbar returns. -/
import Derived.Test.YtcjflafjmdfanaaGreatDoorBv22
import Derived.Test.YtcjflafjmdfanaaGreatDoorBv20
set_option maxHeartbeats 64000000
set_option maxRecDepth 100000
set_option linter.unusedSimpArgs false
set_option linter.unusedVariables false
namespace Go.Sub
open Go
structure Prt where
 op : Nat → Bool
 bl : Nat → Bool
 gd : Bool
 tr : Bool
def trP (op bl O : Nat → Bool) (n : Nat) : Bool := (List.range n).any fun i => op i && !bl i && O i
theorem trP_succ (op bl O : Nat → Bool) (n : Nat) : trP op bl O (n + 1) = (trP op bl O n || (op n && !bl n && O n)) := by
 unfold trP
 rw [List.range_succ, List.any_append]
 simp
def prC (a : SecR) (t : Prt) : List Value := secC a ++ [.bool (t.op 0), .bool (t.op 1), .bool (t.op 2), .bool (t.bl 0), .bool (t.bl 1), .bool (t.bl 2), .bool t.gd, .bool t.tr]
def prQ (a : SecR) (op bl O : Nat → Bool) (n : Nat) : List Value := secC a ++ [.bool (decide (0 < n) && op 0), .bool (decide (1 < n) && op 1), .bool (decide (2 < n) && op 2), .bool (decide (0 < n) && bl 0), .bool (decide (1 < n) && bl 1), .bool (decide (2 < n) && bl 2), .bool true, .bool (trP op bl O n)]
theorem prQ_zero (a : SecR) (op bl O : Nat → Bool) : prQ a op bl O 0 = secC a ++ [.bool false, .bool false, .bool false, .bool false, .bool false, .bool false, .bool true, .bool false] := rfl
theorem prQ_three (a : SecR) (op bl O : Nat → Bool) : prQ a op bl O 3 = prC a ⟨op, bl, true, trP op bl O 3⟩ := rfl
theorem prQ_step (a : SecR) (op bl O : Nat → Bool) (n : Nat) (hn : n < 3) (F : Nat → Value) (b : Nat) (h : ∀ q, q < 11 → some (F (b + q)) = (prQ a op bl O n)[q]?) (ht : (op n && !bl n && O n) = false) :
  ∀ q, q < 11 → some (updF (updF F (b + (3 + n)) (.bool (op n))) (b + (6 + n)) (.bool (bl n)) (b + q)) = (prQ a op bl O (n + 1))[q]? := by
 intro q hq
 have hq' := h q hq
 have ht' : trP op bl O (n + 1) = trP op bl O n := by rw [trP_succ, ht, Bool.or_false]
 unfold prQ at hq' ⊢
 rw [ht']
 rcases (by omega : n = 0 ∨ n = 1 ∨ n = 2) with rfl | rfl | rfl <;>
  (rcases (by omega : q = 0 ∨ q = 1 ∨ q = 2 ∨ q = 3 ∨ q = 4 ∨ q = 5 ∨ q = 6 ∨ q = 7 ∨ q = 8 ∨ q = 9 ∨ q = 10) with rfl | rfl | rfl | rfl | rfl | rfl | rfl | rfl | rfl | rfl | rfl) <;>
  simp [updF, secC] at hq' ⊢ <;> assumption
theorem prQ_trip (a : SecR) (op bl O : Nat → Bool) (n : Nat) (hn : n < 3) (F : Nat → Value) (b : Nat) (h : ∀ q, q < 11 → some (F (b + q)) = (prQ a op bl O n)[q]?) (ht : (op n && !bl n && O n) = true) :
  ∀ q, q < 11 → some (updF (updF (updF F (b + (3 + n)) (.bool (op n))) (b + (6 + n)) (.bool (bl n))) (b + 10) (.bool true) (b + q)) = (prQ a op bl O (n + 1))[q]? := by
 intro q hq
 have hq' := h q hq
 have ht' : trP op bl O (n + 1) = true := by rw [trP_succ, ht, Bool.or_true]
 unfold prQ at hq' ⊢
 rw [ht']
 rcases (by omega : n = 0 ∨ n = 1 ∨ n = 2) with rfl | rfl | rfl <;>
  (rcases (by omega : q = 0 ∨ q = 1 ∨ q = 2 ∨ q = 3 ∨ q = 4 ∨ q = 5 ∨ q = 6 ∨ q = 7 ∨ q = 8 ∨ q = 9 ∨ q = 10) with rfl | rfl | rfl | rfl | rfl | rfl | rfl | rfl | rfl | rfl | rfl) <;>
  simp [updF, secC] at hq' ⊢ <;> assumption
end Go.Sub
namespace Go.Proofs.YtcjflafjmdfanaaGreatDoor
open Go.RowKit Go.Sub
attribute [local go_sem ↓] Go.wp_at_zero Go.wp_at_succ
def prS (s : Sta) (W : List Int) (G : List Bool) (r : Rel) (x : Sec) : Prt :=
 if cpB G x.mem = true then ⟨opM s W r x.mem, dsM W r.hm x.mem, true, trP (opM s W r x.mem) (dsM W r.hm x.mem) (ovO s W G r) 3⟩ else ⟨fun _ => false, fun _ => false, false, false⟩
theorem imF_prop (s : Sta) (p : Pos) (gl : List Int) (n : Nat) (hY : s.bays.length ≤ 16) : ∀ x ∈ imF s p gl n, x.mem.length ≤ 16 ∧ x.buses.length ≤ s.buses.length ∧ ∀ m ∈ x.mem, ∃ k : Nat, m.1 = (k : Int) ∧ k < s.bays.length := by
 intro x hx
 unfold imF at hx
 obtain ⟨k, _, rfl⟩ := List.mem_map.1 hx
 unfold imS
 refine ⟨?_, busF_len _ _ _, fun m hm => ?_⟩
 ·have := bdI_len s (rsP p) gl k s.bays.length
  simp only [memF, List.length_map]
  omega
 unfold memF at hm
 obtain ⟨b, hb, rfl⟩ := List.mem_map.1 hm
 unfold bdI at hb
 obtain ⟨j, hj, rfl⟩ := List.mem_map.1 hb
 unfold bdN at hj
 exact ⟨j, rfl, List.mem_range.1 (List.mem_filter.1 hj).1⟩
def PrAt (w : World) (A : Option Addr) (c : Nat) (rs : List SecR) (f : Sec → Prt) : Prop := RdV w A rs.length c 11 (rs.flatMap fun a => prC a (f a.d)) ∧ ∀ a ∈ rs, RdN w a.aB a.d.buses.length a.cB .i64 a.d.buses ∧ RdV w a.aM a.d.mem.length a.cM 2 (a.d.mem.flatMap mmC)
def RetPr (l : List Sec) (f : Sec → Prt) (w : World) (e : Ending) (w' : World) : Prop := ∃ A c rs, e = .returned (.tuple #[.slice A rs.length c, .int .i64 0]) ∧ Q w w' ∧ rs.map SecR.d = l ∧ PrAt w' A c rs f
theorem rdsec_of_row {W0 w : World} {A : Option Addr} {n c : Nat} {rs : List SecR} (h : SecsAt W0 w (.slice A n c) rs) (hl : rs.length = n) : RdV w A n c 3 (rs.flatMap secC) := by
 subst hl
 obtain ⟨A', c', e, hr⟩ := rdv_of_own h.1 (by rw [secC_len])
 injection e with e1 e2 e3
 subst e1 e3
 exact hr
theorem sec_at {w : World} {A : Option Addr} {n c : Nat} {rs : List SecR} (h : RdV w A n c 3 (rs.flatMap secC)) (hn : 0 < n) : ∃ g o, A = some ⟨g, o, none⟩ ∧ Old g w ∧ Hid (∀ k a, rs[k]? = some a → w.cell? ⟨g, o + k * 3, none⟩ = some (.slice a.aB a.d.buses.length a.cB) ∧ w.cell? ⟨g, o + k * 3 + 1, none⟩ = some (.slice a.aM a.d.mem.length a.cM) ∧ w.cell? ⟨g, o + k * 3 + 2, none⟩ = some (.bool a.d.mv)) := by
 obtain ⟨g, o, e, ho, hc⟩ := h.at_ hn
 refine ⟨g, o, e, ho, hh fun k a ha => ⟨?_, ?_, ?_⟩⟩
 ·exact hc.o (k * 3) _ (by rw [show k * 3 = k * 3 + 0 from rfl, secC_get rs k 0 a ha (by decide)]; rfl)
 ·rw [Nat.add_assoc]
  exact hc.o (k * 3 + 1) _ (by rw [secC_get rs k 1 a ha (by decide)]; rfl)
 rw [Nat.add_assoc]
 exact hc.o (k * 3 + 2) _ (by rw [secC_get rs k 2 a ha (by decide)]; rfl)
theorem prC_len (rs : List SecR) (f : Sec → Prt) : (rs.flatMap fun a => prC a (f a.d)).length = rs.length * 11 := by
 induction rs with
 | nil => rfl
 | cons c l ih =>
  rw [List.flatMap_cons, List.length_append, ih]
  simp only [prC, secC, List.length_append, List.length_cons, List.length_nil]
  omega
theorem prC_get (rs : List SecR) (f : Sec → Prt) (k j : Nat) (a : SecR) (h : rs[k]? = some a) (hj : j < 11) : (rs.flatMap fun a => prC a (f a.d))[k * 11 + j]? = (prC a (f a.d))[j]? := by
 induction rs generalizing k with
 | nil => simp at h
 | cons d l ih =>
  rw [List.flatMap_cons]
  have e0 : (prC d (f d.d)).length = 11 := rfl
  cases k with
  | zero =>
   simp only [List.getElem?_cons_zero, Option.some.injEq] at h
   subst h
   rw [List.getElem?_append_left (by rw [e0]; omega), Nat.zero_mul, Nat.zero_add]
  | succ k =>
   simp only [List.getElem?_cons_succ] at h
   rw [List.getElem?_append_right (by rw [e0]; omega)]
   have e : (k + 1) * 11 + j - (prC d (f d.d)).length = k * 11 + j := by rw [e0]; omega
   rw [e]
   exact ih k h
theorem prAt_of {w : World} {g : Nat} {F : Nat → Value} {rs : List SecR} {f : Sec → Prt} (hb : HB w g (arrF F (rs.length * 11)) 67) (hF : ∀ j a q, rs[j]? = some a → q < 11 → some (F (j * 11 + q)) = (prC a (f a.d))[q]?) : RdV w (some ⟨g, 0, none⟩) rs.length rs.length 11 (rs.flatMap fun a => prC a (f a.d)) := by
 refine ⟨prC_len rs f, Nat.le_refl _, fun hn => ⟨g, 0, rfl, hb.lt, fun i u hi => ?_⟩, fun e => by cases e⟩
 have hlt : i < rs.length * 11 := by rw [← prC_len rs f]; exact (List.getElem?_eq_some_iff.1 hi).1
 obtain ⟨a, ha⟩ : ∃ a, rs[i / 11]? = some a := ⟨_, List.getElem?_eq_getElem (by omega)⟩
 have e : i / 11 * 11 + i % 11 = i := by omega
 have h1 := hF (i / 11) a (i % 11) ha (by omega)
 rw [e] at h1
 have h2 := prC_get rs f (i / 11) (i % 11) a ha (by omega)
 rw [e, hi] at h2
 rw [hb.cell, Nat.zero_add, arrF_get F hlt, h1, h2]
theorem infoPro : ∃ i, Tryz.prog.info? 67 = some i ∧ i.zero = some (.agg #[.slice none 0 0, .slice none 0 0, .bool false, .bool false, .bool false, .bool false, .bool false, .bool false, .bool false, .bool false, .bool false]) ∧ i.size = 11 ∧ i.bytes = 64 := by
 have h : (Tryz.prog.info? 67).map (fun i => (i.zero, i.size, i.bytes)) = some (some (.agg #[.slice none 0 0, .slice none 0 0, .bool false, .bool false, .bool false, .bool false, .bool false, .bool false, .bool false, .bool false, .bool false]), 11, 64) := by kernel_rfl
 cases hi : Tryz.prog.info? 67 with
 | none => rw [hi] at h; cases h
 | some i =>
  rw [hi] at h
  simp only [Option.map_some, Option.some.injEq, Prod.mk.injEq] at h
  exact ⟨i, rfl, h.1, h.2.1, h.2.2⟩
def prZ : Array Value := #[.slice none 0 0, .slice none 0 0, .bool false, .bool false, .bool false, .bool false, .bool false, .bool false, .bool false, .bool false, .bool false]
theorem make_pro (w : World) (n : Nat) (hn : n < 1000) : (Instr.makeSlice 58 (.int .i64 n) (.int .i64 n)).run Tryz.prog w = .ok (.slice (some ⟨w.heap.size, 0, none⟩) n n) (w.alloc (.cells (arrF (fun j => prZ[j % 11]!) (n * 11)) 67)) := by
 obtain ⟨i, hi, hz, hs1, hb⟩ := infoPro
 have := run_makeSlice (P := Tryz.prog) w 58 67 i _ Tryz.underlying58 hi hz .i64 .i64 n n (by omega) (by omega) (by rw [hs1]; omega) (by rw [hb]; omega) (by omega)
 rw [this, hs1, madeCells_arrF, Int.toNat_natCast]
 rfl
theorem sections_c (s : Sta) (p : Pos) (cs : Array Value) (r : Rel) [hR : RelC cs r] (aW : Option Addr) (cW : Nat) (W : List Int) (aG : Option Addr) (cG : Nat) (G : List Bool) (w : World) (hr : RootsOK w) (h : GoodAt w s p) (hW : WvAt w aW s.bays.length cW W) (hG : GdAt w aG s.bays.length cG G) (hu : usB r = true) (hw : WvOK W G s.bays.length) :
  Calls Tryz.prog 20 #[.agg #[Value.string s.nm, Value.slice s.aB s.buses.length s.cB, Value.slice s.aL s.lines.length s.cL, Value.slice s.aS s.srcs.length s.cS, Value.slice s.aY s.bays.length s.cY], .agg #[Value.slice p.aC p.closed.length p.cC, Value.slice p.aK p.rows.length p.cK], .agg cs, .slice aW s.bays.length cW, .slice aG s.bays.length cG] w (RetPr (imI s p) (prS s W G r) w) := by
 have hlens := h.lens
 have OFC := hh fun (w' : World) (hq : Q w w') => of_c s p w' (h.q hq)
 unfold RetIm at OFC
 have OVC := hh fun (w' : World) (hq : Q w w') (hr : RootsOK w') => overall_c s cs r aW cW W aG cG G w' hr (h.st.q hq) h.e1 (hW.q hq) (hG.q hq) hu hw
 have CPC := hh fun (w' : World) (hq : Q w w') (A : Option Addr) (n c : Nat) (ml : List (Int × Int)) (hm : RdV w' A n c 2 (ml.flatMap mmC)) (hn : n < 1000) (hb : ∀ m ∈ ml, ∃ k : Nat, m.1 = (k : Int) ∧ k < s.bays.length) => complete_c A n c ml aG s.bays.length cG G w' hm (hG.q hq) hn hb
 have HMO : Hid (∀ ml : List (Int × Int), cpB G ml = true → (∀ m ∈ ml, ∃ k : Nat, m.1 = (k : Int) ∧ k < s.bays.length) → ∀ m ∈ ml, ∃ k y, MemOK s W s.bays.length m k y) := hh fun ml hc hb m hm => by
  obtain ⟨k, e, hk⟩ := hb m hm
  have hg := cpB_mem hc hm
  rw [e, Int.toNat_natCast] at hg
  exact memOK_of h.e1 hw e hk hg
 have OPC := hh fun (w' : World) (hq : Q w w') (hr : RootsOK w') (A : Option Addr) (n c : Nat) (ml : List (Int × Int)) (hm : RdV w' A n c 2 (ml.flatMap mmC)) (hn : n ≤ 16) (ph : Nat) (hp : ph < 3) (hc : cpB G ml = true) (hb : ∀ m ∈ ml, ∃ k : Nat, m.1 = (k : Int) ∧ k < s.bays.length) => operates_c s cs r aW s.bays.length cW W A n c ml ph w' hr (h.st.q hq) (hW.q hq) hm hn hp hu (HMO.o ml hc hb) (by omega)
 have DSC := hh fun (w' : World) (hq : Q w w') (hr : RootsOK w') (A : Option Addr) (n c : Nat) (ml : List (Int × Int)) (hm : RdV w' A n c 2 (ml.flatMap mmC)) (hn : n ≤ 16) (ph : Nat) (hp : ph < 3) (hc : cpB G ml = true) (hb : ∀ m ∈ ml, ∃ k : Nat, m.1 = (k : Int) ∧ k < s.bays.length) => distorted_c s cs r aW s.bays.length cW W A n c ml ph w' hr (hW.q hq) hm (by omega) hp hu (HMO.o ml hc hb)
 have HIP : Hid (∀ x ∈ imI s p, x.mem.length ≤ 16 ∧ x.buses.length ≤ s.buses.length ∧ ∀ m ∈ x.mem, ∃ k : Nat, m.1 = (k : Int) ∧ k < s.bays.length) := hh (imF_prop s p _ _ (by omega))
 have HIL : (imI s p).length ≤ 4 := by
  have := imF_len s p (grI s (rsP p)) s.buses.length
  unfold imI
  omega
 have HPS : Hid (∀ x, prS s W G r x = if cpB G x.mem = true then ⟨opM s W r x.mem, dsM W r.hm x.mem, true, trP (opM s W r x.mem) (dsM W r.hm x.mem) (ovO s W G r) 3⟩ else ⟨fun _ => false, fun _ => false, false, false⟩) := hh fun x => rfl
 generalize prS s W G r = PS at HPS ⊢
 generalize ovO s W G r = O at HPS OVC
 generalize imI s p = IM at OFC HIP HIL ⊢
 obtain ⟨aY, eaY⟩ : ∃ a, s.aY = a := ⟨_, rfl⟩
 obtain ⟨nY, eY⟩ : ∃ n, s.bays.length = n := ⟨_, rfl⟩
 obtain ⟨n, en⟩ : ∃ n, IM.length = n := ⟨_, rfl⟩
 rw [eaY, eY] at OFC OVC OPC
 rw [eY] at CPC DSC HIP HMO hlens
 rw [en] at OFC HIL
 rw [eaY, eY]
 unfold RetPr
 obtain ⟨o0, eo0⟩ : ∃ b, O 0 = b := ⟨_, rfl⟩
 obtain ⟨o1, eo1⟩ : ∃ b, O 1 = b := ⟨_, rfl⟩
 obtain ⟨o2, eo2⟩ : ∃ b, O 2 = b := ⟨_, rfl⟩
 rw [eo0, eo1, eo2] at OVC
 have EO0 := hh eo0
 have EO1 := hh eo1
 have EO2 := hh eo2
 have hY16 : nY ≤ 16 := by omega
 have EN := hh en
 have hmk := fun w => make_pro w n (by omega)
 clear h hW hG hu hw eaY eY hlens en HMO eo0 eo1 eo2
 go_enter Tryz.func20, Tryz.ntmps20
 go_wp2_with (first | (go_at_call 35; (with_reducible refine (OFC.o _ Q.i).mono ?_); rintro e w' ⟨A, c, rs, rfl, ⟨k1, rfl⟩, hsec, hd⟩; have HSEC := hh hsec; have HD := hh hd; clear hsec hd) | (go_at_call 31; (with_reducible refine (OVC.o _ Q.i (hr.q Q.i)).q ?_); intro k2) | fail)
 have hrs : rs.length = n := by rw [← List.length_map (f := SecR.d), HD.o, EN.o]
 have HRS := hh (rdsec_of_row HSEC.o hrs)
 have HBU : Hid (∀ a ∈ rs, RdN ((((w.alloc (Obj.cells #[Value.string s.nm, Value.slice s.aB s.buses.length s.cB, Value.slice s.aL s.lines.length s.cL, Value.slice s.aS s.srcs.length s.cS, Value.slice aY nY s.cY] 27)).alloc (Obj.cells #[Value.slice p.aC p.closed.length p.cC, Value.slice p.aK p.rows.length p.cK] 31)).alloc (Obj.cells cs 44)).jk k1) a.aB a.d.buses.length a.cB .i64 a.d.buses ∧ RdV ((((w.alloc (Obj.cells #[Value.string s.nm, Value.slice s.aB s.buses.length s.cB, Value.slice s.aL s.lines.length s.cL, Value.slice s.aS s.srcs.length s.cS, Value.slice aY nY s.cY] 27)).alloc (Obj.cells #[Value.slice p.aC p.closed.length p.cC, Value.slice p.aK p.rows.length p.cK] 31)).alloc (Obj.cells cs 44)).jk k1) a.aM a.d.mem.length a.cM 2 (a.d.mem.flatMap mmC)) := hh fun a ha => ⟨rdn_of_row (HSEC.o.2 a ha).1 rfl, rdm_of_row (HSEC.o.2 a ha).2 rfl⟩
 go_loopw [49] (fun i wr => ∃ (k : Nat) (F : Nat → Value), i = .int .i64 k ∧ k ≤ n ∧ Q (((((((w.alloc (Obj.cells #[Value.string s.nm, Value.slice s.aB s.buses.length s.cB, Value.slice s.aL s.lines.length s.cL, Value.slice s.aS s.srcs.length s.cS, Value.slice aY nY s.cY] 27)).alloc (Obj.cells #[Value.slice p.aC p.closed.length p.cC, Value.slice p.aK p.rows.length p.cK] 31)).alloc (Obj.cells cs 44)).jk k1).jk k2).alloc (Obj.cells #[.bool o0, .bool o1, .bool o2] 65)).alloc (Obj.cells (arrF F (n * 11)) 67)) wr ∧ Hid (∀ j a q, j < k → rs[j]? = some a → q < 11 → some (F (j * 11 + q)) = (prC a (PS a.d))[q]?) ∧ Hid (∀ j, k * 11 ≤ j → F j = prZ[j % 11]!)) (fun i _ => n - (intOf i).toNat)
 case atStart => exact ⟨0, _, rfl, Nat.zero_le _, (by repeat' (first | exact Q.refl _ | refine Q.alloc ?_ _ | refine Q.jk ?_ _ | refine Q.drew ?_)), hh (fun j a q hj => absurd hj (Nat.not_lt_zero _)), hh (fun j _ => rfl)⟩
 case round =>
  obtain ⟨k, F, rfl, hk, ⟨kk, rfl⟩, HF, HZ⟩ := hrel
  by_cases hlt : k < n
  rotate_left
  ·obtain rfl : n = k := by omega
   clear OPC DSC CPC OFC OVC
   subst hrs
   have HRE : Hid (∀ w', Q ((((((((w.alloc (Obj.cells #[Value.string s.nm, Value.slice s.aB s.buses.length s.cB, Value.slice s.aL s.lines.length s.cL, Value.slice s.aS s.srcs.length s.cS, Value.slice aY nY s.cY] 27)).alloc (Obj.cells #[Value.slice p.aC p.closed.length p.cC, Value.slice p.aK p.rows.length p.cK] 31)).alloc (Obj.cells cs 44)).jk k1).jk k2).alloc (Obj.cells #[.bool o0, .bool o1, .bool o2] 65)).alloc (Obj.cells (arrF F (rs.length * 11)) 67)).jk kk) w' → PrAt w' (some ⟨w.heap.size + 1 + 1 + 1 + k1.os.size + k2.os.size + 1, 0, none⟩) rs.length rs PS) := hh fun w' hq => ⟨prAt_of (HB.q ((HB.new _ _ _ _ (by simp [World.size_jk])).jk kk) hq) fun j a q ha hq => HF.o j a q (List.getElem?_eq_some_iff.1 ha).1 ha hq, fun a ha => ⟨(HBU.o a ha).1.q (Q.trans Q.i hq), (HBU.o a ha).2.q (Q.trans Q.i hq)⟩⟩
   go_wp2_with fail
   go_ret2
   exact ⟨_, _, rs, rfl, Q.i, HD.o, HRE.o _ Q.i⟩
  obtain ⟨a, ha⟩ : ∃ a, rs[k]? = some a := ⟨_, List.getElem?_eq_getElem (by omega)⟩
  have ham := List.mem_of_getElem? ha
  obtain ⟨g4, o4, rfl, og4, hc4⟩ := sec_at HRS.o (by omega)
  obtain ⟨x1, x2, x3⟩ := hc4.o k a ha
  have HMA := hh (HBU.o a ham).2
  obtain ⟨b1, b2, b3⟩ := HIP.o a.d (by rw [← HD.o]; exact List.mem_map_of_mem ham)
  have HMB := hh b3
  have HA := hh ha
  have HPA := hh (HPS.o a.d)
  obtain ⟨m, em⟩ : ∃ m, a.d.mem.length = m := ⟨_, rfl⟩
  have EM := hh em
  rw [em] at x2 HMA b1
  obtain ⟨aM, eaM⟩ : ∃ m, a.aM = m := ⟨_, rfl⟩
  have EAM := hh eaM
  rw [eaM] at x2 HMA
  obtain ⟨cM, ecM⟩ : ∃ m, a.cM = m := ⟨_, rfl⟩
  have ECM := hh ecM
  rw [ecM] at x2 HMA
  have CPA := hh fun w' hq hm => CPC.o w' hq aM m cM a.d.mem hm (by omega) HMB.o
  have OPA := hh fun w' hq hr hm ph hp hc => OPC.o w' hq hr aM m cM a.d.mem hm b1 ph hp hc HMB.o
  have DSA := hh fun w' hq hr hm ph hp hc => DSC.o w' hq hr aM m cM a.d.mem hm b1 ph hp hc HMB.o
  have k0 : (0 : Int) ≤ (k : Int) := by omega
  have k1' : (k : Int) < (n : Int) := by omega
  have hsz : (arrF F (n * 11)).size = n * 11 := arrF_size _ _
  have hN : k * 11 + 10 < n * 11 := by omega
  have hN9 : k * 11 + 9 < n * 11 := by omega
  have z0 : F (k * 11) = .slice none 0 0 := by rw [HZ.o _ (by omega), show (k * 11) % 11 = 0 by omega]; rfl
  have z1 : F (k * 11 + 1) = .slice none 0 0 := by rw [HZ.o _ (by omega), show (k * 11 + 1) % 11 = 1 by omega]; rfl
  have z2 : F (k * 11 + 2) = .bool false := by rw [HZ.o _ (by omega), show (k * 11 + 2) % 11 = 2 by omega]; rfl
  have z3 : F (k * 11 + 3) = .bool false := by rw [HZ.o _ (by omega), show (k * 11 + 3) % 11 = 3 by omega]; rfl
  have z4 : F (k * 11 + 4) = .bool false := by rw [HZ.o _ (by omega), show (k * 11 + 4) % 11 = 4 by omega]; rfl
  have z5 : F (k * 11 + 5) = .bool false := by rw [HZ.o _ (by omega), show (k * 11 + 5) % 11 = 5 by omega]; rfl
  have z6 : F (k * 11 + 6) = .bool false := by rw [HZ.o _ (by omega), show (k * 11 + 6) % 11 = 6 by omega]; rfl
  have z7 : F (k * 11 + 7) = .bool false := by rw [HZ.o _ (by omega), show (k * 11 + 7) % 11 = 7 by omega]; rfl
  have z8 : F (k * 11 + 8) = .bool false := by rw [HZ.o _ (by omega), show (k * 11 + 8) % 11 = 8 by omega]; rfl
  have z9 : F (k * 11 + 9) = .bool false := by rw [HZ.o _ (by omega), show (k * 11 + 9) % 11 = 9 by omega]; rfl
  have z10 : F (k * 11 + 10) = .bool false := by rw [HZ.o _ (by omega), show (k * 11 + 10) % 11 = 10 by omega]; rfl
  have e0 : (arrF F (n * 11))[k * 11]? = some (.slice none 0 0) := by rw [arrF_get F (by omega), z0]
  have e1 : (arrF F (n * 11))[k * 11 + 1]? = some (.slice none 0 0) := by rw [arrF_get F (by omega), z1]
  have e2 : (arrF F (n * 11))[k * 11 + 2]? = some (.bool false) := by rw [arrF_get F (by omega), z2]
  have e3 : (arrF F (n * 11))[k * 11 + 3]? = some (.bool false) := by rw [arrF_get F (by omega), z3]
  have e4 : (arrF F (n * 11))[k * 11 + 4]? = some (.bool false) := by rw [arrF_get F (by omega), z4]
  have e5 : (arrF F (n * 11))[k * 11 + 5]? = some (.bool false) := by rw [arrF_get F (by omega), z5]
  have e6 : (arrF F (n * 11))[k * 11 + 6]? = some (.bool false) := by rw [arrF_get F (by omega), z6]
  have e7 : (arrF F (n * 11))[k * 11 + 7]? = some (.bool false) := by rw [arrF_get F (by omega), z7]
  have e8 : (arrF F (n * 11))[k * 11 + 8]? = some (.bool false) := by rw [arrF_get F (by omega), z8]
  have e9 : (arrF F (n * 11))[k * 11 + 9]? = some (.bool false) := by rw [arrF_get F (by omega), z9]
  have e10 : (arrF F (n * 11))[k * 11 + 10]? = some (.bool false) := by rw [arrF_get F (by omega), z10]
  clear b3 ha ham em eaM ecM hc4
  obtain ⟨C, eC⟩ : ∃ C, cpB G a.d.mem = C := ⟨_, rfl⟩
  rw [eC] at CPA HPA OPA DSA
  have EC := hh eC
  clear eC
  cases C with
  | false =>
   have HPB := hh (HPA.o.trans (if_neg (by decide)))
   clear HPA OPA DSA
   go_wp2_with (first | (go_at_call 36; (with_reducible refine (CPA.o _ Q.i (HMA.o.q Q.i)).q ?_); intro kc) | fail)
   go_roundw
   case rel =>
    simp only [arrF_set]
    refine ⟨k + 1, _, by go_num, by omega, (by repeat' (first | exact Q.refl _ | refine Q.alloc ?_ _ | refine Q.jk ?_ _ | refine Q.drew ?_)), hh (fun j a' q hj ha' hq => ?_), hh (fun j hj => ?_)⟩
    ·by_cases e : j = k
     rotate_left
     ·rw [updF_other _ _ (by omega), updF_other _ _ (by omega), updF_other _ _ (by omega), updF_other _ _ (by omega)]
      exact HF.o j a' q (by omega) ha' hq
     subst e
     rw [HA.o] at ha'
     obtain rfl := Option.some.inj ha'
     rw [HPB.o]
     rcases (by omega : q = 0 ∨ q = 1 ∨ q = 2 ∨ q = 3 ∨ q = 4 ∨ q = 5 ∨ q = 6 ∨ q = 7 ∨ q = 8 ∨ q = 9 ∨ q = 10) with rfl | rfl | rfl | rfl | rfl | rfl | rfl | rfl | rfl | rfl | rfl <;> simp [updF, prC, secC, z3, z4, z5, z6, z7, z8, z10, EM.o, EAM.o, ECM.o]
    rw [updF_other _ _ (by omega), updF_other _ _ (by omega), updF_other _ _ (by omega), updF_other _ _ (by omega)]
    exact HZ.o j (by omega)
   case measure => simp [intOf] <;> omega
  | true =>
   have HPB := hh (HPA.o.trans (if_pos rfl))
   clear HPA
   obtain ⟨op, eop⟩ : ∃ f, opM s W r a.d.mem = f := ⟨_, rfl⟩
   obtain ⟨bl, ebl⟩ : ∃ f, dsM W r.hm a.d.mem = f := ⟨_, rfl⟩
   rw [eop] at HPB OPA
   rw [ebl] at HPB DSA
   go_wp2_with (first | (go_at_call 36; (with_reducible refine (CPA.o _ Q.i (HMA.o.q Q.i)).q ?_); intro kc) | fail)
   simp only [arrF_set]
   clear CPA eop ebl e0 e1 e2 e3 e4 e5 e6 e7 e8 e9 e10 hsz hN hN9
   go_loopw [73] (fun i wr => ∃ (ph : Nat) (F2 : Nat → Value), i = .int .i64 ph ∧ ph ≤ 3 ∧ Q ((((((((((w.alloc (Obj.cells #[Value.string s.nm, Value.slice s.aB s.buses.length s.cB, Value.slice s.aL s.lines.length s.cL, Value.slice s.aS s.srcs.length s.cS, Value.slice aY nY s.cY] 27)).alloc (Obj.cells #[Value.slice p.aC p.closed.length p.cC, Value.slice p.aK p.rows.length p.cK] 31)).alloc (Obj.cells cs 44)).jk k1).jk k2).alloc (Obj.cells #[.bool o0, .bool o1, .bool o2] 65)).alloc (Obj.cells (arrF F2 (n * 11)) 67)).jk kk).alloc (Obj.cells #[Value.slice a.aB a.d.buses.length a.cB, Value.slice aM m cM, Value.bool a.d.mv] 64)).jk kc) wr ∧ Hid (∀ q, q < 11 → some (F2 (k * 11 + q)) = (prQ a op bl O ph)[q]?) ∧ Hid (∀ j, j < k * 11 ∨ k * 11 + 11 ≤ j → F2 j = F j)) (fun i _ => 3 - (intOf i).toNat)
   case atStart =>
    refine ⟨0, _, rfl, Nat.zero_le _, (by repeat' (first | exact Q.refl _ | refine Q.alloc ?_ _ | refine Q.jk ?_ _ | refine Q.drew ?_)), hh (fun q hq => ?_), hh (fun j hj => ?_)⟩
    ·rw [prQ_zero]
     rcases (by omega : q = 0 ∨ q = 1 ∨ q = 2 ∨ q = 3 ∨ q = 4 ∨ q = 5 ∨ q = 6 ∨ q = 7 ∨ q = 8 ∨ q = 9 ∨ q = 10) with rfl | rfl | rfl | rfl | rfl | rfl | rfl | rfl | rfl | rfl | rfl <;> simp [updF, secC, z3, z4, z5, z6, z7, z8, z10, EM.o, EAM.o, ECM.o]
    rw [updF_other _ _ (by omega), updF_other _ _ (by omega), updF_other _ _ (by omega), updF_other _ _ (by omega)]
   case round =>
    obtain ⟨ph, F2, rfl, hph, ⟨k3, rfl⟩, HF2, HF3⟩ := hrel
    by_cases hlp : ph < 3
    rotate_left
    ·obtain rfl : ph = 3 := by omega
     clear OPA DSA OPC DSC CPC OFC OVC
     go_wp2_with fail
     go_roundw
     case rel =>
      refine ⟨k + 1, F2, by go_num, by omega, Q.i, hh (fun j a' q hj ha' hq => ?_), hh (fun j hj => ?_)⟩
      ·by_cases e : j = k
       rotate_left
       ·rw [HF3.o _ (by omega)]
        exact HF.o j a' q (by omega) ha' hq
       subst e
       rw [HA.o] at ha'
       obtain rfl := Option.some.inj ha'
       rw [HPB.o, HF2.o q hq, prQ_three]
      rw [HF3.o _ (by omega)]
      exact HZ.o j (by omega)
     case measure => simp [intOf] <;> omega
    have v3 : some (F2 (k * 11 + 3)) = (prQ a op bl O ph)[3]? := HF2.o 3 (by decide)
    have v4 : some (F2 (k * 11 + 4)) = (prQ a op bl O ph)[4]? := HF2.o 4 (by decide)
    have v5 : some (F2 (k * 11 + 5)) = (prQ a op bl O ph)[5]? := HF2.o 5 (by decide)
    have v6 : some (F2 (k * 11 + 6)) = (prQ a op bl O ph)[6]? := HF2.o 6 (by decide)
    have v7 : some (F2 (k * 11 + 7)) = (prQ a op bl O ph)[7]? := HF2.o 7 (by decide)
    have v8 : some (F2 (k * 11 + 8)) = (prQ a op bl O ph)[8]? := HF2.o 8 (by decide)
    have v10 : some (F2 (k * 11 + 10)) = (prQ a op bl O ph)[10]? := HF2.o 10 (by decide)
    have e3 : (arrF F2 (n * 11))[k * 11 + 3]? = some (F2 (k * 11 + 3)) := arrF_get F2 (by omega)
    have e4 : (arrF F2 (n * 11))[k * 11 + 4]? = some (F2 (k * 11 + 4)) := arrF_get F2 (by omega)
    have e5 : (arrF F2 (n * 11))[k * 11 + 5]? = some (F2 (k * 11 + 5)) := arrF_get F2 (by omega)
    have e6 : (arrF F2 (n * 11))[k * 11 + 6]? = some (F2 (k * 11 + 6)) := arrF_get F2 (by omega)
    have e7 : (arrF F2 (n * 11))[k * 11 + 7]? = some (F2 (k * 11 + 7)) := arrF_get F2 (by omega)
    have e8 : (arrF F2 (n * 11))[k * 11 + 8]? = some (F2 (k * 11 + 8)) := arrF_get F2 (by omega)
    have e10 : (arrF F2 (n * 11))[k * 11 + 10]? = some (F2 (k * 11 + 10)) := arrF_get F2 (by omega)
    clear v3 v4 v5 v6 v7 v8 v10
    have OPB := hh fun w' hq hr hm => OPA.o w' hq hr hm ph hlp (by first | rfl | trivial)
    have DSB := hh fun w' hq hr hm => DSA.o w' hq hr hm ph hlp (by first | rfl | trivial)
    have ST0 := hh (prQ_step a op bl O ph hlp F2 (k * 11) HF2.o)
    have ST1 := hh (prQ_trip a op bl O ph hlp F2 (k * 11) HF2.o)
    rcases (by omega : ph = 0 ∨ ph = 1 ∨ ph = 2) with rfl | rfl | rfl
    ·obtain ⟨ob, eob⟩ : ∃ b, op 0 = b := ⟨_, rfl⟩
     obtain ⟨bb, ebb⟩ : ∃ b, bl 0 = b := ⟨_, rfl⟩
     rw [eob] at ST0 ST1 OPB
     rw [ebb] at ST0 ST1 DSB
     have OPE : Hid (∀ w', Q w w' → RootsOK w' → RdV w' aM m cM 2 (a.d.mem.flatMap mmC) → Calls Tryz.prog 37 #[.agg #[Value.string s.nm, Value.slice s.aB s.buses.length s.cB, Value.slice s.aL s.lines.length s.cL, Value.slice s.aS s.srcs.length s.cS, Value.slice aY nY s.cY], .agg cs, .slice aW nY cW, .slice aM m cM, .int .i64 0] w' fun e w'' => e = .returned (.tuple #[.bool ob, .int .i64 0]) ∧ Q w' w'') := hh fun w' hq hr hm => OPB.o w' hq hr hm
     have DSE : Hid (∀ w', Q w w' → RootsOK w' → RdV w' aM m cM 2 (a.d.mem.flatMap mmC) → Calls Tryz.prog 38 #[.agg cs, .slice aW nY cW, .slice aM m cM, .int .i64 0] w' fun e w'' => e = .returned (.tuple #[.bool bb, .int .i64 0]) ∧ Q w' w'') := hh fun w' hq hr hm => DSB.o w' hq hr hm
     clear OPB DSB OPA DSA OPC DSC CPC OFC OVC
     have EOB := hh eob
     have EBB := hh ebb
     clear eob ebb
     cases ob with
     | false =>
      go_wp2_with (first | (go_at_call 37; (with_reducible refine (OPE.o _ Q.i (hr.q Q.i) (HMA.o.q Q.i)).q ?_); intro k4) | (go_at_call 38; (with_reducible refine (DSE.o _ Q.i (hr.q Q.i) (HMA.o.q Q.i)).q ?_); intro k5) | fail)
      go_region
      go_wp2_with fail
      go_roundw
      case rel =>
       simp only [arrF_set]
       refine ⟨1, _, rfl, by decide, (by repeat' (first | exact Q.refl _ | refine Q.alloc ?_ _ | refine Q.jk ?_ _ | refine Q.drew ?_)), hh (ST0.o (by rw [EO0.o]; simp)), hh (fun j hj => ?_)⟩
       rw [updF_other _ _ (by omega), updF_other _ _ (by omega)]
       exact HF3.o j hj
      case measure => simp [intOf] <;> omega
     | true =>
      cases bb with
      | true =>
       go_wp2_with (first | (go_at_call 37; (with_reducible refine (OPE.o _ Q.i (hr.q Q.i) (HMA.o.q Q.i)).q ?_); intro k4) | (go_at_call 38; (with_reducible refine (DSE.o _ Q.i (hr.q Q.i) (HMA.o.q Q.i)).q ?_); intro k5) | fail)
       go_region
       go_wp2_with fail
       go_roundw
       case rel =>
        simp only [arrF_set]
        refine ⟨1, _, rfl, by decide, (by repeat' (first | exact Q.refl _ | refine Q.alloc ?_ _ | refine Q.jk ?_ _ | refine Q.drew ?_)), hh (ST0.o (by rw [EO0.o]; simp)), hh (fun j hj => ?_)⟩
        rw [updF_other _ _ (by omega), updF_other _ _ (by omega)]
        exact HF3.o j hj
       case measure => simp [intOf] <;> omega
      | false =>
       cases o0 with
       | false =>
        go_wp2_with (first | (go_at_call 37; (with_reducible refine (OPE.o _ Q.i (hr.q Q.i) (HMA.o.q Q.i)).q ?_); intro k4) | (go_at_call 38; (with_reducible refine (DSE.o _ Q.i (hr.q Q.i) (HMA.o.q Q.i)).q ?_); intro k5) | fail)
        go_region
        go_wp2_with fail
        go_roundw
        case rel =>
         simp only [arrF_set]
         refine ⟨1, _, rfl, by decide, (by repeat' (first | exact Q.refl _ | refine Q.alloc ?_ _ | refine Q.jk ?_ _ | refine Q.drew ?_)), hh (ST0.o (by rw [EO0.o]; simp)), hh (fun j hj => ?_)⟩
         rw [updF_other _ _ (by omega), updF_other _ _ (by omega)]
         exact HF3.o j hj
        case measure => simp [intOf] <;> omega
       | true =>
        go_wp2_with (first | (go_at_call 37; (with_reducible refine (OPE.o _ Q.i (hr.q Q.i) (HMA.o.q Q.i)).q ?_); intro k4) | (go_at_call 38; (with_reducible refine (DSE.o _ Q.i (hr.q Q.i) (HMA.o.q Q.i)).q ?_); intro k5) | fail)
        go_region
        go_wp2_with fail
        go_roundw
        case rel =>
         simp only [arrF_set]
         refine ⟨1, _, rfl, by decide, (by repeat' (first | exact Q.refl _ | refine Q.alloc ?_ _ | refine Q.jk ?_ _ | refine Q.drew ?_)), hh (ST1.o (by rw [EO0.o]; simp)), hh (fun j hj => ?_)⟩
         rw [updF_other _ _ (by omega), updF_other _ _ (by omega), updF_other _ _ (by omega)]
         exact HF3.o j hj
        case measure => simp [intOf] <;> omega
    ·obtain ⟨ob, eob⟩ : ∃ b, op 1 = b := ⟨_, rfl⟩
     obtain ⟨bb, ebb⟩ : ∃ b, bl 1 = b := ⟨_, rfl⟩
     rw [eob] at ST0 ST1 OPB
     rw [ebb] at ST0 ST1 DSB
     have OPE : Hid (∀ w', Q w w' → RootsOK w' → RdV w' aM m cM 2 (a.d.mem.flatMap mmC) → Calls Tryz.prog 37 #[.agg #[Value.string s.nm, Value.slice s.aB s.buses.length s.cB, Value.slice s.aL s.lines.length s.cL, Value.slice s.aS s.srcs.length s.cS, Value.slice aY nY s.cY], .agg cs, .slice aW nY cW, .slice aM m cM, .int .i64 1] w' fun e w'' => e = .returned (.tuple #[.bool ob, .int .i64 0]) ∧ Q w' w'') := hh fun w' hq hr hm => OPB.o w' hq hr hm
     have DSE : Hid (∀ w', Q w w' → RootsOK w' → RdV w' aM m cM 2 (a.d.mem.flatMap mmC) → Calls Tryz.prog 38 #[.agg cs, .slice aW nY cW, .slice aM m cM, .int .i64 1] w' fun e w'' => e = .returned (.tuple #[.bool bb, .int .i64 0]) ∧ Q w' w'') := hh fun w' hq hr hm => DSB.o w' hq hr hm
     clear OPB DSB OPA DSA OPC DSC CPC OFC OVC
     have EOB := hh eob
     have EBB := hh ebb
     clear eob ebb
     cases ob with
     | false =>
      go_wp2_with (first | (go_at_call 37; (with_reducible refine (OPE.o _ Q.i (hr.q Q.i) (HMA.o.q Q.i)).q ?_); intro k4) | (go_at_call 38; (with_reducible refine (DSE.o _ Q.i (hr.q Q.i) (HMA.o.q Q.i)).q ?_); intro k5) | fail)
      go_region
      go_wp2_with fail
      go_roundw
      case rel =>
       simp only [arrF_set]
       refine ⟨2, _, rfl, by decide, (by repeat' (first | exact Q.refl _ | refine Q.alloc ?_ _ | refine Q.jk ?_ _ | refine Q.drew ?_)), hh (ST0.o (by rw [EO1.o]; simp)), hh (fun j hj => ?_)⟩
       rw [updF_other _ _ (by omega), updF_other _ _ (by omega)]
       exact HF3.o j hj
      case measure => simp [intOf] <;> omega
     | true =>
      cases bb with
      | true =>
       go_wp2_with (first | (go_at_call 37; (with_reducible refine (OPE.o _ Q.i (hr.q Q.i) (HMA.o.q Q.i)).q ?_); intro k4) | (go_at_call 38; (with_reducible refine (DSE.o _ Q.i (hr.q Q.i) (HMA.o.q Q.i)).q ?_); intro k5) | fail)
       go_region
       go_wp2_with fail
       go_roundw
       case rel =>
        simp only [arrF_set]
        refine ⟨2, _, rfl, by decide, (by repeat' (first | exact Q.refl _ | refine Q.alloc ?_ _ | refine Q.jk ?_ _ | refine Q.drew ?_)), hh (ST0.o (by rw [EO1.o]; simp)), hh (fun j hj => ?_)⟩
        rw [updF_other _ _ (by omega), updF_other _ _ (by omega)]
        exact HF3.o j hj
       case measure => simp [intOf] <;> omega
      | false =>
       cases o1 with
       | false =>
        go_wp2_with (first | (go_at_call 37; (with_reducible refine (OPE.o _ Q.i (hr.q Q.i) (HMA.o.q Q.i)).q ?_); intro k4) | (go_at_call 38; (with_reducible refine (DSE.o _ Q.i (hr.q Q.i) (HMA.o.q Q.i)).q ?_); intro k5) | fail)
        go_region
        go_wp2_with fail
        go_roundw
        case rel =>
         simp only [arrF_set]
         refine ⟨2, _, rfl, by decide, (by repeat' (first | exact Q.refl _ | refine Q.alloc ?_ _ | refine Q.jk ?_ _ | refine Q.drew ?_)), hh (ST0.o (by rw [EO1.o]; simp)), hh (fun j hj => ?_)⟩
         rw [updF_other _ _ (by omega), updF_other _ _ (by omega)]
         exact HF3.o j hj
        case measure => simp [intOf] <;> omega
       | true =>
        go_wp2_with (first | (go_at_call 37; (with_reducible refine (OPE.o _ Q.i (hr.q Q.i) (HMA.o.q Q.i)).q ?_); intro k4) | (go_at_call 38; (with_reducible refine (DSE.o _ Q.i (hr.q Q.i) (HMA.o.q Q.i)).q ?_); intro k5) | fail)
        go_region
        go_wp2_with fail
        go_roundw
        case rel =>
         simp only [arrF_set]
         refine ⟨2, _, rfl, by decide, (by repeat' (first | exact Q.refl _ | refine Q.alloc ?_ _ | refine Q.jk ?_ _ | refine Q.drew ?_)), hh (ST1.o (by rw [EO1.o]; simp)), hh (fun j hj => ?_)⟩
         rw [updF_other _ _ (by omega), updF_other _ _ (by omega), updF_other _ _ (by omega)]
         exact HF3.o j hj
        case measure => simp [intOf] <;> omega
    obtain ⟨ob, eob⟩ : ∃ b, op 2 = b := ⟨_, rfl⟩
    obtain ⟨bb, ebb⟩ : ∃ b, bl 2 = b := ⟨_, rfl⟩
    rw [eob] at ST0 ST1 OPB
    rw [ebb] at ST0 ST1 DSB
    have OPE : Hid (∀ w', Q w w' → RootsOK w' → RdV w' aM m cM 2 (a.d.mem.flatMap mmC) → Calls Tryz.prog 37 #[.agg #[Value.string s.nm, Value.slice s.aB s.buses.length s.cB, Value.slice s.aL s.lines.length s.cL, Value.slice s.aS s.srcs.length s.cS, Value.slice aY nY s.cY], .agg cs, .slice aW nY cW, .slice aM m cM, .int .i64 2] w' fun e w'' => e = .returned (.tuple #[.bool ob, .int .i64 0]) ∧ Q w' w'') := hh fun w' hq hr hm => OPB.o w' hq hr hm
    have DSE : Hid (∀ w', Q w w' → RootsOK w' → RdV w' aM m cM 2 (a.d.mem.flatMap mmC) → Calls Tryz.prog 38 #[.agg cs, .slice aW nY cW, .slice aM m cM, .int .i64 2] w' fun e w'' => e = .returned (.tuple #[.bool bb, .int .i64 0]) ∧ Q w' w'') := hh fun w' hq hr hm => DSB.o w' hq hr hm
    clear OPB DSB OPA DSA OPC DSC CPC OFC OVC
    have EOB := hh eob
    have EBB := hh ebb
    clear eob ebb
    cases ob with
    | false =>
     go_wp2_with (first | (go_at_call 37; (with_reducible refine (OPE.o _ Q.i (hr.q Q.i) (HMA.o.q Q.i)).q ?_); intro k4) | (go_at_call 38; (with_reducible refine (DSE.o _ Q.i (hr.q Q.i) (HMA.o.q Q.i)).q ?_); intro k5) | fail)
     go_region
     go_wp2_with fail
     go_roundw
     case rel =>
      simp only [arrF_set]
      refine ⟨3, _, rfl, by decide, (by repeat' (first | exact Q.refl _ | refine Q.alloc ?_ _ | refine Q.jk ?_ _ | refine Q.drew ?_)), hh (ST0.o (by rw [EO2.o]; simp)), hh (fun j hj => ?_)⟩
      rw [updF_other _ _ (by omega), updF_other _ _ (by omega)]
      exact HF3.o j hj
     case measure => simp [intOf] <;> omega
    | true =>
     cases bb with
     | true =>
      go_wp2_with (first | (go_at_call 37; (with_reducible refine (OPE.o _ Q.i (hr.q Q.i) (HMA.o.q Q.i)).q ?_); intro k4) | (go_at_call 38; (with_reducible refine (DSE.o _ Q.i (hr.q Q.i) (HMA.o.q Q.i)).q ?_); intro k5) | fail)
      go_region
      go_wp2_with fail
      go_roundw
      case rel =>
       simp only [arrF_set]
       refine ⟨3, _, rfl, by decide, (by repeat' (first | exact Q.refl _ | refine Q.alloc ?_ _ | refine Q.jk ?_ _ | refine Q.drew ?_)), hh (ST0.o (by rw [EO2.o]; simp)), hh (fun j hj => ?_)⟩
       rw [updF_other _ _ (by omega), updF_other _ _ (by omega)]
       exact HF3.o j hj
      case measure => simp [intOf] <;> omega
     | false =>
      cases o2 with
      | false =>
       go_wp2_with (first | (go_at_call 37; (with_reducible refine (OPE.o _ Q.i (hr.q Q.i) (HMA.o.q Q.i)).q ?_); intro k4) | (go_at_call 38; (with_reducible refine (DSE.o _ Q.i (hr.q Q.i) (HMA.o.q Q.i)).q ?_); intro k5) | fail)
       go_region
       go_wp2_with fail
       go_roundw
       case rel =>
        simp only [arrF_set]
        refine ⟨3, _, rfl, by decide, (by repeat' (first | exact Q.refl _ | refine Q.alloc ?_ _ | refine Q.jk ?_ _ | refine Q.drew ?_)), hh (ST0.o (by rw [EO2.o]; simp)), hh (fun j hj => ?_)⟩
        rw [updF_other _ _ (by omega), updF_other _ _ (by omega)]
        exact HF3.o j hj
       case measure => simp [intOf] <;> omega
      | true =>
       go_wp2_with (first | (go_at_call 37; (with_reducible refine (OPE.o _ Q.i (hr.q Q.i) (HMA.o.q Q.i)).q ?_); intro k4) | (go_at_call 38; (with_reducible refine (DSE.o _ Q.i (hr.q Q.i) (HMA.o.q Q.i)).q ?_); intro k5) | fail)
       go_region
       go_wp2_with fail
       go_roundw
       case rel =>
        simp only [arrF_set]
        refine ⟨3, _, rfl, by decide, (by repeat' (first | exact Q.refl _ | refine Q.alloc ?_ _ | refine Q.jk ?_ _ | refine Q.drew ?_)), hh (ST1.o (by rw [EO2.o]; simp)), hh (fun j hj => ?_)⟩
        rw [updF_other _ _ (by omega), updF_other _ _ (by omega), updF_other _ _ (by omega)]
        exact HF3.o j hj
       case measure => simp [intOf] <;> omega
end Go.Proofs.YtcjflafjmdfanaaGreatDoor
