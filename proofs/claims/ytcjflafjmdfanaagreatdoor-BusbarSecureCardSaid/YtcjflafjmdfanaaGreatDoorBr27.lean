
/- What Around of the bus image, and place, Sections and Overall of package busbar return. -/
import Derived.Test.YtcjflafjmdfanaaGreatDoorBr26
import Derived.Test.YtcjflafjmdfanaaGreatDoorBr18
set_option linter.unusedSimpArgs false
set_option linter.unusedVariables false
set_option linter.unusedVariables false
set_option linter.unusedSimpArgs false
namespace Go.Proofs.YtcjflafjmdfanaaGreatDoor
open Go.RowKit Go.Sub
attribute [local go_sem ↓] Go.wp_at_zero Go.wp_at_succ
/-- Sections lie in memory. -/
def ScAt (w : World) (A : Option Addr) (c : Nat) (rs : List SecR) : Prop := RdV w A rs.length c 3 (rs.flatMap secC) ∧ ∀ a ∈ rs, RdV w a.aM a.d.mem.length a.cM 2 (a.d.mem.flatMap mmC)
theorem ScAt.q {w w' : World} {A : Option Addr} {c : Nat} {rs : List SecR} (h : ScAt w A c rs) (hq : Q w w') : ScAt w' A c rs := ⟨h.1.q hq, fun a ha => (h.2 a ha).q hq⟩
theorem PrAt.q {w w' : World} {A : Option Addr} {c : Nat} {rs : List SecR} {f : Sec → Prt} (h : PrAt w A c rs f) (hq : Q w w') : PrAt w' A c rs f := ⟨h.1.q hq, fun a ha => ⟨(h.2 a ha).1.q hq, (h.2 a ha).2.q hq⟩⟩
theorem PrAt.at_ {w : World} {A : Option Addr} {c : Nat} {rs : List SecR} {f : Sec → Prt} (h : PrAt w A c rs f) (hn : 0 < rs.length) : ∃ g o, A = some ⟨g, o, none⟩ ∧ Old g w ∧ Hid (∀ k a q u, rs[k]? = some a → q < 11 → (prC a (f a.d))[q]? = some u → w.cell? ⟨g, o + k * 11 + q, none⟩ = some u) := by
 obtain ⟨g, o, e, ho, hc⟩ := h.1.at_ hn
 refine ⟨g, o, e, ho, Lib.hid fun k a q u ha hq hu => ?_⟩
 rw [Nat.add_assoc]
 exact hc.out (k * 11 + q) u (by rw [prC_get rs f k q a ha hq]; exact hu)
theorem make_intB (w : World) (n : Nat) (hn : n < 1000) : (Instr.makeSlice 61 (.int .i64 n) (.int .i64 n)).run Tryz.prog w = .ok (.slice (some ⟨w.heap.size, 0, none⟩) n n) (w.alloc (.cells (arrF (fun j => .int .i64 0) n) 3)) := by
 obtain ⟨i, hi, hz, hs1, hb⟩ := infoInt
 have := run_makeSlice (P := Tryz.prog) w 61 3 i _ Tryz.underlying61 hi hz .i64 .i64 n n (by omega) (by omega) (by rw [hs1]; omega) (by rw [hb]; omega) (by omega)
 rw [this, hs1, madeCells_arrF, Int.toNat_natCast, Nat.mul_one]
 have e : ∀ F : Nat → Value, (∀ j, F j = .int .i64 0) → arrF F n = arrF (fun _ => .int .i64 0) n := fun F hF => arrF_congr fun j _ => hF j
 rw [e _ (fun j => by
  show (#[Value.int .i64 0] : Array Value)[j % 1]! = _
  rw [Nat.mod_one]
  rfl)]
def arB (n : Nat) (F : Nat → Value) : Obj := .cells (arrF F n) 3
set_option maxRecDepth 100000 in
set_option maxHeartbeats 8000000 in
theorem around_c (A : Option Addr) (c : Nat) (rs : List SecR) (k : Nat) (a : SecR) (w : World) (h : ScAt w A c rs) (ha : rs[k]? = some a) (h1000 : a.d.mem.length < 1000) (hrs : rs.length < 1000) :
  Calls Tryz.prog 15 #[.slice A rs.length c, .int .i64 k] w fun e w' => ∃ g, e = .returned (.slice (some ⟨g, 0, none⟩) a.d.mem.length a.d.mem.length) ∧ Q w w' ∧ w.heap.size ≤ g ∧ RdN w' (some ⟨g, 0, none⟩) a.d.mem.length a.d.mem.length .i64 (a.d.mem.map Prod.fst) := by
 have hlt := (List.getElem?_eq_some_iff.1 ha).1
 obtain ⟨g4, o4, rfl, og4, hc4⟩ := sec_at h.1 (by omega)
 obtain ⟨x1, x2, x3⟩ := hc4.out k a ha
 have HMA := Lib.hid (h.2 a (List.mem_of_getElem? ha))
 obtain ⟨ml, eml⟩ : ∃ ml, a.d.mem = ml := ⟨_, rfl⟩
 rw [eml] at x2 HMA h1000 ⊢
 obtain ⟨n, en⟩ : ∃ n, ml.length = n := ⟨_, rfl⟩
 rw [en] at x2 HMA h1000 ⊢
 have HL := Lib.hid en
 obtain ⟨aM, eaM⟩ : ∃ m, a.aM = m := ⟨_, rfl⟩
 rw [eaM] at x2 HMA
 obtain ⟨nR, enR⟩ : ∃ n, rs.length = n := ⟨_, rfl⟩
 rw [enR] at hlt hrs ⊢
 have hmk := fun w => make_intB w n h1000
 have k0 : (0 : Int) ≤ (k : Int) := by omega
 have k1 : (k : Int) < (nR : Int) := by omega
 have k0' : ¬ (k : Int) < 0 := by omega
 have k1' : ¬ (nR : Int) ≤ (k : Int) := by omega
 have n0 : (0 : Int) ≤ (n : Int) := by omega
 clear h ha hc4 eml en eaM enR
 go_enter Tryz.func15, Tryz.ntmps15
 go_wp2_with fail
 go_loopw [29] (fun i wr => ∃ (j : Nat) (F : Nat → Value), i = .int .i64 j ∧ j ≤ n ∧ Q (w.alloc (.cells (arrF F n) 3)) wr ∧ Hid (∀ q m, q < j → ml[q]? = some m → F q = .int .i64 m.1)) (fun i _ => n - (intOf i).toNat)
 case atStart => exact ⟨0, _, rfl, Nat.zero_le _, (by repeat' (first | exact Q.refl _ | refine Q.alloc ?_ _ | refine Q.jk ?_ _ | refine Q.drew ?_)), Lib.hid (fun q m hq => absurd hq (Nat.not_lt_zero _))⟩
 case round =>
  obtain ⟨j, F, rfl, hj, ⟨kk, rfl⟩, HF⟩ := hrel
  by_cases hlj : j < n
  ·obtain ⟨m, hm⟩ : ∃ m, ml[j]? = some m := ⟨_, List.getElem?_eq_getElem (by rw [HL.out]; exact hlj)⟩
   obtain ⟨g, o, rfl, og, hc⟩ := mem_at HMA.out (by omega)
   obtain ⟨a1, a2⟩ := hc.out j m hm
   have EMJ := Lib.hid hm
   have e0 : (arrF F n)[j]? = some (F j) := arrF_get F hlj
   have j0 : (0 : Int) ≤ (j : Int) := by omega
   have j1 : (j : Int) < (n : Int) := by omega
   clear hc hm
   go_wp2_with fail
   go_roundw
   case rel =>
    simp only [arrF_set]
    refine ⟨j + 1, _, by go_num, by omega, (by repeat' (first | exact Q.refl _ | refine Q.alloc ?_ _ | refine Q.jk ?_ _ | refine Q.drew ?_)), Lib.hid (fun q m' hq hm' => ?_)⟩
    by_cases e : q = j
    ·subst e
     rw [EMJ.out] at hm'
     obtain rfl := Option.some.inj hm'
     rw [updF_same]
    ·rw [updF_other _ _ e]
     exact HF.out q m' (by omega) hm'
   case measure => simp [intOf] <;> omega
  ·obtain rfl : n = j := by omega
   have HRD : Hid (∀ w', Q ((w.alloc (.cells (arrF F n) 3)).jk kk) w' → RdN w' (some ⟨w.heap.size, 0, none⟩) n n .i64 (ml.map Prod.fst)) := Lib.hid fun w' hq => by
    refine RdV.q (w := (w.alloc (.cells (arrF F n) 3)).jk kk) ?_ hq
    have hb : HB ((w.alloc (.cells (arrF F n) 3)).jk kk) w.heap.size (arrF F n) 3 := (HB.new _ _ _ _ rfl).jk kk
    refine ⟨by simp [HL.out], Nat.le_refl _, fun hn => ⟨_, 0, rfl, hb.lt, fun i u hi => ?_⟩, fun e => by cases e⟩
    rw [List.getElem?_map, List.getElem?_map] at hi
    cases hm : ml[i]? with
    | none => rw [hm] at hi; cases hi
    | some m =>
     rw [hm] at hi
     have hin : i < n := by rw [← HL.out]; exact (List.getElem?_eq_some_iff.1 hm).1
     rw [hb.cell, Nat.zero_add, arrF_get F hin, HF.out i m hin hm]
     exact hi
   go_wp2_with fail
   go_ret
   exact ⟨_, rfl, (by repeat' (first | exact Q.refl _ | refine Q.alloc ?_ _ | refine Q.jk ?_ _ | refine Q.drew ?_)), Nat.le_refl _, HRD.out _ (by repeat' (first | exact Q.refl _ | refine Q.alloc ?_ _ | refine Q.jk ?_ _ | refine Q.drew ?_))⟩
set_option maxRecDepth 100000 in
set_option maxHeartbeats 8000000 in
theorem place_c (s : Sta) (p : Pos) (w : World) (hs : StAt w s) (hp : PosAt w p) :
  Calls Tryz.prog 18 #[.agg #[Value.string s.nm, Value.slice s.aB s.buses.length s.cB, Value.slice s.aL s.lines.length s.cL, Value.slice s.aS s.srcs.length s.cS, Value.slice s.aY s.bays.length s.cY], .agg #[Value.slice p.aC p.closed.length p.cC, Value.slice p.aK p.rows.length p.cK]] w fun e w' => e = .returned (.int .i64 (orE (stE s) (psE s p))) ∧ Q w w' := by
 have SC := Lib.hid fun (w' : World) (hq : Q w w') => stcheck_c s w' (hs.q hq)
 have PC := Lib.hid fun (w' : World) (hq : Q w w') => tpcheck_c s p w' (hs.q hq) (hp.q hq)
 have HO : Hid (orE (stE s) (psE s p) = if stE s = 0 then psE s p else stE s) := Lib.hid rfl
 generalize orE (stE s) (psE s p) = E at HO ⊢
 generalize stE s = e1 at SC HO
 generalize psE s p = e2 at PC HO
 clear hs hp
 by_cases h1 : e1 = 0
 ·have h1' : (e1 != 0) = false := by simpa using h1
  have HE : Hid (E = e2) := Lib.hid (by rw [HO.out, if_pos h1])
  clear HO h1
  go_enter Tryz.func18, Tryz.ntmps18
  go_wp2_with (first
   | (go_at_call 30; (with_reducible refine (SC.out _ (by repeat' (first | exact Q.refl _ | refine Q.alloc ?_ _ | refine Q.jk ?_ _ | refine Q.drew ?_))).mono ?_); rintro e w' ⟨rfl, k0, rfl⟩)
   | (go_at_call 12; (with_reducible refine (PC.out _ (by repeat' (first | exact Q.refl _ | refine Q.alloc ?_ _ | refine Q.jk ?_ _ | refine Q.drew ?_))).mono ?_); rintro e w' ⟨rfl, k1, rfl⟩)
   | fail)
  go_ret
  exact ⟨by rw [HE.out]; rfl, (by repeat' (first | exact Q.refl _ | refine Q.alloc ?_ _ | refine Q.jk ?_ _ | refine Q.drew ?_))⟩
 ·have h1' : (e1 != 0) = true := by simpa using h1
  have HE : Hid (E = e1) := Lib.hid (by rw [HO.out, if_neg h1])
  clear HO h1
  go_enter Tryz.func18, Tryz.ntmps18
  go_wp2_with (first
   | (go_at_call 30; (with_reducible refine (SC.out _ (by repeat' (first | exact Q.refl _ | refine Q.alloc ?_ _ | refine Q.jk ?_ _ | refine Q.drew ?_))).mono ?_); rintro e w' ⟨rfl, k0, rfl⟩)
   | fail)
  go_ret
  exact ⟨by rw [HE.out]; rfl, (by repeat' (first | exact Q.refl _ | refine Q.alloc ?_ _ | refine Q.jk ?_ _ | refine Q.drew ?_))⟩
theorem ckE_zero {r : Rel} {W : List Int} {G : List Bool} {nY nW nG : Nat} {nF : Int} (h : ckE r W G nY nW nG nF = 0) : r.kd = 4 ∧ usB r = true ∧ nW = nY ∧ nG = nY ∧ nF = (nY : Int) ∧ WvOK W G nY := by
 unfold ckE at h
 split at h
 ·split at h
  ·split at h
   ·rename_i h1 h2 h3
    refine ⟨h1, h2, h3.1, h3.2.1, h3.2.2, fun k hk hg ph hp => ?_⟩
    have h4 := fstE_zero h k (by rw [h3.1]; exact hk)
    unfold phE at h4
    rw [if_pos hg] at h4
    exact chkE_win (fstE_zero h4 ph hp)
   ·cases h
  ·cases h
 ·cases h
/-- The error of the arguments of Sections and Trips. -/
def seE (s : Sta) (p : Pos) (r : Rel) (W : List Int) (G : List Bool) (nW nG : Nat) (nF : Int) : Int := orE (orE (stE s) (psE s p)) (ckE r W G s.bays.length nW nG nF)
def RetSe (E : Int) (l : List Sec) (f : Sec → Prt) (w : World) (e : Ending) (w' : World) : Prop := (E ≠ 0 ∧ e = .returned (.tuple #[.slice none 0 0, .int .i64 E]) ∧ Q w w') ∨ (E = 0 ∧ RetPr l f w e w')
set_option maxRecDepth 100000 in
set_option maxHeartbeats 8000000 in
theorem secs_c (s : Sta) (p : Pos) (cs : Array Value) (r : Rel) [hR : RelC cs r] (aW : Option Addr) (nW cW : Nat) (W : List Int) (aG : Option Addr) (nG cG : Nat) (G : List Bool) (w : World) (hr : RootsOK w) (hs : StAt w s) (hp : PosAt w p) (hW : WvAt w aW nW cW W) (hG : GdAt w aG nG cG G) :
  Calls Tryz.prog 14 #[.agg #[Value.string s.nm, Value.slice s.aB s.buses.length s.cB, Value.slice s.aL s.lines.length s.cL, Value.slice s.aS s.srcs.length s.cS, Value.slice s.aY s.bays.length s.cY], .agg #[Value.slice p.aC p.closed.length p.cC, Value.slice p.aK p.rows.length p.cK], .agg cs, .slice aW nW cW, .slice aG nG cG] w (RetSe (seE s p r W G nW nG s.bays.length) (imI s p) (prS s W G r) w) := by
 have PLC := Lib.hid fun (w' : World) (hq : Q w w') => place_c s p w' (hs.q hq) (hp.q hq)
 have HO : Hid (seE s p r W G nW nG s.bays.length = if orE (stE s) (psE s p) = 0 then ckE r W G s.bays.length nW nG s.bays.length else orE (stE s) (psE s p)) := Lib.hid rfl
 generalize seE s p r W G nW nG s.bays.length = E at HO ⊢
 by_cases h1 : orE (stE s) (psE s p) = 0
 ·obtain ⟨e1, e2⟩ := orE_zero h1
  have hY16 : s.bays.length ≤ 16 := by
   have := (stE_parts e1).1
   unfold stBad at this
   omega
  have CKC := Lib.hid fun (w' : World) (hq : Q w w') => check_c s cs r aW nW cW W aG nG cG G s.bays.length w' (hW.q hq) (hG.q hq) (by omega)
  have HE := Lib.hid (HO.out.trans (if_pos h1))
  rw [h1] at PLC
  by_cases h2 : ckE r W G s.bays.length nW nG s.bays.length = 0
  ·obtain ⟨_, hu, rfl, rfl, _, hw⟩ := ckE_zero h2
   have SEC := Lib.hid fun (w' : World) (hq : Q w w') (hr : RootsOK w') => sections_c s p cs r aW cW W aG cG G w' hr ⟨hs.q hq, hp.q hq, e1, e2⟩ (hW.q hq) (hG.q hq) hu hw
   unfold RetPr at SEC
   unfold RetSe RetPr
   rw [h2] at CKC
   have HE0 := Lib.hid (HE.out.trans h2)
   generalize prS s W G r = PS at SEC ⊢
   generalize imI s p = IM at SEC ⊢
   clear HO HE hs hp hW hG hw hu h1 h2 e1 e2
   go_enter Tryz.func14, Tryz.ntmps14
   go_wp2_with (first
    | (go_at_call 18; (with_reducible refine (PLC.out _ (by repeat' (first | exact Q.refl _ | refine Q.alloc ?_ _ | refine Q.jk ?_ _ | refine Q.drew ?_))).mono ?_); rintro e w' ⟨rfl, k0, rfl⟩)
    | (go_at_call 19; (with_reducible refine (CKC.out _ (by repeat' (first | exact Q.refl _ | refine Q.alloc ?_ _ | refine Q.jk ?_ _ | refine Q.drew ?_))).mono ?_); rintro e w' ⟨rfl, k1, rfl⟩)
    | (go_at_call 20; (with_reducible refine (SEC.out _ (by repeat' (first | exact Q.refl _ | refine Q.alloc ?_ _ | refine Q.jk ?_ _ | refine Q.drew ?_)) (by repeat' (first | with_reducible exact hr | refine RootsOK.alloc ?_ _ | refine RootsOK.jk ?_ _ | refine RootsOK.drew ?_))).mono ?_); rintro e w' ⟨A, c, rs, rfl, ⟨k2, rfl⟩, hd, hpr⟩)
    | fail)
   go_ret2
   exact .inr ⟨HE0.out, _, _, rs, rfl, (by repeat' (first | exact Q.refl _ | refine Q.alloc ?_ _ | refine Q.jk ?_ _ | refine Q.drew ?_)), hd, PrAt.q hpr (by repeat' (first | exact Q.refl _ | refine Q.alloc ?_ _ | refine Q.jk ?_ _ | refine Q.drew ?_))⟩
  ·have HNE : Hid (E ≠ 0) := Lib.hid (by rw [HE.out]; exact h2)
   generalize ckE r W G s.bays.length nW nG s.bays.length = e3 at CKC HE h2
   have h2' : (e3 != 0) = true := by simpa using h2
   unfold RetSe
   clear HO hs hp hW hG h1 h2 e1 e2
   go_enter Tryz.func14, Tryz.ntmps14
   go_wp2_with (first
    | (go_at_call 18; (with_reducible refine (PLC.out _ (by repeat' (first | exact Q.refl _ | refine Q.alloc ?_ _ | refine Q.jk ?_ _ | refine Q.drew ?_))).mono ?_); rintro e w' ⟨rfl, k0, rfl⟩)
    | (go_at_call 19; (with_reducible refine (CKC.out _ (by repeat' (first | exact Q.refl _ | refine Q.alloc ?_ _ | refine Q.jk ?_ _ | refine Q.drew ?_))).mono ?_); rintro e w' ⟨rfl, k1, rfl⟩)
    | fail)
   go_ret2
   exact .inl ⟨HNE.out, by rw [HE.out]; rfl, (by repeat' (first | exact Q.refl _ | refine Q.alloc ?_ _ | refine Q.jk ?_ _ | refine Q.drew ?_))⟩
 ·have HE := Lib.hid (HO.out.trans (if_neg h1))
  have HNE : Hid (E ≠ 0) := Lib.hid (by rw [HE.out]; exact h1)
  generalize orE (stE s) (psE s p) = e3 at PLC HE h1
  have h2' : (e3 != 0) = true := by simpa using h1
  unfold RetSe
  clear HO hs hp hW hG h1
  go_enter Tryz.func14, Tryz.ntmps14
  go_wp2_with (first
   | (go_at_call 18; (with_reducible refine (PLC.out _ (by repeat' (first | exact Q.refl _ | refine Q.alloc ?_ _ | refine Q.jk ?_ _ | refine Q.drew ?_))).mono ?_); rintro e w' ⟨rfl, k0, rfl⟩)
   | fail)
  go_ret2
  exact .inl ⟨HNE.out, by rw [HE.out]; rfl, (by repeat' (first | exact Q.refl _ | refine Q.alloc ?_ _ | refine Q.jk ?_ _ | refine Q.drew ?_))⟩
end Go.Proofs.YtcjflafjmdfanaaGreatDoor
