
/- BusbarExamples, walked: it returns true. -/
import Derived.Test.YtcjflafjmdfanaaGreatDoorBx01
import Derived.Test.YtcjflafjmdfanaaGreatDoorBx09
import Derived.Test.YtcjflafjmdfanaaGreatDoorBx04
import Derived.Test.YtcjflafjmdfanaaGreatDoorBv35
set_option maxHeartbeats 64000000
set_option maxRecDepth 100000
set_option linter.unusedSimpArgs false
set_option linter.unusedVariables false
namespace Go.Sub
open Go
def rel1 : Array Value := rel0.setIfInBounds 47 (Value.int .i64 0)
def rel2 : Array Value := #[Value.string ⟨#[]⟩, Value.int .i64 4, Value.int .i64 0, Value.bool false, Value.bool false, Value.int .i64 0, Value.int .i64 0, Value.int .i64 0, Value.int .i64 0, Value.bool false, Value.bool false, Value.int .i64 0, Value.int .i64 0, Value.int .i64 0, Value.int .i64 0, Value.bool false, Value.bool false, Value.int .i64 0, Value.int .i64 0, Value.int .i64 0, Value.int .i64 0, Value.int .i64 0, Value.int .i64 0, Value.int .i64 0, Value.int .i64 0, Value.int .i64 0, Value.int .i64 0, Value.bool false, Value.int .i64 0, Value.int .i64 0, Value.bool false, Value.int .i64 0, Value.int .i64 0, Value.bool false, Value.int .i64 0, Value.int .i64 0, Value.int .i64 0, Value.int .i64 0, Value.int .i64 0, Value.bool false, Value.int .i64 0, Value.int .i64 0, Value.bool false, Value.int .i64 0, Value.int .i64 0, Value.int .i64 0, Value.int .i64 0, Value.int .i64 0, Value.int .i64 0, Value.slice none 0 0, Value.slice none 0 0, Value.slice none 0 0, Value.slice none 0 0]
def patB (cs : Array Value) (i : Nat) : Bool := match cs[i]?, cs[i + 1]?, cs[i + 2]? with | some (.slice ..), some (.slice ..), some (.bool _) => true | _, _, _ => false
end Go.Sub
namespace Go.Proofs.YtcjflafjmdfanaaGreatDoor
open Go.RowKit Go.Sub
attribute [local go_sem ↓] Go.wp_at_zero Go.wp_at_succ
class C53 (cs : Array Value) : Prop where
 eq : cs.size = 53
instance (x0 x1 x2 x3 x4 x5 x6 x7 x8 x9 x10 x11 x12 x13 x14 x15 x16 x17 x18 x19 x20 x21 x22 x23 x24 x25 x26 x27 x28 x29 x30 x31 x32 x33 x34 x35 x36 x37 x38 x39 x40 x41 x42 x43 x44 x45 x46 x47 x48 x49 x50 x51 x52 : Value) : C53 #[x0, x1, x2, x3, x4, x5, x6, x7, x8, x9, x10, x11, x12, x13, x14, x15, x16, x17, x18, x19, x20, x21, x22, x23, x24, x25, x26, x27, x28, x29, x30, x31, x32, x33, x34, x35, x36, x37, x38, x39, x40, x41, x42, x43, x44, x45, x46, x47, x48, x49, x50, x51, x52] := ⟨rfl⟩
instance : C53 rel0 := ⟨rfl⟩
instance : C53 rel1 := ⟨rfl⟩
instance : RelC rel1 ⟨4, 5, 1, 0, 0⟩ := ⟨rfl, rfl, rfl, rfl, rfl, rfl⟩
set_option maxRecDepth 100000
instance : RelC rel2 ⟨4, 0, 0, 0, 0⟩ := ⟨rfl, rfl, rfl, rfl, rfl, rfl⟩
instance : RelC #[Value.string ⟨#[]⟩, Value.int .i64 1, Value.int .i64 0, Value.bool false, Value.bool false, Value.int .i64 0, Value.int .i64 0, Value.int .i64 0, Value.int .i64 0, Value.bool false, Value.bool false, Value.int .i64 0, Value.int .i64 0, Value.int .i64 0, Value.int .i64 0, Value.bool false, Value.bool false, Value.int .i64 0, Value.int .i64 0, Value.int .i64 0, Value.int .i64 0, Value.int .i64 0, Value.int .i64 0, Value.int .i64 0, Value.int .i64 0, Value.int .i64 0, Value.int .i64 0, Value.bool false, Value.int .i64 0, Value.int .i64 0, Value.bool false, Value.int .i64 0, Value.int .i64 0, Value.bool false, Value.int .i64 0, Value.int .i64 0, Value.int .i64 0, Value.int .i64 0, Value.int .i64 0, Value.bool false, Value.int .i64 0, Value.int .i64 0, Value.bool false, Value.int .i64 0, Value.int .i64 0, Value.int .i64 0, Value.int .i64 0, Value.int .i64 0, Value.int .i64 0, Value.slice none 0 0, Value.slice none 0 0, Value.slice none 0 0, Value.slice none 0 0] ⟨1, 0, 0, 0, 0⟩ := ⟨rfl, rfl, rfl, rfl, rfl, rfl⟩
instance : RelC #[Value.string ⟨#[]⟩, Value.int .i64 4, Value.int .i64 0, Value.bool false, Value.bool false, Value.int .i64 0, Value.int .i64 0, Value.int .i64 0, Value.int .i64 0, Value.bool false, Value.bool false, Value.int .i64 0, Value.int .i64 0, Value.int .i64 0, Value.int .i64 0, Value.bool false, Value.bool false, Value.int .i64 0, Value.int .i64 0, Value.int .i64 0, Value.int .i64 0, Value.int .i64 0, Value.int .i64 0, Value.int .i64 0, Value.int .i64 0, Value.int .i64 0, Value.int .i64 0, Value.bool false, Value.int .i64 0, Value.int .i64 0, Value.bool false, Value.int .i64 0, Value.int .i64 0, Value.bool false, Value.int .i64 0, Value.int .i64 0, Value.int .i64 0, Value.int .i64 0, Value.int .i64 0, Value.bool false, Value.int .i64 0, Value.int .i64 0, Value.bool false, Value.int .i64 0, Value.int .i64 0, Value.int .i64 0, Value.int .i64 0, Value.int .i64 0, Value.int .i64 0, Value.slice none 0 0, Value.slice none 0 0, Value.slice none 0 0, Value.slice none 0 0] ⟨4, 0, 0, 0, 0⟩ := ⟨rfl, rfl, rfl, rfl, rfl, rfl⟩
instance : Ones rel0 := ⟨by decide +kernel⟩
@[go_sem ↓ high] theorem svRelay53 (a : Addr) (v : Value) : storeVar 44 a v = bigStore 44 a v := rfl
@[go_sem ↓ high] theorem rsRelay53 {w : World} {n : Nat} {cur cs : Array Value} {t : TypeId} [h : Blk w n (.cells cur t)] [hc : C53 cur] [hs : C53 cs] [h1 : Ones cs] :
  (bigStore 44 ⟨n, 0, none⟩ (.agg cs)).run Tryz.prog w = .ok () (w.setBlk n (.cells cs t)) := run_bigStore (by rw [hs.eq]; exact infoRelay) (by rw [hc.eq, hs.eq])
theorem pat_none : ∀ i, patB rel0 i = false := by
 intro i
 by_cases h : i < 53
 ·have : ∀ i : Fin 53, patB rel0 i.1 = false := by decide +kernel
  exact this ⟨i, h⟩
 unfold patB
 rw [Array.getElem?_eq_none (show rel0.size ≤ i by rw [C53.eq]; omega)]
theorem pat_ne {w : World} {g b o n0 c0 n1 c1 : Nat} {a0 a1 : Option Addr} {mv : Bool} {t : TypeId} (h : HB w b rel0 t) (h0 : w.cell? ⟨g, o, none⟩ = some (.slice a0 n0 c0)) (h1 : w.cell? ⟨g, o + 1, none⟩ = some (.slice a1 n1 c1)) (h2 : w.cell? ⟨g, o + 2, none⟩ = some (.bool mv)) : b ≠ g := by
 rintro rfl
 rw [h.cell] at h0 h1 h2
 have := pat_none o
 unfold patB at this
 rw [h0, h1, h2] at this
 cases this
theorem hb_ne_type {w : World} {g b : Nat} {cs cs' : Array Value} {t t' : TypeId} (h : HB w g cs t) (h' : HB w b cs' t') (hne : t ≠ t') : g ≠ b := by
 rintro rfl
 have e : w.heap[g]? = some (.cells cs t) := h
 have e' : w.heap[g]? = some (.cells cs' t') := h'
 rw [e] at e'
 injection e' with e'
 injection e' with _ e' _
 exact hne e'
theorem cell_set_ne {w : World} {b g : Nat} (hne : b ≠ g) (i j : Nat) (v : Value) : (w.setCell ⟨b, i, none⟩ v).cell? ⟨g, j, none⟩ = w.cell? ⟨g, j, none⟩ :=
 World.cell?_of_block (w := w) (a := ⟨g, j, none⟩) (by simp [World.setCell, Array.getElem?_modify, hne])
theorem cell_blk_ne {w : World} {b g : Nat} (hne : b ≠ g) (o : Obj) (j : Nat) : (w.setBlk b o).cell? ⟨g, j, none⟩ = w.cell? ⟨g, j, none⟩ :=
 World.cell?_of_block (w := w) (a := ⟨g, j, none⟩) (by simp [World.setBlk, Array.getElem?_setIfInBounds, hne])
theorem wv_one {w : World} {A : Option Addr} {c : Nat} {V2 : List Int} (h : WvAt w A 2 c (wav0 1 ++ V2)) : WvAt w A 1 c (wav0 1) := by
 obtain ⟨⟨hl, hc, hx, hn⟩, _⟩ := h
 refine ⟨⟨rfl, by omega, fun _ => ?_, hn⟩, by decide⟩
 obtain ⟨g, o, e, hg, hcell⟩ := hx (by decide)
 refine ⟨g, o, e, hg, fun i u hi => hcell i u ?_⟩
 rw [List.map_append, List.getElem?_append_left (by exact (List.getElem?_eq_some_iff.1 hi).1)]
 exact hi
theorem examples_walk (w : World) (hr : RootsOK w) :
  Calls Tryz.prog 6 #[] w fun e w' => e = .returned (.bool true) ∧ Q w w' := by
 have S1 : Hid (∀ w', Calls Tryz.prog 16 #[.int .i64 1, .int .i64 1] w' (SrcRet 1 1 w')) := hh fun w' => lawsrc_c 1 1 w' (by decide) (by decide)
 unfold SrcRet at S1
 go_enter Tryz.func6, Tryz.ntmps6
 go_wp2_with (first | (go_at_call 16; (with_reducible refine (S1.o _).mono ?_); rintro e w' ⟨aB, aS, aY, cY, l0, l1, p, aW, cW, aG, rfl, ⟨kA, rfl⟩, hst, hps, hc, hrw, hwv, hgd⟩; have HST := hh hst; have HPS := hh hps; have HC := hh hc; have HRW := hh hrw; have HWV := hh hwv; have HGD := hh hgd; clear hst hps hc hrw hwv hgd) | fail)
 refine wp_world ?_
 intro V eV
 obtain ⟨U, eU⟩ : ∃ U, U = w.jk kA := ⟨_, rfl⟩
 rw [← eU] at eV HST HPS HWV HGD
 have HU : Hid (Q w U) := hh (by rw [eU]; exact Q.jk (Q.refl _) _)
 have HRU : Hid (RootsOK U) := hh (hr.q HU.o)
 have HUV : Hid (Q U V) := hh (by rw [eV]; exact Q.alloc (Q.refl _) _)
 have hbc : HB V U.heap.size (caseC (Value.string ⟨#[115]⟩) (Value.slice aB 1 1) (Value.slice none 0 0) (Value.slice aS 2 2) (Value.slice aY 2 cY) (Value.slice p.aC p.closed.length p.cC) (Value.slice p.aK p.rows.length p.cK) rel0 (Value.slice aW 2 cW) (Value.slice aG 2 2)) 47 := by
  rw [eV]
  exact HB.new _ _ _ _ rfl
 have hsv : V.heap.size = U.heap.size + 1 := by rw [eV]; simp
 have eC : (w.jk kA).heap.size = U.heap.size := by rw [eU]
 simp only [World.size_jk] at eC
 rw [eC]
 have HSV := hh hsv
 have HBV : Hid (HB V U.heap.size (caseC (Value.string ⟨#[115]⟩) (Value.slice aB 1 1) (Value.slice none 0 0) (Value.slice aS 2 2) (Value.slice aY 2 cY) (Value.slice p.aC p.closed.length p.cC) (Value.slice p.aK p.rows.length p.cK) rel0 (Value.slice aW 2 cW) (Value.slice aG 2 2)) 47) := hh hbc
 haveI : Blk V U.heap.size (.cells (caseC (Value.string ⟨#[115]⟩) (Value.slice aB 1 1) (Value.slice none 0 0) (Value.slice aS 2 2) (Value.slice aY 2 cY) (Value.slice p.aC p.closed.length p.cC) (Value.slice p.aK p.rows.length p.cK) rel0 (Value.slice aW 2 cW) (Value.slice aG 2 2)) 47) := ⟨hbc⟩
 have c0 := hbc.cell 0
 have c1 := hbc.cell 1
 have c2 := hbc.cell 2
 have c3 := hbc.cell 3
 have c4 := hbc.cell 4
 have c5 := hbc.cell 5
 have c6 := hbc.cell 6
 rw [caseC_0] at c0
 rw [caseC_1] at c1
 rw [caseC_2] at c2
 rw [caseC_3] at c3
 rw [caseC_4] at c4
 rw [caseC_5] at c5
 rw [caseC_6] at c6
 have oV := hbc.old
 clear eV eU hbc hsv eC S1 hr
 go_cut [2, 3, 4] (fun s2 s3 s4 wx => ∃ b2 b3 b4 : Nat, s2 = .pointer (some ⟨b2, 0, none⟩) ∧ s3 = .pointer (some ⟨b3, 0, none⟩) ∧ s4 = .pointer (some ⟨b4, 0, none⟩) ∧ Q V wx ∧ HB wx b2 #[Value.string ⟨#[115]⟩, Value.slice aB 1 1, Value.slice none 0 0, Value.slice aS 2 2, Value.slice aY 2 cY] 27 ∧ HB wx b3 #[Value.slice p.aC p.closed.length p.cC, Value.slice p.aK p.rows.length p.cK] 31 ∧ HB wx b4 rel0 44 ∧ V.heap.size ≤ b4)
 case first =>
  go_region_held3 (fun w' => w'.cell? ⟨U.heap.size, 0, none⟩ = some (Value.string ⟨#[115]⟩) ∧ w'.cell? ⟨U.heap.size, 1, none⟩ = some (Value.slice aB 1 1) ∧ w'.cell? ⟨U.heap.size, 2, none⟩ = some (Value.slice none 0 0) ∧ w'.cell? ⟨U.heap.size, 3, none⟩ = some (Value.slice aS 2 2) ∧ w'.cell? ⟨U.heap.size, 4, none⟩ = some (Value.slice aY 2 cY) ∧ w'.cell? ⟨U.heap.size, 5, none⟩ = some (Value.slice p.aC p.closed.length p.cC) ∧ w'.cell? ⟨U.heap.size, 6, none⟩ = some (Value.slice p.aK p.rows.length p.cK) ∧ (bigLoad 44 ⟨U.heap.size, 7, none⟩).run Tryz.prog w' = .ok (.agg rel0) w') ((refine ⟨?_, ?_, ?_, ?_, ?_, ?_, ?_, rlRelay7⟩ <;> simp [go_sem, c0, c1, c2, c3, c4, c5, c6])) ((first | fail))
  all_goals (go_wp2_with fail)
  all_goals go_meet
  all_goals
   refine ⟨_, _, _, rfl, rfl, rfl, Q.i, ?_, ?_, ?_, ?_⟩
   ·((repeat' (first | (with_reducible refine HB.drew ?_) | (with_reducible refine HB.jk ?_ _) | ((refine HB.new _ _ _ _ ?_); (first | with_reducible rfl | (simp only [World.size_jk, World.size_alloc]; done))) | (with_reducible refine HB.alloc ?_ _))); done)
   ·((repeat' (first | (with_reducible refine HB.drew ?_) | (with_reducible refine HB.jk ?_ _) | ((refine HB.new _ _ _ _ ?_); (first | with_reducible rfl | (simp only [World.size_jk, World.size_alloc]; done))) | (with_reducible refine HB.alloc ?_ _))); done)
   ·((repeat' (first | (with_reducible refine HB.drew ?_) | (with_reducible refine HB.jk ?_ _) | ((refine HB.new _ _ _ _ ?_); (first | with_reducible rfl | (simp only [World.size_jk, World.size_alloc]; done))) | (with_reducible refine HB.alloc ?_ _))); done)
   first | omega | (simp only [World.size_jk, World.size_alloc]; omega)
 case rest =>
  obtain ⟨b2, b3, b4, rfl, rfl, rfl, hq, hb2, hb3, hb4, hs4⟩ := hcut
  have HQX0 : Hid (Q V wc) := hh hq
  have HQX : Hid (Q U wc) := hh (HUV.o.trans hq)
  have HB2 := hh hb2
  have HB3 := hh hb3
  have HB4 := hh hb4
  have HBC := hh (HB.q HBV.o hq)
  have HS4 := hh hs4
  clear c0 c1 c2 c3 c4 c5 c6 oV hq hb2 hb3 hb4 hs4
  haveI : Blk wc b4 (.cells rel0 44) := ⟨HB4.o⟩
  have s20 := HB2.o.cell 0
  have s21 := HB2.o.cell 1
  have s22 := HB2.o.cell 2
  have s23 := HB2.o.cell 3
  have s24 := HB2.o.cell 4
  have s30 := HB3.o.cell 0
  have s31 := HB3.o.cell 1
  simp only [List.getElem?_toArray, List.getElem?_cons_zero, List.getElem?_cons_succ] at s20 s21 s22 s23 s24 s30 s31
  have s60 := HBC.o.cell 60
  have s61 := HBC.o.cell 61
  rw [caseC_60] at s60
  rw [caseC_61] at s61
  have oC := HBC.o.old
  have o2 := HB2.o.old
  have o3 := HB3.o.old
  have o4 := HB4.o.old
  go_upto_region 7 with (first | (go_at_call 17; (with_reducible refine (ex_a aB aS aY cY l0 l1 aW cW aG 2 _ (HRU.o.q (by repeat' (first | with_reducible exact HQX.o | refine Q.alloc ?_ _ | refine Q.jk ?_ _ | refine Q.drew ?_))) (HST.o.q (by repeat' (first | with_reducible exact HQX.o | refine Q.alloc ?_ _ | refine Q.jk ?_ _ | refine Q.drew ?_))) (HWV.o.q (by repeat' (first | with_reducible exact HQX.o | refine Q.alloc ?_ _ | refine Q.jk ?_ _ | refine Q.drew ?_))) (HGD.o.q (by repeat' (first | with_reducible exact HQX.o | refine Q.alloc ?_ _ | refine Q.jk ?_ _ | refine Q.drew ?_)))).q ?_); intro k1) | (go_at_call 17; (with_reducible refine (ex_b aB aS aY cY l0 l1 aW cW _ 2 _ (HRU.o.q (by repeat' (first | with_reducible exact HQX.o | refine Q.alloc ?_ _ | refine Q.jk ?_ _ | refine Q.drew ?_))) (HST.o.q (by repeat' (first | with_reducible exact HQX.o | refine Q.alloc ?_ _ | refine Q.jk ?_ _ | refine Q.drew ?_))) (HWV.o.q (by repeat' (first | with_reducible exact HQX.o | refine Q.alloc ?_ _ | refine Q.jk ?_ _ | refine Q.drew ?_))) (gd_two _ _ _ _ (by simp [World.size_jk]))).q ?_); intro k2) | (go_at_call 14; (with_reducible refine (ex_g rel0 aB aS aY cY l0 l1 p aW cW _ 2 _ (HRU.o.q (by repeat' (first | with_reducible exact HQX.o | refine Q.alloc ?_ _ | refine Q.jk ?_ _ | refine Q.drew ?_))) (HST.o.q (by repeat' (first | with_reducible exact HQX.o | refine Q.alloc ?_ _ | refine Q.jk ?_ _ | refine Q.drew ?_))) (HPS.o.q (by repeat' (first | with_reducible exact HQX.o | refine Q.alloc ?_ _ | refine Q.jk ?_ _ | refine Q.drew ?_))) HC.o HRW.o (HWV.o.q (by repeat' (first | with_reducible exact HQX.o | refine Q.alloc ?_ _ | refine Q.jk ?_ _ | refine Q.drew ?_))) (gd_two _ _ _ _ (by simp [World.size_jk]))).mono ?_); rintro e w' ⟨gG, oG, cG, n0G, c0G, n1G, c1G, a0G, a1G, mvG, rfl, ⟨k3, rfl⟩, ogG, y0G, y1G, y2G, y3G, y9G, y10G⟩) | (go_at_call 14; (with_reducible refine (ex_h #[Value.string ⟨#[]⟩, Value.int .i64 1, Value.int .i64 0, Value.bool false, Value.bool false, Value.int .i64 0, Value.int .i64 0, Value.int .i64 0, Value.int .i64 0, Value.bool false, Value.bool false, Value.int .i64 0, Value.int .i64 0, Value.int .i64 0, Value.int .i64 0, Value.bool false, Value.bool false, Value.int .i64 0, Value.int .i64 0, Value.int .i64 0, Value.int .i64 0, Value.int .i64 0, Value.int .i64 0, Value.int .i64 0, Value.int .i64 0, Value.int .i64 0, Value.int .i64 0, Value.bool false, Value.int .i64 0, Value.int .i64 0, Value.bool false, Value.int .i64 0, Value.int .i64 0, Value.bool false, Value.int .i64 0, Value.int .i64 0, Value.int .i64 0, Value.int .i64 0, Value.int .i64 0, Value.bool false, Value.int .i64 0, Value.int .i64 0, Value.bool false, Value.int .i64 0, Value.int .i64 0, Value.int .i64 0, Value.int .i64 0, Value.int .i64 0, Value.int .i64 0, Value.slice none 0 0, Value.slice none 0 0, Value.slice none 0 0, Value.slice none 0 0] aB aS aY cY l0 l1 p aW cW aG 2 _ (HRU.o.q (by repeat' (first | with_reducible exact HQX.o | refine Q.alloc ?_ _ | refine Q.jk ?_ _ | refine Q.drew ?_))) (HST.o.q (by repeat' (first | with_reducible exact HQX.o | refine Q.alloc ?_ _ | refine Q.jk ?_ _ | refine Q.drew ?_))) (HPS.o.q (by repeat' (first | with_reducible exact HQX.o | refine Q.alloc ?_ _ | refine Q.jk ?_ _ | refine Q.drew ?_))) HC.o HRW.o (HWV.o.q (by repeat' (first | with_reducible exact HQX.o | refine Q.alloc ?_ _ | refine Q.jk ?_ _ | refine Q.drew ?_))) (HGD.o.q (by repeat' (first | with_reducible exact HQX.o | refine Q.alloc ?_ _ | refine Q.jk ?_ _ | refine Q.drew ?_)))).q ?_); intro k4) | fail)
  refine wp_world ?_
  intro V2 eV2
  have hq2 : Q wc V2 := by rw [eV2]; exact Q.i
  have hb5 : HB V2 (wc.heap.size + k1.os.size) #[Value.bool true, Value.bool false, Value.bool false] 65 := by
   rw [eV2]
   ((repeat' (first | (with_reducible refine HB.drew ?_) | (with_reducible refine HB.jk ?_ _) | ((refine HB.new _ _ _ _ ?_); (first | with_reducible rfl | (simp only [World.size_jk, World.size_alloc]; done))) | (with_reducible refine HB.alloc ?_ _))); done)
  have hb8 : HB V2 (wc.heap.size + k1.os.size + 1 + 1 + k2.os.size) #[Value.bool false, Value.bool false, Value.bool false] 65 := by
   rw [eV2]
   ((repeat' (first | (with_reducible refine HB.drew ?_) | (with_reducible refine HB.jk ?_ _) | ((refine HB.new _ _ _ _ ?_); (first | with_reducible rfl | (simp only [World.size_jk, World.size_alloc]; done))) | (with_reducible refine HB.alloc ?_ _))); done)
  have y0 : V2.cell? ⟨gG, oG, none⟩ = some (Value.slice a0G n0G c0G) := by rw [eV2]; exact (World.cell?_jk_lt k4 _ _ ogG.lt).trans y0G
  have y1 : V2.cell? ⟨gG, oG + 1, none⟩ = some (Value.slice a1G n1G c1G) := by rw [eV2]; exact (World.cell?_jk_lt k4 _ _ ogG.lt).trans y1G
  have y2 : V2.cell? ⟨gG, oG + 2, none⟩ = some (Value.bool mvG) := by rw [eV2]; exact (World.cell?_jk_lt k4 _ _ ogG.lt).trans y2G
  have y9 : V2.cell? ⟨gG, oG + 9, none⟩ = some (Value.bool false) := by rw [eV2]; exact (World.cell?_jk_lt k4 _ _ ogG.lt).trans y9G
  have y10 : V2.cell? ⟨gG, oG + 10, none⟩ = some (Value.bool false) := by rw [eV2]; exact (World.cell?_jk_lt k4 _ _ ogG.lt).trans y10G
  have og : Old gG V2 := by rw [eV2]; exact @Old.jk _ _ _ ogG
  clear s20 s21 s22 s23 s24 s30 s31 s60 s61 oC o2 o3 o4 ogG y0G y1G y2G y3G y9G y10G eV2
  have HQX := hh (HQX.o.trans hq2)
  have hb4 := HB.q HB4.o hq2
  have h4g := hh (pat_ne hb4 y0 y1 y2)
  have h45 := hh (hb_ne_type hb4 hb5 (by decide))
  have h48 := hh (hb_ne_type hb4 hb8 (by decide))
  have h42 := hh (hb_ne_type HB4.o HB2.o (by decide))
  have h43 := hh (hb_ne_type HB4.o HB3.o (by decide))
  have h4c := hh (hb_ne_type HB4.o HBC.o (by decide))
  have HB2 := hh (HB.q HB2.o hq2)
  have HB3 := hh (HB.q HB3.o hq2)
  have HBC := hh (HB.q HBC.o hq2)
  have HB4 := hh hb4
  have HB5 := hh hb5
  have HB8 := hh hb8
  have HY9 := hh y9
  have HY10 := hh y10
  have HOG := hh og
  have hs4 : U.heap.size ≤ b4 := by have := HS4.o; have := HSV.o; omega
  have HU4 := hh hs4
  clear y0 y1 y2 y9 y10 og hq2 hb4 hb5 hb8 hs4 HQX0 HS4 HUV HBV HSV
  obtain ⟨b8, e8⟩ : ∃ b, b = wc.heap.size + k1.os.size + 1 + 1 + k2.os.size := ⟨_, rfl⟩
  obtain ⟨b5, e5⟩ : ∃ b, b = wc.heap.size + k1.os.size := ⟨_, rfl⟩
  rw [← e8] at h48 HB8 ⊢
  rw [← e5] at h45 HB5 ⊢
  clear e8 e5
  have c47 := HB4.o.cell 47
  rw [show rel0[47]? = some (Value.int .i64 2) from rfl] at c47
  have f47 := HB4.o.soft 47
  have o4 := HB4.o.old
  go_upto_region 8 with (fail)
  refine wp_world ?_
  intro V3 eV3
  have HQX : Hid (Q U V3) := hh (by rw [eV3]; exact Q.setCell HQX.o HU4.o _)
  have HB2 : Hid (HB V3 b2 #[Value.string ⟨#[115]⟩, Value.slice aB 1 1, Value.slice none 0 0, Value.slice aS 2 2, Value.slice aY 2 cY] 27) := hh (by rw [eV3]; exact HB2.o.other h42.o)
  have HB3 : Hid (HB V3 b3 #[Value.slice p.aC p.closed.length p.cC, Value.slice p.aK p.rows.length p.cK] 31) := hh (by rw [eV3]; exact HB3.o.other h43.o)
  have HBC : Hid (HB V3 U.heap.size (caseC (Value.string ⟨#[115]⟩) (Value.slice aB 1 1) (Value.slice none 0 0) (Value.slice aS 2 2) (Value.slice aY 2 cY) (Value.slice p.aC p.closed.length p.cC) (Value.slice p.aK p.rows.length p.cK) rel0 (Value.slice aW 2 cW) (Value.slice aG 2 2)) 47) := hh (by rw [eV3]; exact HBC.o.other h4c.o)
  have HB5 : Hid (HB V3 b5 #[Value.bool true, Value.bool false, Value.bool false] 65) := hh (by rw [eV3]; exact HB5.o.other h45.o)
  have HB8 : Hid (HB V3 b8 #[Value.bool false, Value.bool false, Value.bool false] 65) := hh (by rw [eV3]; exact HB8.o.other h48.o)
  have HB4 : Hid (HB V3 b4 rel1 44) := hh (by rw [eV3]; exact HB4.o.set 47 _)
  have HY9 : Hid (V3.cell? ⟨gG, oG + 9, none⟩ = some (Value.bool false)) := hh (by rw [eV3, cell_set_ne h4g.o]; exact HY9.o)
  have HY10 : Hid (V3.cell? ⟨gG, oG + 10, none⟩ = some (Value.bool false)) := hh (by rw [eV3, cell_set_ne h4g.o]; exact HY10.o)
  have HOG : Hid (Old gG V3) := hh (by rw [eV3]; exact @Old.setCell _ _ _ _ HOG.o)
  clear c47 f47 o4 eV3
  haveI : Blk V3 b4 (.cells rel1 44) := ⟨HB4.o⟩
  have s20 := HB2.o.cell 0
  have s21 := HB2.o.cell 1
  have s22 := HB2.o.cell 2
  have s23 := HB2.o.cell 3
  have s24 := HB2.o.cell 4
  have s30 := HB3.o.cell 0
  have s31 := HB3.o.cell 1
  simp only [List.getElem?_toArray, List.getElem?_cons_zero, List.getElem?_cons_succ] at s20 s21 s22 s23 s24 s30 s31
  have s60 := HBC.o.cell 60
  have s61 := HBC.o.cell 61
  rw [caseC_60] at s60
  rw [caseC_61] at s61
  have oC := HBC.o.old
  have o2 := HB2.o.old
  have o3 := HB3.o.old
  have o4 := HB4.o.old
  go_upto_region 10 with (first | (go_at_call 14; (with_reducible refine (ex_i rel1 aB aS aY cY l0 l1 p aW cW aG 2 _ (HRU.o.q (by repeat' (first | with_reducible exact HQX.o | refine Q.alloc ?_ _ | refine Q.jk ?_ _ | refine Q.drew ?_))) (HST.o.q (by repeat' (first | with_reducible exact HQX.o | refine Q.alloc ?_ _ | refine Q.jk ?_ _ | refine Q.drew ?_))) (HPS.o.q (by repeat' (first | with_reducible exact HQX.o | refine Q.alloc ?_ _ | refine Q.jk ?_ _ | refine Q.drew ?_))) HC.o HRW.o (HWV.o.q (by repeat' (first | with_reducible exact HQX.o | refine Q.alloc ?_ _ | refine Q.jk ?_ _ | refine Q.drew ?_))) (HGD.o.q (by repeat' (first | with_reducible exact HQX.o | refine Q.alloc ?_ _ | refine Q.jk ?_ _ | refine Q.drew ?_)))).q ?_); intro k5) | fail)
  refine wp_world ?_
  intro V4 eV4
  have hb4' : HB ((V3.jk k5).setBlk b4 (.cells #[Value.string ⟨#[]⟩, Value.int .i64 4, Value.int .i64 0, Value.bool false, Value.bool false, Value.int .i64 0, Value.int .i64 0, Value.int .i64 0, Value.int .i64 0, Value.bool false, Value.bool false, Value.int .i64 0, Value.int .i64 0, Value.int .i64 0, Value.int .i64 0, Value.bool false, Value.bool false, Value.int .i64 0, Value.int .i64 0, Value.int .i64 0, Value.int .i64 0, Value.int .i64 0, Value.int .i64 0, Value.int .i64 0, Value.int .i64 0, Value.int .i64 0, Value.int .i64 0, Value.bool false, Value.int .i64 0, Value.int .i64 0, Value.bool false, Value.int .i64 0, Value.int .i64 0, Value.bool false, Value.int .i64 0, Value.int .i64 0, Value.int .i64 0, Value.int .i64 0, Value.int .i64 0, Value.bool false, Value.int .i64 0, Value.int .i64 0, Value.bool false, Value.int .i64 0, Value.int .i64 0, Value.int .i64 0, Value.int .i64 0, Value.int .i64 0, Value.int .i64 0, Value.slice none 0 0, Value.slice none 0 0, Value.slice none 0 0, Value.slice none 0 0] 44)) b4 #[Value.string ⟨#[]⟩, Value.int .i64 4, Value.int .i64 0, Value.bool false, Value.bool false, Value.int .i64 0, Value.int .i64 0, Value.int .i64 0, Value.int .i64 0, Value.bool false, Value.bool false, Value.int .i64 0, Value.int .i64 0, Value.int .i64 0, Value.int .i64 0, Value.bool false, Value.bool false, Value.int .i64 0, Value.int .i64 0, Value.int .i64 0, Value.int .i64 0, Value.int .i64 0, Value.int .i64 0, Value.int .i64 0, Value.int .i64 0, Value.int .i64 0, Value.int .i64 0, Value.bool false, Value.int .i64 0, Value.int .i64 0, Value.bool false, Value.int .i64 0, Value.int .i64 0, Value.bool false, Value.int .i64 0, Value.int .i64 0, Value.int .i64 0, Value.int .i64 0, Value.int .i64 0, Value.bool false, Value.int .i64 0, Value.int .i64 0, Value.bool false, Value.int .i64 0, Value.int .i64 0, Value.int .i64 0, Value.int .i64 0, Value.int .i64 0, Value.int .i64 0, Value.slice none 0 0, Value.slice none 0 0, Value.slice none 0 0, Value.slice none 0 0] 44 := setBlk_self (HB4.o.jk k5).old _
  have hQ4 : Q U ((V3.jk k5).setBlk b4 (.cells #[Value.string ⟨#[]⟩, Value.int .i64 4, Value.int .i64 0, Value.bool false, Value.bool false, Value.int .i64 0, Value.int .i64 0, Value.int .i64 0, Value.int .i64 0, Value.bool false, Value.bool false, Value.int .i64 0, Value.int .i64 0, Value.int .i64 0, Value.int .i64 0, Value.bool false, Value.bool false, Value.int .i64 0, Value.int .i64 0, Value.int .i64 0, Value.int .i64 0, Value.int .i64 0, Value.int .i64 0, Value.int .i64 0, Value.int .i64 0, Value.int .i64 0, Value.int .i64 0, Value.bool false, Value.int .i64 0, Value.int .i64 0, Value.bool false, Value.int .i64 0, Value.int .i64 0, Value.bool false, Value.int .i64 0, Value.int .i64 0, Value.int .i64 0, Value.int .i64 0, Value.int .i64 0, Value.bool false, Value.int .i64 0, Value.int .i64 0, Value.bool false, Value.int .i64 0, Value.int .i64 0, Value.int .i64 0, Value.int .i64 0, Value.int .i64 0, Value.int .i64 0, Value.slice none 0 0, Value.slice none 0 0, Value.slice none 0 0, Value.slice none 0 0] 44)) := (Q.jk HQX.o k5).setBlk HU4.o _
  have eV : V4 = (V3.jk k5).setBlk b4 (.cells #[Value.string ⟨#[]⟩, Value.int .i64 4, Value.int .i64 0, Value.bool false, Value.bool false, Value.int .i64 0, Value.int .i64 0, Value.int .i64 0, Value.int .i64 0, Value.bool false, Value.bool false, Value.int .i64 0, Value.int .i64 0, Value.int .i64 0, Value.int .i64 0, Value.bool false, Value.bool false, Value.int .i64 0, Value.int .i64 0, Value.int .i64 0, Value.int .i64 0, Value.int .i64 0, Value.int .i64 0, Value.int .i64 0, Value.int .i64 0, Value.int .i64 0, Value.int .i64 0, Value.bool false, Value.int .i64 0, Value.int .i64 0, Value.bool false, Value.int .i64 0, Value.int .i64 0, Value.bool false, Value.int .i64 0, Value.int .i64 0, Value.int .i64 0, Value.int .i64 0, Value.int .i64 0, Value.bool false, Value.int .i64 0, Value.int .i64 0, Value.bool false, Value.int .i64 0, Value.int .i64 0, Value.int .i64 0, Value.int .i64 0, Value.int .i64 0, Value.int .i64 0, Value.slice none 0 0, Value.slice none 0 0, Value.slice none 0 0, Value.slice none 0 0] 44) := by rw [eV4, World.setBlk_jk]
  have HQX : Hid (Q U V4) := hh (by rw [eV]; exact hQ4)
  have HB2 : Hid (HB V4 b2 #[Value.string ⟨#[115]⟩, Value.slice aB 1 1, Value.slice none 0 0, Value.slice aS 2 2, Value.slice aY 2 cY] 27) := hh (by rw [eV]; exact hb_setBlk (HB2.o.jk _) h42.o)
  have HB3 : Hid (HB V4 b3 #[Value.slice p.aC p.closed.length p.cC, Value.slice p.aK p.rows.length p.cK] 31) := hh (by rw [eV]; exact hb_setBlk (HB3.o.jk _) h43.o)
  have HBC : Hid (HB V4 U.heap.size (caseC (Value.string ⟨#[115]⟩) (Value.slice aB 1 1) (Value.slice none 0 0) (Value.slice aS 2 2) (Value.slice aY 2 cY) (Value.slice p.aC p.closed.length p.cC) (Value.slice p.aK p.rows.length p.cK) rel0 (Value.slice aW 2 cW) (Value.slice aG 2 2)) 47) := hh (by rw [eV]; exact hb_setBlk (HBC.o.jk _) h4c.o)
  have HB5 : Hid (HB V4 b5 #[Value.bool true, Value.bool false, Value.bool false] 65) := hh (by rw [eV]; exact hb_setBlk (HB5.o.jk _) h45.o)
  have HB8 : Hid (HB V4 b8 #[Value.bool false, Value.bool false, Value.bool false] 65) := hh (by rw [eV]; exact hb_setBlk (HB8.o.jk _) h48.o)
  have HB4 : Hid (HB V4 b4 rel2 44) := hh (by rw [eV]; exact hb4')
  have HY9 : Hid (V4.cell? ⟨gG, oG + 9, none⟩ = some (Value.bool false)) := hh (by rw [eV, cell_blk_ne h4g.o]; exact (World.cell?_jk_lt k5 _ _ HOG.o.lt).trans HY9.o)
  have HY10 : Hid (V4.cell? ⟨gG, oG + 10, none⟩ = some (Value.bool false)) := hh (by rw [eV, cell_blk_ne h4g.o]; exact (World.cell?_jk_lt k5 _ _ HOG.o.lt).trans HY10.o)
  have HOG : Hid (Old gG V4) := hh (by rw [eV]; exact @Old.blk _ _ _ _ (@Old.jk _ _ _ HOG.o))
  clear s20 s21 s22 s23 s24 s30 s31 s60 s61 oC o2 o3 o4 eV4 eV hb4' hQ4
  have WV1 := hh (wv_one HWV.o)
  have hcw : (1 : Int) ≤ (cW : Int) := by have := HWV.o.1.2.1; omega
  haveI : Blk V4 b4 (.cells rel2 44) := ⟨HB4.o⟩
  have s20 := HB2.o.cell 0
  have s21 := HB2.o.cell 1
  have s22 := HB2.o.cell 2
  have s23 := HB2.o.cell 3
  have s24 := HB2.o.cell 4
  have s30 := HB3.o.cell 0
  have s31 := HB3.o.cell 1
  simp only [List.getElem?_toArray, List.getElem?_cons_zero, List.getElem?_cons_succ] at s20 s21 s22 s23 s24 s30 s31
  have s60 := HBC.o.cell 60
  have s61 := HBC.o.cell 61
  rw [caseC_60] at s60
  rw [caseC_61] at s61
  have oC := HBC.o.old
  have o2 := HB2.o.old
  have o3 := HB3.o.old
  have o4 := HB4.o.old
  try simp only [List.append]
  refine wrj (by kernel_rfl) ?_
  repeat (go_big_quiet_step ((go_at_call 14; exact Calls.jk_of (ex_j rel2 aB aS aY cY l0 l1 p aW cW aG 2 _ (HRU.o.q (by repeat' (first | with_reducible exact HQX.o | refine Q.alloc ?_ _ | refine Q.jk ?_ _ | refine Q.drew ?_))) (HST.o.q (by repeat' (first | with_reducible exact HQX.o | refine Q.alloc ?_ _ | refine Q.jk ?_ _ | refine Q.drew ?_))) (HPS.o.q (by repeat' (first | with_reducible exact HQX.o | refine Q.alloc ?_ _ | refine Q.jk ?_ _ | refine Q.drew ?_))) HC.o HRW.o (WV1.o.q (by repeat' (first | with_reducible exact HQX.o | refine Q.alloc ?_ _ | refine Q.jk ?_ _ | refine Q.drew ?_))) (HGD.o.q (by repeat' (first | with_reducible exact HQX.o | refine Q.alloc ?_ _ | refine Q.jk ?_ _ | refine Q.drew ?_)))))))
  refine wq0 fun kq => ?_
  have y9 := HY9.o
  have y10 := HY10.o
  have oG' := HOG.o
  have a0 := HB5.o.cell 0
  have a1 := HB5.o.cell 1
  have a2 := HB5.o.cell 2
  have d0 := HB8.o.cell 0
  have d1 := HB8.o.cell 1
  have d2 := HB8.o.cell 2
  simp only [List.getElem?_toArray, List.getElem?_cons_zero, List.getElem?_cons_succ] at a0 a1 a2 d0 d1 d2
  have oA := HB5.o.old
  have oB := HB8.o.old
  have hlen : (0 : Int) < 1 := by decide
  go_wp2_with (first | (go_at_call 14; (with_reducible refine (ex_k rel2 aB aS aY cY l0 l1 p aW cW aG 2 _ (HRU.o.q (by repeat' (first | with_reducible exact HQX.o | refine Q.alloc ?_ _ | refine Q.jk ?_ _ | refine Q.drew ?_))) (HST.o.q (by repeat' (first | with_reducible exact HQX.o | refine Q.alloc ?_ _ | refine Q.jk ?_ _ | refine Q.drew ?_))) (HPS.o.q (by repeat' (first | with_reducible exact HQX.o | refine Q.alloc ?_ _ | refine Q.jk ?_ _ | refine Q.drew ?_))) HC.o HRW.o (HWV.o.q (by repeat' (first | with_reducible exact HQX.o | refine Q.alloc ?_ _ | refine Q.jk ?_ _ | refine Q.drew ?_))) (HGD.o.q (by repeat' (first | with_reducible exact HQX.o | refine Q.alloc ?_ _ | refine Q.jk ?_ _ | refine Q.drew ?_)))).mono ?_); rintro e w' ⟨gK, oK, cK, n0K, c0K, n1K, c1K, a0K, a1K, mvK, rfl, ⟨k6, rfl⟩, ogK, y0K, y1K, y2K, y3K, y9K, y10K⟩; have m3 := (y3K rfl).1; have m4 := (y3K rfl).2.1; have m5 := (y3K rfl).2.2; clear y3K) | (go_at_call 8; (with_reducible refine (known34_c _ (HRU.o.q (by repeat' (first | with_reducible exact HQX.o | refine Q.alloc ?_ _ | refine Q.jk ?_ _ | refine Q.drew ?_)))).q ?_); intro kz) | fail)
  go_ret
  exact ⟨rfl, HU.o.trans (by repeat' (first | with_reducible exact HQX.o | refine Q.alloc ?_ _ | refine Q.jk ?_ _ | refine Q.drew ?_))⟩
end Go.Proofs.YtcjflafjmdfanaaGreatDoor
