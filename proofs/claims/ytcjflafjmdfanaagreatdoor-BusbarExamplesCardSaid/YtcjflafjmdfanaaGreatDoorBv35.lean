
/- What small says of a case; Sections in one form, with or without an error; the elements of two slices compared. -/
import Derived.Test.YtcjflafjmdfanaaGreatDoorBv24
import Derived.Test.YtcjflafjmdfanaaGreatDoorBv25
import Derived.Deep.MidRow
import Derived.Test.YtcjflafjmdfanaaGreatDoorBv34
import Derived.Test.YtcjflafjmdfanaaGreatDoorBv02
set_option maxHeartbeats 64000000
set_option maxRecDepth 100000
set_option linter.unusedSimpArgs false
set_option linter.unusedVariables false
/- The case of a law: its cells, and how parts of it are read. -/
namespace Go.Sub
open Go
def caseC (v0 v1 v2 v3 v4 v5 v6 : Value) (cs : Array Value) (v7 v8 : Value) : Array Value := #[v0, v1, v2, v3, v4, v5, v6] ++ cs ++ #[v7, v8]
def rel0 : Array Value := #[Value.string ⟨#[114]⟩, Value.int .i64 4, Value.int .i64 (-1), Value.bool false, Value.bool false, Value.int .i64 0, Value.int .i64 0, Value.int .i64 0, Value.int .i64 0, Value.bool false, Value.bool false, Value.int .i64 0, Value.int .i64 0, Value.int .i64 0, Value.int .i64 0, Value.bool false, Value.bool false, Value.int .i64 0, Value.int .i64 0, Value.int .i64 0, Value.int .i64 0, Value.int .i64 0, Value.int .i64 0, Value.int .i64 0, Value.int .i64 0, Value.int .i64 0, Value.int .i64 0, Value.bool false, Value.int .i64 0, Value.int .i64 0, Value.bool false, Value.int .i64 0, Value.int .i64 0, Value.bool false, Value.int .i64 0, Value.int .i64 0, Value.int .i64 0, Value.int .i64 0, Value.int .i64 0, Value.bool false, Value.int .i64 0, Value.int .i64 0, Value.bool false, Value.int .i64 0, Value.int .i64 0, Value.int .i64 5, Value.int .i64 1, Value.int .i64 2, Value.int .i64 0, Value.slice none 0 0, Value.slice none 0 0, Value.slice none 0 0, Value.slice none 0 0]
end Go.Sub
namespace Go.Proofs.YtcjflafjmdfanaaGreatDoor
open Go.RowKit Go.Sub
attribute [local go_sem ↓] Go.wp_at_zero Go.wp_at_succ
@[go_sem] theorem caseC_0 (v0 v1 v2 v3 v4 v5 v6 : Value) (cs : Array Value) (v7 v8 : Value) : (caseC v0 v1 v2 v3 v4 v5 v6 cs v7 v8)[0]? = some v0 := by
 unfold caseC
 rw [Array.getElem?_append_left (by simp; omega), Array.getElem?_append_left (by simp)]
 rfl
@[go_sem] theorem caseC_1 (v0 v1 v2 v3 v4 v5 v6 : Value) (cs : Array Value) (v7 v8 : Value) : (caseC v0 v1 v2 v3 v4 v5 v6 cs v7 v8)[1]? = some v1 := by
 unfold caseC
 rw [Array.getElem?_append_left (by simp; omega), Array.getElem?_append_left (by simp)]
 rfl
@[go_sem] theorem caseC_2 (v0 v1 v2 v3 v4 v5 v6 : Value) (cs : Array Value) (v7 v8 : Value) : (caseC v0 v1 v2 v3 v4 v5 v6 cs v7 v8)[2]? = some v2 := by
 unfold caseC
 rw [Array.getElem?_append_left (by simp; omega), Array.getElem?_append_left (by simp)]
 rfl
@[go_sem] theorem caseC_3 (v0 v1 v2 v3 v4 v5 v6 : Value) (cs : Array Value) (v7 v8 : Value) : (caseC v0 v1 v2 v3 v4 v5 v6 cs v7 v8)[3]? = some v3 := by
 unfold caseC
 rw [Array.getElem?_append_left (by simp; omega), Array.getElem?_append_left (by simp)]
 rfl
@[go_sem] theorem caseC_4 (v0 v1 v2 v3 v4 v5 v6 : Value) (cs : Array Value) (v7 v8 : Value) : (caseC v0 v1 v2 v3 v4 v5 v6 cs v7 v8)[4]? = some v4 := by
 unfold caseC
 rw [Array.getElem?_append_left (by simp; omega), Array.getElem?_append_left (by simp)]
 rfl
@[go_sem] theorem caseC_5 (v0 v1 v2 v3 v4 v5 v6 : Value) (cs : Array Value) (v7 v8 : Value) : (caseC v0 v1 v2 v3 v4 v5 v6 cs v7 v8)[5]? = some v5 := by
 unfold caseC
 rw [Array.getElem?_append_left (by simp; omega), Array.getElem?_append_left (by simp)]
 rfl
@[go_sem] theorem caseC_6 (v0 v1 v2 v3 v4 v5 v6 : Value) (cs : Array Value) (v7 v8 : Value) : (caseC v0 v1 v2 v3 v4 v5 v6 cs v7 v8)[6]? = some v6 := by
 unfold caseC
 rw [Array.getElem?_append_left (by simp; omega), Array.getElem?_append_left (by simp)]
 rfl
@[go_sem] theorem caseC_60 (v0 v1 v2 v3 v4 v5 v6 : Value) (cs : Array Value) (v7 v8 : Value) (r : Rel) [h : RelC cs r] : (caseC v0 v1 v2 v3 v4 v5 v6 cs v7 v8)[60]? = some v7 := by
 unfold caseC
 rw [Array.getElem?_append_right (by simp [h.size])]
 simp [h.size]
@[go_sem] theorem caseC_61 (v0 v1 v2 v3 v4 v5 v6 : Value) (cs : Array Value) (v7 v8 : Value) (r : Rel) [h : RelC cs r] : (caseC v0 v1 v2 v3 v4 v5 v6 cs v7 v8)[61]? = some v8 := by
 unfold caseC
 rw [Array.getElem?_append_right (by simp [h.size])]
 simp [h.size]
theorem caseC_size (v0 v1 v2 v3 v4 v5 v6 : Value) (cs : Array Value) (v7 v8 : Value) (r : Rel) [h : RelC cs r] : (caseC v0 v1 v2 v3 v4 v5 v6 cs v7 v8).size = 62 := by
 unfold caseC
 simp [h.size]
theorem caseC_mid (v0 v1 v2 v3 v4 v5 v6 : Value) (cs : Array Value) (v7 v8 : Value) (r : Rel) [h : RelC cs r] (j : Nat) (v : Value) (hj : cs[j]? = some v) : (caseC v0 v1 v2 v3 v4 v5 v6 cs v7 v8)[7 + j]? = some v := by
 have hl := (Array.getElem?_eq_some_iff.1 hj).1
 unfold caseC
 rw [Array.getElem?_append_left (by simp; omega), Array.getElem?_append_right (by simp)]
 simpa using hj
@[go_sem] theorem caseC_set60 (v0 v1 v2 v3 v4 v5 v6 : Value) (cs : Array Value) (v7 v8 : Value) (r : Rel) [h : RelC cs r] (v : Value) : (caseC v0 v1 v2 v3 v4 v5 v6 cs v7 v8).setIfInBounds 60 v = caseC v0 v1 v2 v3 v4 v5 v6 cs v v8 := by
 unfold caseC
 apply Array.ext_getElem?
 intro i
 have hs : (#[v0, v1, v2, v3, v4, v5, v6] ++ cs).size = 60 := by simp [h.size]
 generalize #[v0, v1, v2, v3, v4, v5, v6] ++ cs = X at hs ⊢
 rw [Array.getElem?_setIfInBounds]
 by_cases e : 60 = i
 ·subst e
  rw [if_pos rfl, if_pos (by simp [hs]), Array.getElem?_append_right (by rw [hs]; exact Nat.le_refl _), hs]
  rfl
 rw [if_neg e]
 by_cases h1 : i < 60
 ·rw [Array.getElem?_append_left (by rw [hs]; exact h1), Array.getElem?_append_left (by rw [hs]; exact h1)]
 rw [Array.getElem?_append_right (by rw [hs]; omega), Array.getElem?_append_right (by rw [hs]; omega), hs]
 obtain ⟨j, rfl⟩ : ∃ j, i = 61 + j := ⟨i - 61, by omega⟩
 rw [show 61 + j - 60 = j + 1 by omega]
 simp
@[go_sem ↓ high] theorem lvCase34 (a : Addr) : loadVar 47 a = bigLoad 47 a := rfl
@[go_sem ↓ high] theorem svCase34 (a : Addr) (v : Value) : storeVar 47 a v = bigStore 47 a v := rfl
theorem infoCase34 : (Tryz.prog.info? 47).map (·.size) = some 62 := by kernel_rfl
class C62 (cs : Array Value) : Prop where
 eq : cs.size = 62
instance (v0 v1 v2 v3 v4 v5 v6 : Value) (cs : Array Value) (v7 v8 : Value) {r : Rel} [h : RelC cs r] : C62 (caseC v0 v1 v2 v3 v4 v5 v6 cs v7 v8) := ⟨caseC_size _ _ _ _ _ _ _ _ _ _ r⟩
instance (x0 x1 x2 x3 x4 x5 x6 x7 x8 x9 x10 x11 x12 x13 x14 x15 x16 x17 x18 x19 x20 x21 x22 x23 x24 x25 x26 x27 x28 x29 x30 x31 x32 x33 x34 x35 x36 x37 x38 x39 x40 x41 x42 x43 x44 x45 x46 x47 x48 x49 x50 x51 x52 x53 x54 x55 x56 x57 x58 x59 x60 x61 : Value) : C62 #[x0, x1, x2, x3, x4, x5, x6, x7, x8, x9, x10, x11, x12, x13, x14, x15, x16, x17, x18, x19, x20, x21, x22, x23, x24, x25, x26, x27, x28, x29, x30, x31, x32, x33, x34, x35, x36, x37, x38, x39, x40, x41, x42, x43, x44, x45, x46, x47, x48, x49, x50, x51, x52, x53, x54, x55, x56, x57, x58, x59, x60, x61] := ⟨rfl⟩
@[go_sem ↓ high] theorem rlCase34 {w : World} {n : Nat} {cs : Array Value} {t : TypeId} {fr : Nat × Nat} [h : Blk w n (.cells cs t fr)] [hs : C62 cs] :
  (bigLoad 47 ⟨n, 0, none⟩).run Tryz.prog w = .ok (.agg cs) w := run_bigLoad Tryz.underlying47 rfl (by rw [hs.eq]; exact infoCase34)
@[go_sem ↓ high] theorem rlRelay7 {w : World} {n : Nat} {v0 v1 v2 v3 v4 v5 v6 : Value} {cs : Array Value} {v7 v8 : Value} {r : Rel} {t : TypeId} {fr : Nat × Nat} [h : Blk w n (.cells (caseC v0 v1 v2 v3 v4 v5 v6 cs v7 v8) t fr)] [hs : RelC cs r] :
  (bigLoad 44 ⟨n, 7, none⟩).run Tryz.prog w = .ok (.agg cs) w := by
 have := run_loadVar_mid (P := Tryz.prog) w n 7 44 cs.toList _ (fun j v hj => by
  rw [cell_of_row _ _ _ _ _ _ h.eq]
  exact caseC_mid _ _ _ _ _ _ _ _ _ _ r j v (by simpa using hj)) Tryz.underlying44 rfl (by rw [Array.length_toList, hs.size]; exact infoRelay)
 unfold bigLoad
 rw [this]
class Ones53 (cs : Array Value) : Prop where
 eq : cs.all (·.oneCell') = true
instance (v0 v1 v2 v3 v4 v5 v6 : Value) (cs : Array Value) (v7 v8 : Value) [h0 : OneC v0] [h1 : OneC v1] [h2 : OneC v2] [h3 : OneC v3] [h4 : OneC v4] [h5 : OneC v5] [h6 : OneC v6] [h : Ones53 cs] [h7 : OneC v7] [h8 : OneC v8] : Ones (caseC v0 v1 v2 v3 v4 v5 v6 cs v7 v8) := ⟨by
 unfold caseC
 rw [Array.all_append, Array.all_append, h.eq]
 simp [h0.eq, h1.eq, h2.eq, h3.eq, h4.eq, h5.eq, h6.eq, h7.eq, h8.eq]⟩
@[go_sem ↓ high] theorem rsCase34 {w : World} {n : Nat} {cur cs : Array Value} {t : TypeId} [h : Blk w n (.cells cur t)] [hc : C62 cur] [hs : C62 cs] [h1 : Ones cs] :
  (bigStore 47 ⟨n, 0, none⟩ (.agg cs)).run Tryz.prog w = .ok () (w.setBlk n (.cells cs t)) := run_bigStore (by rw [hs.eq]; exact infoCase34) (by rw [hc.eq, hs.eq])
instance : RelC rel0 ⟨4, 5, 1, 2, 0⟩ := ⟨rfl, rfl, rfl, rfl, rfl, rfl⟩
instance : Ones53 rel0 := ⟨by decide +kernel⟩
end Go.Proofs.YtcjflafjmdfanaaGreatDoor
/- What Trips of package busbar returns. -/
namespace Go.Proofs.YtcjflafjmdfanaaGreatDoor
open Go.RowKit Go.Sub
attribute [local go_sem ↓] Go.wp_at_zero Go.wp_at_succ
theorem copy_arr (w : World) (g g2 : Nat) {n : Nat} {F T : Nat → Value} (hb : HB w g (arrF F n) 4) (hb2 : HB w g2 (arrF T n) 4) (h1 : ∀ j, (T j).oneCell' = true) : (Builtin.copy_ #[28, 28] 3 #[.slice (some ⟨g, 0, none⟩) n n, .slice (some ⟨g2, 0, none⟩) n n]).run Tryz.prog w = .ok (.int .i64 n) (w.setRow g (arrF T n)) := by
 have e1 : ((List.range n).map T).length = n := by simp
 have := run_copy_row (P := Tryz.prog) w 28 28 3 4 g 0 n n ⟨g2, 0, none⟩ n n (arrF F n) 4 ((List.range n).map T) Tryz.underlying28 (by kernel_rfl) hb (by rw [e1]; simp) (fun j v hj => by
  have hjn : j < n := by have := (List.getElem?_eq_some_iff.1 hj).1; rwa [e1] at this
  rw [addr_add0, Nat.zero_add, hb2.cell, arrF_get T hjn]
  rw [List.getElem?_map, List.getElem?_range hjn] at hj
  exact hj) (by rw [e1, arrF_size]; omega) (fun v hv => by
  obtain ⟨j, _, rfl⟩ := List.mem_map.1 hv
  exact h1 j)
 rw [this, e1]
 have e2 : ((arrF F n).toList.take 0 ++ (List.range n).map T ++ (arrF F n).toList.drop (0 + n)).toArray = arrF T n := by
  rw [List.take_zero, List.nil_append, List.drop_of_length_le (by simp [arrF]), List.append_nil]
  rfl
 rw [e2]
 rfl
theorem Q.setRow {a w : World} (h : Q a w) {g : Nat} (hg : a.heap.size ≤ g) (cs : Array Value) : Q a (w.setRow g cs) := by
 have hb := h.below
 exact Q.of_below ⟨hb.os, hb.tape, hb.output, by simp only [size_setRow]; exact hb.size, fun k hk => (setRow_other w g k cs (by omega)).trans (hb.block k hk)⟩
theorem HB.setRow {w : World} {g : Nat} {cs : Array Value} {t : TypeId} (h : HB w g cs t) (cs' : Array Value) : HB (w.setRow g cs') g cs' t := setRow_heap w g cs cs' t (0, 0) h
theorem RdN.set_other {w : World} {g g2 o n c i : Nat} {q : IntKind} {l : List Int} {v : Value} (h : RdN w (some ⟨g2, o, none⟩) n c q l) (hne : g2 ≠ g) : RdN (w.setCell ⟨g, i, none⟩ v) (some ⟨g2, o, none⟩) n c q l := by
 refine ⟨h.1, h.2.1, fun hn => ?_, fun e => by cases e⟩
 obtain ⟨g', o', e, hlt, hc⟩ := h.2.2.1 hn
 injection e with e
 injection e with e1 e2
 subst e1 e2
 refine ⟨g2, o, rfl, by rw [World.size_setCell]; exact hlt, fun j u hj => ?_⟩
 rw [← hc j u hj]
 exact World.cell?_of_block (w := w) (a := ⟨g2, o + j, none⟩) (Below.heap_setCell _ _ _ g2 (fun e => hne e))
def RetTr (E : Int) (T : Nat → Bool) (nY : Nat) (w : World) (e : Ending) (w' : World) : Prop := ∃ (A : Option Addr) (n c : Nat), e = .returned (.tuple #[.slice A n c, .int .i64 E]) ∧ Q w w' ∧ (E ≠ 0 → n = 0) ∧ (E = 0 → n = nY ∧ ∃ g, A = some ⟨g, 0, none⟩ ∧ HB w' g (arrF (fun b => .bool (T b)) nY) 4)
theorem RetTr.no {E : Int} {T : Nat → Bool} {nY : Nat} {w w' : World} {e : Ending} (hE : E ≠ 0) (he : e = .returned (.tuple #[.slice none 0 0, .int .i64 E])) (hq : Q w w') : RetTr E T nY w e w' := ⟨none, 0, 0, he, hq, fun _ => rfl, fun h => absurd h hE⟩
def tpB (s : Sta) (p : Pos) (FL : List Bool) (f : Sec → Prt) (b : Nat) : Bool := tgB s p FL s.bays.length b || trB (imI s p) f b
theorem trips_c (s : Sta) (p : Pos) (cs : Array Value) (r : Rel) [hR : RelC cs r] (aW : Option Addr) (nW cW : Nat) (W : List Int) (aG : Option Addr) (nG cG : Nat) (G : List Bool) (aF : Option Addr) (nF cF : Nat) (FL : List Bool) (w : World) (hr : RootsOK w) (hst : StAt w s) (hps : PosAt w p) (hW : WvAt w aW nW cW W) (hG : GdAt w aG nG cG G) (hF : GdAt w aF nF cF FL) :
  Calls Tryz.prog 9 #[.agg #[Value.string s.nm, Value.slice s.aB s.buses.length s.cB, Value.slice s.aL s.lines.length s.cL, Value.slice s.aS s.srcs.length s.cS, Value.slice s.aY s.bays.length s.cY], .agg #[Value.slice p.aC p.closed.length p.cC, Value.slice p.aK p.rows.length p.cK], .agg cs, .slice aW nW cW, .slice aG nG cG, .slice aF nF cF] w (RetTr (seE s p r W G nW nG nF) (tpB s p FL (prS s W G r)) s.bays.length w) := by
 have PLC0 := hh fun (w' : World) (hq : Q w w') => place_c s p w' (hst.q hq) (hps.q hq)
 have hF9 := hF.2
 have f0 : (0 : Int) ≤ (nF : Int) := by omega
 by_cases hE1 : orE (stE s) (psE s p) = 0
 rotate_left
 ·have ESE : seE s p r W G nW nG nF = orE (stE s) (psE s p) := by unfold seE; exact if_neg hE1
  rw [ESE]
  have HZ := hh hE1
  have z' : (orE (stE s) (psE s p) != 0) = true := by simpa using hE1
  generalize orE (stE s) (psE s p) = E at PLC0 HZ z' ⊢
  clear hst hps hW hG hF hE1 ESE hF9
  go_enter Tryz.func9, Tryz.ntmps9
  go_wp2_with (first | (go_at_call 18; (with_reducible refine (PLC0.o _ Q.i).q ?_); intro k0) | fail)
  go_ret2
  exact RetTr.no HZ.o rfl Q.i
 obtain ⟨h1, h2⟩ := orE_zero hE1
 have hga : GoodAt w s p := ⟨hst, hps, h1, h2⟩
 have hlens := hga.lens
 have CKC0 := hh fun (w' : World) (hq : Q w w') => check_c s cs r aW nW cW W aG nG cG G nF w' (hW.q hq) (hG.q hq) (by omega)
 have ESE : seE s p r W G nW nG nF = ckE r W G s.bays.length nW nG nF := by unfold seE; rw [hE1]; rfl
 rw [hE1] at PLC0
 rw [ESE]
 by_cases hck : ckE r W G s.bays.length nW nG nF = 0
 rotate_left
 ·have HZ := hh hck
  have z' : (ckE r W G s.bays.length nW nG nF != 0) = true := by simpa using hck
  generalize ckE r W G s.bays.length nW nG nF = E at CKC0 HZ z' ⊢
  clear hst hps hW hG hF hlens h1 h2 hE1 ESE hck hga hF9
  go_enter Tryz.func9, Tryz.ntmps9
  go_wp2_with (first | (go_at_call 18; (with_reducible refine (PLC0.o _ Q.i).q ?_); intro k0) | (go_at_call 19; (with_reducible refine (CKC0.o _ Q.i).q ?_); intro k1) | fail)
  go_ret2
  exact RetTr.no HZ.o rfl Q.i
 obtain ⟨_, hu, e1, e2, e3, hw⟩ := ckE_zero hck
 have e3' : nF = s.bays.length := by omega
 subst e1
 subst e2
 subst e3'
 rw [hck] at CKC0 ⊢
 have SEC0 := hh fun (w' : World) (hq : Q w w') => sections_c s p cs r aW cW W aG cG G w' (hr.q hq) (hga.q hq) (hW.q hq) (hG.q hq) hu hw
 unfold RetPr at SEC0
 have TGC0 := hh fun (w' : World) (hq : Q w w') => targets_c s p aF cF FL w' (hga.q hq) (hF.q hq)
 unfold RetTg at TGC0
 have HIP : Hid (∀ x ∈ imI s p, x.mem.length ≤ 16 ∧ x.buses.length ≤ s.buses.length ∧ ∀ m ∈ x.mem, ∃ k : Nat, m.1 = (k : Int) ∧ k < s.bays.length) := hh (imF_prop s p _ _ (by omega))
 have HIL : (imI s p).length ≤ 4 := by
  have := imF_len s p (grI s (rsP p)) s.buses.length
  unfold imI
  omega
 have HTP : Hid (tpB s p FL (prS s W G r) = fun b => tgB s p FL s.bays.length b || trB (imI s p) (prS s W G r) b) := hh (by funext b; rfl)
 have HTR := hh fun rs b => trB_map rs (prS s W G r) b
 generalize tpB s p FL (prS s W G r) = TP at HTP ⊢
 generalize tgB s p FL s.bays.length = TG at TGC0 HTP
 generalize prS s W G r = PS at SEC0 HTP HTR
 generalize imI s p = IM at SEC0 HIP HIL HTP
 have hY16 : s.bays.length ≤ 16 := by omega
 have n0 : (0 : Int) ≤ (s.bays.length : Int) := by omega
 have hmk := fun w => make_boolB w s.bays.length (by omega)
 clear hst hps hW hG hF hlens h1 h2 hE1 ESE hck hu hw hga e3 hF9
 go_enter Tryz.func9, Tryz.ntmps9
 go_upto_region 1 with fail
 refine wp_world ?_
 intro V eV
 have hq0 : Q w V := by rw [eV]; exact Q.i
 have hb : HB V w.heap.size #[Value.string s.nm, Value.slice s.aB s.buses.length s.cB, Value.slice s.aL s.lines.length s.cL, Value.slice s.aS s.srcs.length s.cS, Value.slice s.aY s.bays.length s.cY] 27 := by rw [eV]; exact (HB.new _ _ _ _ rfl).q Q.i
 have hb2 : HB V (w.heap.size + 1) #[Value.slice p.aC p.closed.length p.cC, Value.slice p.aK p.rows.length p.cK] 31 := by rw [eV]; exact (HB.new (w.alloc (Obj.cells #[Value.string s.nm, Value.slice s.aB s.buses.length s.cB, Value.slice s.aL s.lines.length s.cL, Value.slice s.aS s.srcs.length s.cS, Value.slice s.aY s.bays.length s.cY] 27)) _ _ _ (by simp)).q Q.i
 have hb3 : HB V (w.heap.size + 1 + 1) cs 44 := by rw [eV]; exact HB.new ((w.alloc (Obj.cells #[Value.string s.nm, Value.slice s.aB s.buses.length s.cB, Value.slice s.aL s.lines.length s.cL, Value.slice s.aS s.srcs.length s.cS, Value.slice s.aY s.bays.length s.cY] 27)).alloc (Obj.cells #[Value.slice p.aC p.closed.length p.cC, Value.slice p.aK p.rows.length p.cK] 31)) _ _ _ (by simp)
 have HQ0 := hh hq0
 have HBX := hh hb
 have HBX2 := hh hb2
 have HBX3 := hh hb3
 have PLC := hh fun (w' : World) (hq : Q V w') => PLC0.o w' (HQ0.o.trans hq)
 have CKC := hh fun (w' : World) (hq : Q V w') => CKC0.o w' (HQ0.o.trans hq)
 have SEC := hh fun (w' : World) (hq : Q V w') => SEC0.o w' (HQ0.o.trans hq)
 clear eV hq0 hb hb2 hb3 PLC0 CKC0 SEC0
 generalize w.heap.size + 1 + 1 = b3 at HBX3 ⊢
 generalize w.heap.size + 1 = b2 at HBX2 ⊢
 generalize w.heap.size = b at HBX ⊢
 have s0 := HBX.o.cell 0
 have s1 := HBX.o.cell 1
 have s2 := HBX.o.cell 2
 have s3 := HBX.o.cell 3
 have s4 := HBX.o.cell 4
 have p0 := HBX2.o.cell 0
 have p1 := HBX2.o.cell 1
 simp only [List.getElem?_toArray, List.getElem?_cons_zero, List.getElem?_cons_succ] at s0 s1 s2 s3 s4 p0 p1
 have ob := HBX.o.old
 have ob2 := HBX2.o.old
 haveI bk3 : Blk V b3 (Obj.cells cs 44) := ⟨HBX3.o⟩
 go_upto_region 10 with (first | (go_at_call 18; (with_reducible refine (PLC.o _ Q.i).q ?_); intro k0) | (go_at_call 19; (with_reducible refine (CKC.o _ Q.i).q ?_); intro k1) | (go_at_call 20; (with_reducible refine (SEC.o _ Q.i).mono ?_); rintro e w' ⟨A, c, rs, rfl, ⟨k2, rfl⟩, hd, hpr⟩) | fail)
 refine wp_world ?_
 intro U eU
 have HPR : Hid (PrAt U A c rs PS) := hh (by rw [eU]; exact hpr)
 have hqU : Q V U := by rw [eU]; exact Q.i
 have HQU := hh (HQ0.o.trans hqU)
 have HBX : Hid (HB U b #[Value.string s.nm, Value.slice s.aB s.buses.length s.cB, Value.slice s.aL s.lines.length s.cL, Value.slice s.aS s.srcs.length s.cS, Value.slice s.aY s.bays.length s.cY] 27) := hh (HBX.o.q hqU)
 have HBX2 : Hid (HB U b2 #[Value.slice p.aC p.closed.length p.cC, Value.slice p.aK p.rows.length p.cK] 31) := hh (HBX2.o.q hqU)
 have HD := hh hd
 have hrs4 : rs.length ≤ 4 := by rw [← hd, List.length_map] at HIL; exact HIL
 obtain ⟨n, en⟩ : ∃ n, rs.length = n := ⟨_, rfl⟩
 rw [en] at hrs4 ⊢
 have HN := hh en
 have hms := fun w => make_secB w n (by omega)
 have hn0 : (0 : Int) ≤ (n : Int) := by omega
 have TGC := hh fun (w' : World) (hq : Q U w') => TGC0.o w' (HQU.o.trans hq)
 clear eU hqU hd hpr en HIL s0 s1 s2 s3 s4 p0 p1 ob ob2 bk3 PLC CKC SEC HBX3 TGC0 HQ0
 have s0 := HBX.o.cell 0
 have s1 := HBX.o.cell 1
 have s2 := HBX.o.cell 2
 have s3 := HBX.o.cell 3
 have s4 := HBX.o.cell 4
 have p0 := HBX2.o.cell 0
 have p1 := HBX2.o.cell 1
 simp only [List.getElem?_toArray, List.getElem?_cons_zero, List.getElem?_cons_succ] at s0 s1 s2 s3 s4 p0 p1
 have ob := HBX.o.old
 have ob2 := HBX2.o.old
 go_upto_region 12 with (first
  | (go_at_call 21; (with_reducible refine (TGC.o _ Q.i).mono ?_); rintro e w' ⟨g2, rfl, ⟨kt, rfl⟩, hgt, htb⟩; have hcp := copy_arr ((U.alloc (Obj.cells (arrF (fun _ => Value.bool false) s.bays.length) 4)).jk kt) U.heap.size g2 ((HB.new _ _ _ _ rfl).jk kt) htb (fun _ => rfl))
  | fail)
 refine wp_world ?_
 intro U2 eU2
 have HQ2 : Hid (Q U U2) := hh (by rw [eU2]; exact Q.setRow Q.i (Nat.le_refl _) _)
 have HT2 : Hid (HB U2 U.heap.size (arrF (fun b => .bool (TG b)) s.bays.length) 4) := hh (by rw [eU2]; exact HB.setRow ((HB.new _ _ _ _ rfl).jk kt) _)
 clear eU2 hcp htb hgt s0 s1 s2 s3 s4 p0 p1 ob ob2 HBX HBX2 TGC
 have hu2 := HQ2.o.below.size
 go_wp2_with fail
 go_loopw [67] (fun i wr => ∃ (k : Nat) (F : Nat → Value), i = .int .i64 k ∧ k ≤ n ∧ Q (U2.alloc (Obj.cells (arrF F (n * 3)) 64)) wr ∧ Hid (∀ j a q, j < k → rs[j]? = some a → q < 3 → some (F (j * 3 + q)) = (secC a)[q]?)) (fun i _ => n - (intOf i).toNat)
 case atStart => exact ⟨0, _, rfl, Nat.zero_le _, (by repeat' (first | exact Q.refl _ | refine Q.alloc ?_ _ | refine Q.jk ?_ _ | refine Q.drew ?_)), hh (fun j a q hj => absurd hj (Nat.not_lt_zero _))⟩
 case round =>
 obtain ⟨k, F, rfl, hk, ⟨kk, rfl⟩, HF⟩ := hrel
 by_cases hlt : k < n
 ·have HPR2 := hh (HPR.o.q HQ2.o)
  obtain ⟨a, ha⟩ : ∃ a, rs[k]? = some a := ⟨_, List.getElem?_eq_getElem (by rw [HN.o]; exact hlt)⟩
  obtain ⟨g4, o4, rfl, og4, hc4⟩ := PrAt.at_ HPR2.o (by rw [HN.o]; omega)
  have x0 := hc4.o k a 0 _ ha (by decide) rfl
  have x1 := hc4.o k a 1 _ ha (by decide) rfl
  have x2 := hc4.o k a 2 _ ha (by decide) rfl
  rw [Nat.add_zero] at x0
  have HA := hh ha
  have k0' : (0 : Int) ≤ (k : Int) := by omega
  have k1' : (k : Int) < (n : Int) := by omega
  have e0 : (arrF F (n * 3))[k * 3]? = some (F (k * 3)) := arrF_get F (by omega)
  have e1 : (arrF F (n * 3))[k * 3 + 1]? = some (F (k * 3 + 1)) := arrF_get F (by omega)
  have e2 : (arrF F (n * 3))[k * 3 + 2]? = some (F (k * 3 + 2)) := arrF_get F (by omega)
  clear hc4 ha
  go_wp2_with fail
  go_roundw
  case rel =>
   simp only [arrF_set]
   refine ⟨k + 1, _, by go_num, by omega, (by repeat' (first | exact Q.refl _ | refine Q.alloc ?_ _ | refine Q.jk ?_ _ | refine Q.drew ?_)), hh (fun j a' q hj ha' hq => ?_)⟩
   by_cases e : j = k
   rotate_left
   ·rw [updF_other _ _ (by omega), updF_other _ _ (by omega), updF_other _ _ (by omega)]
    exact HF.o j a' q (by omega) ha' hq
   subst e
   rw [HA.o] at ha'
   obtain rfl := Option.some.inj ha'
   rcases (by omega : q = 0 ∨ q = 1 ∨ q = 2) with rfl | rfl | rfl <;> simp [updF, secC]
  case measure => simp [intOf] <;> omega
 obtain rfl : k = n := by omega
 refine wp_world ?_
 intro U3 eU3
 have HQ3 : Hid (Q U2 U3) := hh (by rw [eU3]; exact Q.i)
 have HS3 : Hid (HB U3 U2.heap.size (arrF F (k * 3)) 64) := hh (by rw [eU3]; exact (HB.new _ _ _ _ rfl).jk kk)
 have HT3 := hh (HT2.o.q HQ3.o)
 have HQU3 := hh (HQ2.o.trans HQ3.o)
 have HSC : Hid (∀ w', Q U w' → HB w' U2.heap.size (arrF F (k * 3)) 64 → ScAt w' (some ⟨U2.heap.size, 0, none⟩) k rs) := hh fun w' hq hb => by
  refine ⟨⟨by rw [secC_len], by rw [HN.o]; exact Nat.le_refl _, fun hn => ⟨_, 0, rfl, hb.lt, fun i u hi => ?_⟩, fun e => by cases e⟩, fun a ha => (HPR.o.2 a ha).2.q hq⟩
  have hlt : i < k * 3 := by rw [← HN.o, ← secC_len rs]; exact (List.getElem?_eq_some_iff.1 hi).1
  obtain ⟨a, ha⟩ : ∃ a, rs[i / 3]? = some a := ⟨_, List.getElem?_eq_getElem (by rw [HN.o]; omega)⟩
  have e : i / 3 * 3 + i % 3 = i := by omega
  have h1 := HF.o (i / 3) a (i % 3) (by omega) ha (by omega)
  have h2 := secC_get rs (i / 3) (i % 3) a ha (by omega)
  rw [e] at h1 h2
  rw [hb.cell, Nat.zero_add, arrF_get F hlt, h1, ← h2, hi]
 have ARC : Hid (∀ (w' : World), Q U w' → HB w' U2.heap.size (arrF F (k * 3)) 64 → ∀ (j : Nat) (a : SecR), rs[j]? = some a → Calls Tryz.prog 15 #[.slice (some ⟨U2.heap.size, 0, none⟩) k k, .int .i64 j] w' fun e w'' => ∃ g, e = .returned (.slice (some ⟨g, 0, none⟩) a.d.mem.length a.d.mem.length) ∧ Q w' w'' ∧ w'.heap.size ≤ g ∧ RdN w'' (some ⟨g, 0, none⟩) a.d.mem.length a.d.mem.length .i64 (a.d.mem.map Prod.fst)) := hh fun w' hq hb j a ha => by
  have b1 := (HIP.o a.d (by rw [← HD.o]; exact List.mem_map_of_mem (List.mem_of_getElem? ha))).1
  have := around_c (some ⟨U2.heap.size, 0, none⟩) k rs j a w' (HSC.o w' hq hb) ha (by omega) (by rw [HN.o]; omega)
  rw [HN.o] at this
  exact this
 have hne : U2.heap.size ≠ U.heap.size := by have := HT2.o.lt; omega
 have HNE := hh hne
 clear eU3 HSC HF hk hlt HQ2 HQ3 HT2 hne
 generalize U2.heap.size = gS at HS3 ARC HNE ⊢
 go_wp2_with fail
 go_loopw [81] (fun i wr => ∃ (t : Nat) (FT : Nat → Value), i = .int .i64 t ∧ t ≤ k ∧ Hid (Q U wr) ∧ Hid (HB wr gS (arrF F (k * 3)) 64) ∧ Hid (HB wr U.heap.size (arrF FT s.bays.length) 4) ∧ Hid (∀ b, b < s.bays.length → FT b = .bool (TG b || (rs.take t).any fun a => (PS a.d).tr && a.d.mem.any fun m => decide (m.1 = (b : Int))))) (fun i _ => k - (intOf i).toNat)
 case atStart => exact ⟨0, _, rfl, Nat.zero_le _, HQU3, HS3, HT3, hh (fun b _ => by simp)⟩
 case round =>
 clear HQU3 HS3 HT3
 obtain ⟨t, FT, rfl, ht, HQ4, HS4, HT4, HV4⟩ := hrel
 have hq4 := HQ4.o
 obtain ⟨k4, rfl⟩ := hq4
 by_cases hlt : t < k
 rotate_left
 ·obtain rfl : t = k := by omega
  have HFN : Hid (arrF FT s.bays.length = arrF (fun b => .bool (TP b)) s.bays.length) := hh (arrF_congr fun b hb => by
   rw [HV4.o b hb, HTP.o, List.take_of_length_le (by rw [HN.o]; exact Nat.le_refl _), ← HTR.o rs b, HD.o])
  go_wp2_with fail
  go_ret2
  exact ⟨some ⟨U.heap.size, 0, none⟩, s.bays.length, s.bays.length, rfl, HQU.o.trans Q.i, fun h => absurd rfl h, fun _ => ⟨rfl, _, rfl, by rw [← HFN.o]; exact HT4.o.q Q.i⟩⟩
 obtain ⟨a, ha⟩ : ∃ a, rs[t]? = some a := ⟨_, List.getElem?_eq_getElem (by rw [HN.o]; exact hlt)⟩
 obtain ⟨g4, o4, rfl, og4, hc4⟩ := PrAt.at_ HPR.o (by rw [HN.o]; omega)
 have x10 := hc4.o t a 10 _ ha (by decide) rfl
 have HIA := hh (HIP.o a.d (by rw [← HD.o]; exact List.mem_map_of_mem (List.mem_of_getElem? ha)))
 have HTK := hh fun b : Nat => any_take_succ rs (fun a => (PS a.d).tr && a.d.mem.any fun m => decide (m.1 = (b : Int))) t a ha
 have ARK := hh fun w' hq hb => ARC.o w' hq hb t a ha
 obtain ⟨tr, etr⟩ : ∃ t, (PS a.d).tr = t := ⟨_, rfl⟩
 rw [etr] at x10
 have ETR := hh etr
 have t0 : (0 : Int) ≤ (t : Int) := by omega
 have t1 : (t : Int) < (k : Int) := by omega
 have HLT := hh hlt
 clear hc4 ha etr hlt ht
 cases tr with
 | false =>
  have HV5 : Hid (∀ b, b < s.bays.length → FT b = .bool (TG b || (rs.take (t + 1)).any fun a => (PS a.d).tr && a.d.mem.any fun m => decide (m.1 = (b : Int)))) := hh fun b hb => by
   have h1 := HTK.o b
   rw [ETR.o, Bool.false_and, Bool.or_false] at h1
   rw [h1]
   exact HV4.o b hb
  go_wp2_with fail
  go_roundw
  case rel => exact ⟨t + 1, FT, by go_num, by have := HLT.o; omega, hh Q.i, HS4, HT4, HV5⟩
  case measure => have := HLT.o; simp [intOf] <;> omega
 | true =>
  obtain ⟨ml, eml⟩ : ∃ ml, a.d.mem = ml := ⟨_, rfl⟩
  rw [eml] at ARK HIA
  have HTK2 : Hid (∀ b : Nat, ((rs.take (t + 1)).any fun a => (PS a.d).tr && a.d.mem.any fun m => decide (m.1 = (b : Int))) = (((rs.take t).any fun a => (PS a.d).tr && a.d.mem.any fun m => decide (m.1 = (b : Int))) || ml.any fun m => decide (m.1 = (b : Int)))) := hh fun b => by
   have h1 := HTK.o b
   rw [ETR.o, Bool.true_and, eml] at h1
   exact h1
  obtain ⟨m, em⟩ : ∃ n, ml.length = n := ⟨_, rfl⟩
  rw [em] at ARK
  have HM := hh em
  have hm16 : m ≤ 16 := by have := HIA.o.1; omega
  obtain ⟨T, eT⟩ : ∃ T : Nat → Bool, T = fun b : Nat => (rs.take t).any fun a => (PS a.d).tr && a.d.mem.any fun m => decide (m.1 = (b : Int)) := ⟨_, rfl⟩
  have HV5 : Hid (∀ b, b < s.bays.length → FT b = .bool (TG b || T b)) := hh (by rw [eT]; exact HV4.o)
  have HTK3 : Hid (∀ b : Nat, ((rs.take (t + 1)).any fun a => (PS a.d).tr && a.d.mem.any fun m => decide (m.1 = (b : Int))) = (T b || ml.any fun m => decide (m.1 = (b : Int)))) := hh (by rw [eT]; exact HTK2.o)
  clear HTK HTK2 HV4 eT eml em ETR
  go_wp2_with (first | (go_at_call 15; (with_reducible refine (ARK.o _ (HQ4.o.trans Q.i) (HS4.o.q Q.i)).mono ?_); rintro e w' ⟨g, rfl, ⟨ka, rfl⟩, hg, hrd⟩; have HRD := hh hrd; have HG : Hid (g ≠ U.heap.size) := hh (by have h8 := HT4.o.lt; simp only [World.size_jk] at hg h8; omega); clear hrd hg) | fail)
  go_loopw [94] (fun i wr => ∃ (j : Nat) (F2 : Nat → Value), i = .int .i64 j ∧ j ≤ m ∧ Hid (Q U wr) ∧ Hid (HB wr gS (arrF F (k * 3)) 64) ∧ Hid (HB wr U.heap.size (arrF F2 s.bays.length) 4) ∧ Hid (RdN wr (some ⟨g, 0, none⟩) m m .i64 (ml.map Prod.fst)) ∧ Hid (∀ b, b < s.bays.length → F2 b = .bool (TG b || (T b || (ml.take j).any fun m => decide (m.1 = (b : Int)))))) (fun i _ => m - (intOf i).toNat)
  case atStart => exact ⟨0, FT, rfl, Nat.zero_le _, hh (by repeat' (first | exact Q.refl _ | refine Q.alloc ?_ _ | refine Q.jk ?_ _ | refine Q.drew ?_)), hh (HS4.o.q (by repeat' (first | exact Q.refl _ | refine Q.alloc ?_ _ | refine Q.jk ?_ _ | refine Q.drew ?_))), hh (HT4.o.q (by repeat' (first | exact Q.refl _ | refine Q.alloc ?_ _ | refine Q.jk ?_ _ | refine Q.drew ?_))), hh (HRD.o.q (by repeat' (first | exact Q.refl _ | refine Q.alloc ?_ _ | refine Q.jk ?_ _ | refine Q.drew ?_))), hh (fun b hb => by rw [HV5.o b hb, List.take_zero, List.any_nil, Bool.or_false])⟩
  case round =>
  clear HS4 HT4 HRD HV5 HQ4
  obtain ⟨j, F2, rfl, hj, HQ5, HS5, HT5, HR5, HV5⟩ := hrel
  have hq5 := HQ5.o
  obtain ⟨k5, rfl⟩ := hq5
  by_cases hlj : j < m
  rotate_left
  ·obtain rfl : j = m := by omega
   have HV6 : Hid (∀ b, b < s.bays.length → F2 b = .bool (TG b || (rs.take (t + 1)).any fun a => (PS a.d).tr && a.d.mem.any fun m => decide (m.1 = (b : Int)))) := hh fun b hb => by
    rw [HV5.o b hb, HTK3.o b, List.take_of_length_le (by rw [HM.o]; exact Nat.le_refl _)]
   go_wp2_with fail
   go_roundw
   case rel => exact ⟨t + 1, F2, by go_num, by have := HLT.o; omega, hh Q.i, HS5, HT5, HV6⟩
   case measure => have := HLT.o; simp [intOf] <;> omega
  obtain ⟨mm, hmm⟩ : ∃ x, ml[j]? = some x := ⟨_, List.getElem?_eq_getElem (by rw [HM.o]; exact hlj)⟩
  obtain ⟨q, eq, hq⟩ := HIA.o.2.2 mm (List.mem_of_getElem? hmm)
  obtain ⟨g9, o9, e9, og9, hc9⟩ := RdN.at_ HR5.o (by omega)
  cases e9
  have x1 := hc9.o j hlj
  rw [Nat.zero_add, List.getD_eq_getElem?_getD, List.getElem?_map, hmm] at x1
  simp only [Option.map_some, Option.getD_some] at x1
  rw [eq] at x1
  have y1 := HT5.o.cell q
  rw [arrF_get _ hq] at y1
  have y2 := HT5.o.soft q
  have ogt : Old U.heap.size (U.jk k5) := HT5.o.old
  have HTJ := hh fun b : Nat => any_take_succ ml (fun m => decide (m.1 = (b : Int))) j mm hmm
  have EQ := hh eq
  have j0 : (0 : Int) ≤ (j : Int) := by omega
  have j1 : (j : Int) < (m : Int) := by omega
  have q0 : (0 : Int) ≤ (q : Int) := by omega
  have q1 : (q : Int) < (s.bays.length : Int) := by omega
  have HNQ : Hid (Q U ((U.jk k5).setCell ⟨U.heap.size, q, none⟩ (.bool true))) := hh (HQ5.o.setCell (Nat.le_refl _) _)
  have HNS : Hid (HB ((U.jk k5).setCell ⟨U.heap.size, q, none⟩ (.bool true)) gS (arrF F (k * 3)) 64) := hh (HS5.o.other (fun e => HNE.o e.symm))
  have HNT : Hid (HB ((U.jk k5).setCell ⟨U.heap.size, q, none⟩ (.bool true)) U.heap.size (arrF (updF F2 q (.bool true)) s.bays.length) 4) := hh (by rw [← arrF_set]; exact HT5.o.set q _)
  have HNR : Hid (RdN ((U.jk k5).setCell ⟨U.heap.size, q, none⟩ (.bool true)) (some ⟨g, 0, none⟩) m m .i64 (ml.map Prod.fst)) := hh (RdN.set_other HR5.o HG.o)
  have HNV : Hid (∀ b, b < s.bays.length → updF F2 q (.bool true) b = .bool (TG b || (T b || (ml.take (j + 1)).any fun m => decide (m.1 = (b : Int))))) := hh fun b hb => by
   rw [HTJ.o b, EQ.o]
   by_cases e : b = q
   rotate_left
   ·rw [updF_other _ _ e, HV5.o b hb, decide_eq_false (fun h : (q : Int) = (b : Int) => e (by omega)), Bool.or_false]
   subst e
   rw [updF_same]
   simp
  clear hc9 hmm eq HTJ HV5
  go_wp2_with fail
  go_roundw
  case rel => exact ⟨j + 1, _, by go_num, by omega, HNQ, HNS, HNT, HNR, HNV⟩
  case measure => simp [intOf] <;> omega
end Go.Proofs.YtcjflafjmdfanaaGreatDoor
/- What '==' says of two arrays of bools: as the lists are. -/
namespace Go
open Go.Sub
theorem all_range_bools : ∀ (xs ys : List Bool), xs.length = ys.length → ((List.range xs.length).all fun i => xs.getD i false == ys.getD i false) = (xs == ys)
 | [], [], _ => rfl
 | x :: xs, y :: ys, h => by
  have ih := all_range_bools xs ys (by simpa using h)
  rw [List.length_cons, List.range_succ_eq_map, List.all_cons, List.all_map]
  simp only [List.getD_cons_zero, Function.comp_def, List.getD_cons_succ, ih]
  simp [List.cons_beq_cons]
 | [], _ :: _, h => by simp at h
 | _ :: _, [], h => by simp at h
section
variable {P : Program} (w : World)
theorem run_equalIn_bools (d : Nat) (t e : TypeId) (n : Nat) (ht : P.underlying t = some (.array n e)) (he : P.underlying e = some .bool) (hsz : ∀ w, (sizeOf e).run P w = .ok 1 w)
  (xs ys : List Bool) (hx : xs.length = n) (hy : ys.length = n) :
  (Op.equalIn (d + 2) t (.agg (xs.map Value.bool).toArray) (.agg (ys.map Value.bool).toArray)).run P w = .ok (xs == ys) w := by
 rw [← all_range_bools xs ys (hx.trans hy.symm), hx, List.range_eq_range', Op.equalIn]
 simp only [Sem.run_bind, run_underlying ht, Result.andThen_ok, hsz, Std.Legacy.Range.forIn_eq_forIn_range', Std.Legacy.Range.size, Nat.sub_zero, Nat.add_sub_cancel, Nat.div_one]
 have hl : ∀ i ∈ List.range' 0 n 1, i < n := fun i hi => by simpa using (List.mem_range'_1.1 hi).2
 generalize List.range' 0 n 1 = l at hl ⊢
 induction l with
 | nil => simp
 | cons i l ih =>
  have hi : i < n := hl i (by simp)
  have px : (part e (xs.map Value.bool).toArray (i * 1)).run P w = .ok (.bool (xs.getD i false)) w := by
   simp [part, isAgg, run_underlying he, List.getD, List.getElem?_eq_getElem (show i < xs.length by omega)]
  have py : (part e (ys.map Value.bool).toArray (i * 1)).run P w = .ok (.bool (ys.getD i false)) w := by
   simp [part, isAgg, run_underlying he, List.getD, List.getElem?_eq_getElem (show i < ys.length by omega)]
  have pe : (Op.equalIn (d + 1) e (.bool (xs.getD i false)) (.bool (ys.getD i false))).run P w = .ok (xs.getD i false == ys.getD i false) w := by
   cases xs.getD i false <;> cases ys.getD i false <;> simp [Op.equalIn, run_underlying he]
  simp only [List.forIn_cons, Sem.run_bind, px, py, pe, Result.andThen_ok, List.all_cons]
  cases hb : (xs.getD i false == ys.getD i false)
  ·simp
  simp only [Bool.not_true, Bool.false_eq_true, if_false, Sem.run_pure, Result.andThen_ok, Bool.true_and]
  exact ih fun j hj => hl j (by simp [hj])
theorem run_eql_bools (t e : TypeId) (n : Nat) (ht : P.underlying t = some (.array n e)) (he : P.underlying e = some .bool) (hsz : ∀ w, (sizeOf e).run P w = .ok 1 w)
  (xs ys : List Bool) (hx : xs.length = n) (hy : ys.length = n) :
  (binOp .eql t (.agg (xs.map Value.bool).toArray) (.agg (ys.map Value.bool).toArray)).run P w = .ok (.bool (xs == ys)) w := by
 rw [run_eql_struct, run_equalIn_bools w 9998 t e n ht he hsz xs ys hx hy]
 rfl
end
end Go
namespace Go.Proofs.YtcjflafjmdfanaaGreatDoor
open Go.RowKit Go.Sub
attribute [local go_sem ↓] Go.wp_at_zero Go.wp_at_succ
def RetIf (P : Prop) (w : World) (e : Ending) (w' : World) : Prop := ∃ b : Bool, e = .returned (.bool b) ∧ Q w w' ∧ (b = true → P)
theorem small_c (s : Sta) (p : Pos) (cs : Array Value) (r : Rel) [hR : RelC cs r] (aW : Option Addr) (nW cW : Nat) (aG : Option Addr) (nG cG : Nat) (w : World) :
  Calls Tryz.prog 7 #[.agg (caseC (Value.string s.nm) (Value.slice s.aB s.buses.length s.cB) (Value.slice s.aL s.lines.length s.cL) (Value.slice s.aS s.srcs.length s.cS) (Value.slice s.aY s.bays.length s.cY) (Value.slice p.aC p.closed.length p.cC) (Value.slice p.aK p.rows.length p.cK) cs (Value.slice aW nW cW) (Value.slice aG nG cG))] w (RetIf (s.bays.length ≤ 20 ∧ s.buses.length ≤ 10 ∧ s.lines.length ≤ 10 ∧ p.rows.length ≤ 20 ∧ nW ≤ 20 ∧ nG ≤ 20) w) := by
 generalize s.bays.length = x0
 generalize s.buses.length = x1
 generalize s.lines.length = x2
 generalize p.rows.length = x3
 generalize e4 : nW = x4
 generalize e5 : nG = x5
 clear e4 e5
 by_cases h0 : (x0 : Int) ≤ 20
 rotate_left
 ·skip
  go_enter Tryz.func7, Tryz.ntmps7
  go_wp2_with fail
  go_ret
  exact ⟨false, rfl, Q.i, fun h => by cases h⟩
 skip
 by_cases h1 : (x1 : Int) ≤ 10
 rotate_left
 ·skip
  go_enter Tryz.func7, Tryz.ntmps7
  go_wp2_with fail
  go_ret
  exact ⟨false, rfl, Q.i, fun h => by cases h⟩
 skip
 by_cases h2 : (x2 : Int) ≤ 10
 rotate_left
 ·skip
  go_enter Tryz.func7, Tryz.ntmps7
  go_wp2_with fail
  go_ret
  exact ⟨false, rfl, Q.i, fun h => by cases h⟩
 skip
 by_cases h3 : (x3 : Int) ≤ 20
 rotate_left
 ·skip
  go_enter Tryz.func7, Tryz.ntmps7
  go_wp2_with fail
  go_ret
  exact ⟨false, rfl, Q.i, fun h => by cases h⟩
 skip
 by_cases h4 : (x4 : Int) ≤ 20
 rotate_left
 ·skip
  go_enter Tryz.func7, Tryz.ntmps7
  go_wp2_with fail
  go_ret
  exact ⟨false, rfl, Q.i, fun h => by cases h⟩
 skip
 by_cases h5 : (x5 : Int) ≤ 20
 ·skip
  go_enter Tryz.func7, Tryz.ntmps7
  go_wp2_with fail
  go_ret
  exact ⟨true, rfl, Q.i, fun _ => ⟨by omega, by omega, by omega, by omega, by omega, by omega⟩⟩
 skip
 go_enter Tryz.func7, Tryz.ntmps7
 go_wp2_with fail
 go_ret
 exact ⟨false, rfl, Q.i, fun h => by cases h⟩
def RetU (E : Int) (l : List Sec) (f : Sec → Prt) (w : World) (e : Ending) (w' : World) : Prop := ∃ (A : Option Addr) (c : Nat) (rs : List SecR), e = .returned (.tuple #[.slice A rs.length c, .int .i64 E]) ∧ Q w w' ∧ (E = 0 → rs.map SecR.d = l ∧ PrAt w' A c rs f)
@[go_sem high] theorem neqB3 (w : World) (a b c a' b' c' : Bool) :
  (binOp .neq 65 (.agg #[.bool a, .bool b, .bool c]) (.agg #[.bool a', .bool b', .bool c'])).run Tryz.prog w = .ok (.bool (!([a, b, c] == [a', b', c']))) w := by
 rw [run_neq_struct, show (Value.agg #[.bool a, .bool b, .bool c]) = .agg (([a, b, c].map Value.bool).toArray) from rfl, show (Value.agg #[.bool a', .bool b', .bool c']) = .agg (([a', b', c'].map Value.bool).toArray) from rfl, run_equalIn_bools (P := Tryz.prog) w 9998 65 4 3 Tryz.underlying65 Tryz.underlying4 (fun _ => by kernel_rfl) [a, b, c] [a', b', c'] rfl rfl]
 rfl
@[go_sem high] theorem eqlB3 (w : World) (a b c a' b' c' : Bool) :
  (binOp .eql 65 (.agg #[.bool a, .bool b, .bool c]) (.agg #[.bool a', .bool b', .bool c'])).run Tryz.prog w = .ok (.bool ([a, b, c] == [a', b', c'])) w :=
 run_eql_bools (P := Tryz.prog) w 65 4 3 Tryz.underlying65 Tryz.underlying4 (fun _ => by kernel_rfl) [a, b, c] [a', b', c'] rfl rfl
@[go_sem] theorem beqB3 (a b c : Bool) : ([a, b, c] == [a, b, c]) = true := beq_self_eq_true _
end Go.Proofs.YtcjflafjmdfanaaGreatDoor
