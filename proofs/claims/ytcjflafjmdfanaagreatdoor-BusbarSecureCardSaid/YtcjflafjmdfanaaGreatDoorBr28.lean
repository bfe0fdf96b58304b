
/- What Targets of package breakerfailure and Trips of package busbar return where no breaker has failed. -/
import Derived.Test.YtcjflafjmdfanaaGreatDoorBr27
import Derived.Laws.CopyRow
set_option linter.unusedSimpArgs false
set_option linter.unusedVariables false
set_option linter.unusedVariables false
set_option linter.unusedSimpArgs false
namespace Go.Sub
open Go
theorem any_take_succ {α : Type} (l : List α) (f : α → Bool) (k : Nat) (a : α) (h : l[k]? = some a) : (l.take (k + 1)).any f = ((l.take k).any f || f a) := by
 rw [List.take_add_one, h, List.any_append]
 simp
end Go.Sub
namespace Go.Proofs.YtcjflafjmdfanaaGreatDoor
open Go.RowKit Go.Sub
attribute [local go_sem ↓] Go.wp_at_zero Go.wp_at_succ
theorem setRow_same {w : World} {g : Nat} {cs : Array Value} {t : TypeId} (hb : HB w g cs t) : w.setRow g cs = w := by
 have h' : w.heap[g]? = some (.cells cs t (0, 0)) := hb
 have e : (w.setRow g cs).heap = w.heap := by
  apply Array.ext_getElem?
  intro j
  show (w.heap.modify g _)[j]? = _
  rw [Array.getElem?_modify]
  by_cases hj : g = j
  ·subst hj
   rw [if_pos rfl, h']
   rfl
  ·rw [if_neg hj]
 show World.mk (w.setRow g cs).heap w.tape w.drawn w.os w.output = _
 rw [e]
theorem resolve_g (s : Sta) (p : Pos) (w : World) (h : GoodAt w s p) : Calls Tryz.prog 39 #[.agg #[Value.slice p.aC p.closed.length p.cC, Value.slice p.aK p.rows.length p.cK], .bool true] w (RetP p.closed (p.rows.map fun r => r.l.map rs1) w) := by
 have hlens := h.lens
 exact resolve_c p w h.ps (by omega) (by omega) (fun r hr => by
  obtain ⟨k, hk⟩ := List.getElem?_of_mem hr
  obtain ⟨y, hy⟩ : ∃ y, s.bays[k]? = some y := ⟨_, List.getElem?_eq_getElem (by have := (List.getElem?_eq_some_iff.1 hk).1; omega)⟩
  obtain ⟨r', hr', hl, _⟩ := psE_row h.e2 k y hy
  rw [hk] at hr'
  obtain rfl : r = r' := Option.some.inj hr'
  have := (h.st.lk k y hy).1.2
  rcases (h.ok k y hy).ln with h | h <;> omega)
theorem make_boolB (w : World) (n : Nat) (hn : n < 1000) : (Instr.makeSlice 28 (.int .i64 n) (.int .i64 n)).run Tryz.prog w = .ok (.slice (some ⟨w.heap.size, 0, none⟩) n n) (w.alloc (.cells (arrF (fun _ => Value.bool false) n) 4)) := by
 obtain ⟨i, hi, hz, hs1, hb⟩ := infoBool
 have := run_makeSlice (P := Tryz.prog) w 28 4 i _ Tryz.underlying28 hi hz .i64 .i64 n n (by omega) (by omega) (by rw [hs1]; omega) (by rw [hb]; omega) (by omega)
 rw [this, hs1, madeCells_arrF, Int.toNat_natCast, Nat.mul_one]
 have e : ∀ F : Nat → Value, (∀ j, F j = .bool false) → arrF F n = arrF (fun _ => Value.bool false) n := fun F hF => arrF_congr fun j _ => hF j
 rw [e _ (fun j => by
  show (#[Value.bool false] : Array Value)[j % 1]! = _
  rw [Nat.mod_one]
  rfl)]
def secZ0 : Array Value := #[.slice none 0 0, .slice none 0 0, .bool false]
theorem make_secB (w : World) (n : Nat) (hn : n < 1000) : (Instr.makeSlice 74 (.int .i64 n) (.int .i64 n)).run Tryz.prog w = .ok (.slice (some ⟨w.heap.size, 0, none⟩) n n) (w.alloc (.cells (arrF (fun j => secZ0[j % 3]!) (n * 3)) 64)) := by
 obtain ⟨i, hi, hz, hs1, hb⟩ := infoSec
 have := run_makeSlice (P := Tryz.prog) w 74 64 i _ Tryz.underlying74 hi hz .i64 .i64 n n (by omega) (by omega) (by rw [hs1]; omega) (by rw [hb]; omega) (by omega)
 rw [this, hs1, madeCells_arrF, Int.toNat_natCast]
 rfl
set_option maxRecDepth 100000 in
set_option maxHeartbeats 8000000 in
theorem targets0_c (s : Sta) (p : Pos) (aF : Option Addr) (cF : Nat) (FL : List Bool) (w : World) (h : GoodAt w s p) (hF : GdAt w aF s.bays.length cF FL) (h0 : ∀ k, FL.getD k false = false) :
  Calls Tryz.prog 21 #[.agg #[Value.string s.nm, Value.slice s.aB s.buses.length s.cB, Value.slice s.aL s.lines.length s.cL, Value.slice s.aS s.srcs.length s.cS, Value.slice s.aY s.bays.length s.cY], .agg #[Value.slice p.aC p.closed.length p.cC, Value.slice p.aK p.rows.length p.cK], .slice aF s.bays.length cF] w fun e w' => ∃ g, e = .returned (.slice (some ⟨g, 0, none⟩) s.bays.length s.bays.length) ∧ Q w w' ∧ w.heap.size ≤ g ∧ ∀ j, j < s.bays.length → w'.cell? ⟨g, j, none⟩ = some (.bool false) := by
 have SC := Lib.hid fun (w' : World) (hq : Q w w') => stcheck_c s w' (h.st.q hq)
 have PC := Lib.hid fun (w' : World) (hq : Q w w') => tpcheck_c s p w' (h.st.q hq) (h.ps.q hq)
 simp only [h.e1, h.e2] at SC PC
 have hlens := h.lens
 have RS := Lib.hid fun (w' : World) (hq : Q w w') => resolve_g s p w' (h.q hq)
 unfold RetP at RS
 obtain ⟨aY, eaY⟩ : ∃ a, s.aY = a := ⟨_, rfl⟩
 obtain ⟨nY, eY⟩ : ∃ n, s.bays.length = n := ⟨_, rfl⟩
 rw [eaY, eY] at SC PC
 rw [eY] at hF hlens
 rw [eaY, eY]
 have HF := Lib.hid hF
 have H0 := Lib.hid h0
 have hY16 : nY ≤ 16 := by omega
 have hmk := fun w => make_boolB w nY (by omega)
 have n0 : (0 : Int) ≤ (nY : Int) := by omega
 clear h hF h0 eaY eY hlens
 go_enter Tryz.func21, Tryz.ntmps21
 go_wp2_with (first
  | (go_at_call 30; (with_reducible refine (SC.out _ (by repeat' (first | exact Q.refl _ | refine Q.alloc ?_ _ | refine Q.jk ?_ _ | refine Q.drew ?_))).mono ?_); rintro e w' ⟨rfl, k0, rfl⟩)
  | (go_at_call 12; (with_reducible refine (PC.out _ (by repeat' (first | exact Q.refl _ | refine Q.alloc ?_ _ | refine Q.jk ?_ _ | refine Q.drew ?_))).mono ?_); rintro e w' ⟨rfl, k1, rfl⟩)
  | (go_at_call 39; (with_reducible refine (RS.out _ (by repeat' (first | exact Q.refl _ | refine Q.alloc ?_ _ | refine Q.jk ?_ _ | refine Q.drew ?_))).mono ?_); rintro e w' ⟨p2, rfl, ⟨kR, rfl⟩, hp2, hc2, hr2⟩; clear hp2 hc2 hr2)
  | fail)
 go_loopw [40] (fun i wr => ∃ k : Nat, i = .int .i64 k ∧ k ≤ nY ∧ Q (((((((w.alloc (Obj.cells #[Value.string s.nm, Value.slice s.aB s.buses.length s.cB, Value.slice s.aL s.lines.length s.cL, Value.slice s.aS s.srcs.length s.cS, Value.slice aY nY s.cY] 27)).alloc (Obj.cells #[Value.slice p.aC p.closed.length p.cC, Value.slice p.aK p.rows.length p.cK] 31)).jk k0).jk k1).jk kR).alloc (Obj.cells #[Value.slice p2.aC p2.closed.length p2.cC, Value.slice p2.aK p2.rows.length p2.cK] 31)).alloc (Obj.cells (arrF (fun _ => Value.bool false) nY) 4)) wr) (fun i _ => nY - (intOf i).toNat)
 case atStart => exact ⟨0, rfl, Nat.zero_le _, Q.refl _⟩
 case round =>
  obtain ⟨k, rfl, hk, ⟨kk, rfl⟩⟩ := hrel
  by_cases hlt : k < nY
  ·obtain ⟨g, o, rfl, og, hc⟩ := HF.out.at_ (by omega)
   have a1 := hc.out k hlt
   rw [H0.out k] at a1
   have k0 : (0 : Int) ≤ (k : Int) := by omega
   have k1 : (k : Int) < (nY : Int) := by omega
   clear hc
   go_wp2_with fail
   go_roundw
   case rel => exact ⟨k + 1, by go_num, by omega, (by repeat' (first | exact Q.refl _ | refine Q.alloc ?_ _ | refine Q.jk ?_ _ | refine Q.drew ?_))⟩
   case measure => simp [intOf] <;> omega
  ·obtain rfl : nY = k := by omega
   have HB0 : Hid (∀ w', Q ((((((((w.alloc (Obj.cells #[Value.string s.nm, Value.slice s.aB s.buses.length s.cB, Value.slice s.aL s.lines.length s.cL, Value.slice s.aS s.srcs.length s.cS, Value.slice aY nY s.cY] 27)).alloc (Obj.cells #[Value.slice p.aC p.closed.length p.cC, Value.slice p.aK p.rows.length p.cK] 31)).jk k0).jk k1).jk kR).alloc (Obj.cells #[Value.slice p2.aC p2.closed.length p2.cC, Value.slice p2.aK p2.rows.length p2.cK] 31)).alloc (Obj.cells (arrF (fun _ => Value.bool false) nY) 4)).jk kk) w' → ∀ j, j < nY → w'.cell? ⟨w.heap.size + 1 + 1 + k0.os.size + k1.os.size + kR.os.size + 1, j, none⟩ = some (.bool false)) := Lib.hid fun w' hq j hj => by
    have hb : HB w' (w.heap.size + 1 + 1 + k0.os.size + k1.os.size + kR.os.size + 1) (arrF (fun _ => Value.bool false) nY) 4 := HB.q ((HB.new _ _ _ _ (by simp [World.size_jk])).jk kk) hq
    rw [hb.cell, arrF_get _ hj]
   go_wp2_with fail
   go_ret
   exact ⟨_, rfl, (by repeat' (first | exact Q.refl _ | refine Q.alloc ?_ _ | refine Q.jk ?_ _ | refine Q.drew ?_)), by omega, HB0.out _ (by repeat' (first | exact Q.refl _ | refine Q.alloc ?_ _ | refine Q.jk ?_ _ | refine Q.drew ?_))⟩
/-- A copy of what is there changes nothing. -/
theorem copy_same (w : World) (g g2 : Nat) {n : Nat} {F : Nat → Value} (hb : HB w g (arrF F n) 4) (h : ∀ j, j < n → w.cell? ⟨g2, j, none⟩ = some (F j)) (h1 : ∀ j, (F j).oneCell' = true) : (Builtin.copy_ #[28, 28] 3 #[.slice (some ⟨g, 0, none⟩) n n, .slice (some ⟨g2, 0, none⟩) n n]).run Tryz.prog w = .ok (.int .i64 n) w := by
 have e1 : ((List.range n).map F).length = n := by simp
 have := run_copy_row (P := Tryz.prog) w 28 28 3 4 g 0 n n ⟨g2, 0, none⟩ n n (arrF F n) 4 ((List.range n).map F) Tryz.underlying28 (by kernel_rfl) hb (by rw [e1]; simp) (fun j v hj => by
  have hjn : j < n := by have := (List.getElem?_eq_some_iff.1 hj).1; rwa [e1] at this
  rw [addr_add0, Nat.zero_add, h j hjn]
  rw [List.getElem?_map, List.getElem?_range hjn] at hj
  exact hj) (by rw [e1, arrF_size]; omega) (fun v hv => by
  obtain ⟨j, _, rfl⟩ := List.mem_map.1 hv
  exact h1 j)
 rw [this, e1]
 have e2 : ((arrF F n).toList.take 0 ++ (List.range n).map F ++ (arrF F n).toList.drop (0 + n)).toArray = arrF F n := by
  rw [List.take_zero, List.nil_append, List.drop_of_length_le (by simp [arrF]), List.append_nil]
  rfl
 rw [e2, setRow_same hb]
 rfl
/-- A bay belongs to a section that trips. -/
def trB (l : List Sec) (f : Sec → Prt) (b : Nat) : Bool := l.any fun x => (f x).tr && x.mem.any fun m => decide (m.1 = (b : Int))
theorem trB_map (rs : List SecR) (f : Sec → Prt) (b : Nat) : trB (rs.map SecR.d) f b = rs.any fun a => (f a.d).tr && a.d.mem.any fun m => decide (m.1 = (b : Int)) := by
 unfold trB
 rw [List.any_map]
 rfl
set_option maxRecDepth 100000 in
set_option maxHeartbeats 32000000 in
theorem trips0_c (s : Sta) (p : Pos) (cs : Array Value) (r : Rel) [hR : RelC cs r] (aW : Option Addr) (cW : Nat) (W : List Int) (aG : Option Addr) (cG : Nat) (G : List Bool) (aF : Option Addr) (cF : Nat) (FL : List Bool) (w : World) (hr : RootsOK w) (h : GoodAt w s p) (hW : WvAt w aW s.bays.length cW W) (hG : GdAt w aG s.bays.length cG G) (hF : GdAt w aF s.bays.length cF FL) (h0 : ∀ k, FL.getD k false = false) (hck : ckE r W G s.bays.length s.bays.length s.bays.length s.bays.length = 0) :
    Calls Tryz.prog 9 #[.agg #[Value.string s.nm, Value.slice s.aB s.buses.length s.cB, Value.slice s.aL s.lines.length s.cL, Value.slice s.aS s.srcs.length s.cS, Value.slice s.aY s.bays.length s.cY], .agg #[Value.slice p.aC p.closed.length p.cC, Value.slice p.aK p.rows.length p.cK], .agg cs, .slice aW s.bays.length cW, .slice aG s.bays.length cG, .slice aF s.bays.length cF] w fun e w' => ∃ g, e = .returned (.tuple #[.slice (some ⟨g, 0, none⟩) s.bays.length s.bays.length, .int .i64 0]) ∧ Q w w' ∧ ∀ b, b < s.bays.length → w'.cell? ⟨g, b, none⟩ = some (.bool (trB (imI s p) (prS s W G r) b)) := by
  have hlens := h.lens
  obtain ⟨_, hu, _, _, _, hw⟩ := ckE_zero hck
  have PLC := Lib.hid fun (w' : World) (hq : Q w w') => place_c s p w' (h.st.q hq) (h.ps.q hq)
  have CKC := Lib.hid fun (w' : World) (hq : Q w w') => check_c s cs r aW s.bays.length cW W aG s.bays.length cG G s.bays.length w' (hW.q hq) (hG.q hq) (by omega)
  rw [show orE (stE s) (psE s p) = 0 by rw [h.e1, h.e2]; rfl] at PLC
  rw [hck] at CKC
  have SEC := Lib.hid fun (w' : World) (hq : Q w w') (hr : RootsOK w') => sections_c s p cs r aW cW W aG cG G w' hr (h.q hq) (hW.q hq) (hG.q hq) hu hw
  unfold RetPr at SEC
  have TGC := Lib.hid fun (w' : World) (hq : Q w w') => targets0_c s p aF cF FL w' (h.q hq) (hF.q hq) h0
  have HIP : Hid (∀ x ∈ imI s p, x.mem.length ≤ 16 ∧ x.buses.length ≤ s.buses.length ∧ ∀ m ∈ x.mem, ∃ k : Nat, m.1 = (k : Int) ∧ k < s.bays.length) := Lib.hid (imF_prop s p _ _ (by omega))
  have HIL : (imI s p).length ≤ 4 := by
    have := imF_len s p (grI s (rsP p)) s.buses.length
    unfold imI
    omega
  generalize prS s W G r = PS at SEC ⊢
  generalize imI s p = IM at SEC HIP HIL ⊢
  obtain ⟨aY, eaY⟩ : ∃ a, s.aY = a := ⟨_, rfl⟩
  obtain ⟨nY, eY⟩ : ∃ n, s.bays.length = n := ⟨_, rfl⟩
  rw [eaY, eY] at PLC CKC SEC TGC
  rw [eY] at HIP hlens
  rw [eaY, eY]
  have hY16 : nY ≤ 16 := by omega
  have hmk := fun w => make_boolB w nY (by omega)
  have HTR := Lib.hid fun rs b => trB_map rs PS b
  clear h hW hG hF h0 hck hu hw eaY eY hlens
  go_enter Tryz.func9, Tryz.ntmps9
  go_wp2_with (first
    | (go_at_call 18; (with_reducible refine (PLC.out _ (by repeat' (first | exact Q.refl _ | refine Q.alloc ?_ _ | refine Q.jk ?_ _ | refine Q.drew ?_))).mono ?_); rintro e w' ⟨rfl, k0, rfl⟩)
    | (go_at_call 19; (with_reducible refine (CKC.out _ (by repeat' (first | exact Q.refl _ | refine Q.alloc ?_ _ | refine Q.jk ?_ _ | refine Q.drew ?_))).mono ?_); rintro e w' ⟨rfl, k1, rfl⟩)
    | (go_at_call 20; (with_reducible refine (SEC.out _ (by repeat' (first | exact Q.refl _ | refine Q.alloc ?_ _ | refine Q.jk ?_ _ | refine Q.drew ?_)) (by repeat' (first | with_reducible exact hr | refine RootsOK.alloc ?_ _ | refine RootsOK.jk ?_ _ | refine RootsOK.drew ?_))).mono ?_); rintro e w' ⟨A, c, rs, rfl, ⟨k2, rfl⟩, hd, hpr⟩; have HD := Lib.hid hd; have HPR := Lib.hid hpr; clear hd hpr; have hrs4 : rs.length ≤ 4 := (by rw [← List.length_map (f := SecR.d), HD.out]; exact HIL); obtain ⟨n, en⟩ : ∃ n, rs.length = n := ⟨_, rfl⟩; rw [en] at hrs4 ⊢; have HN := Lib.hid en; have hms := fun w => make_secB w n (by omega); clear en)
    | (go_at_call 21; (with_reducible refine (TGC.out _ (by repeat' (first | exact Q.refl _ | refine Q.alloc ?_ _ | refine Q.jk ?_ _ | refine Q.drew ?_))).mono ?_); rintro e w' ⟨g, rfl, ⟨kt, rfl⟩, hgt, htf⟩
       have HCP : (Builtin.copy_ #[28, 28] 3 #[.slice (some ⟨(w.heap.size + 1 + 1 + 1 + k0.os.size + k1.os.size + k2.os.size), 0, none⟩) nY nY, .slice (some ⟨g, 0, none⟩) nY nY]).run Tryz.prog ((((((((w.alloc (Obj.cells #[Value.string s.nm, Value.slice s.aB s.buses.length s.cB, Value.slice s.aL s.lines.length s.cL, Value.slice s.aS s.srcs.length s.cS, Value.slice aY nY s.cY] 27)).alloc (Obj.cells #[Value.slice p.aC p.closed.length p.cC, Value.slice p.aK p.rows.length p.cK] 31)).alloc (Obj.cells cs 44)).jk k0).jk k1).jk k2).alloc (Obj.cells (arrF (fun _ => Value.bool false) nY) 4)).jk kt) = .ok (.int .i64 nY) ((((((((w.alloc (Obj.cells #[Value.string s.nm, Value.slice s.aB s.buses.length s.cB, Value.slice s.aL s.lines.length s.cL, Value.slice s.aS s.srcs.length s.cS, Value.slice aY nY s.cY] 27)).alloc (Obj.cells #[Value.slice p.aC p.closed.length p.cC, Value.slice p.aK p.rows.length p.cK] 31)).alloc (Obj.cells cs 44)).jk k0).jk k1).jk k2).alloc (Obj.cells (arrF (fun _ => Value.bool false) nY) 4)).jk kt) := copy_same _ _ _ ((HB.new _ _ _ _ (by simp [World.size_jk])).jk kt) htf (fun _ => rfl)
       clear hgt htf)
    | fail)
  go_loopw [67] (fun i wr => ∃ (k : Nat) (F : Nat → Value), i = .int .i64 k ∧ k ≤ n ∧ Q (((((((((w.alloc (Obj.cells #[Value.string s.nm, Value.slice s.aB s.buses.length s.cB, Value.slice s.aL s.lines.length s.cL, Value.slice s.aS s.srcs.length s.cS, Value.slice aY nY s.cY] 27)).alloc (Obj.cells #[Value.slice p.aC p.closed.length p.cC, Value.slice p.aK p.rows.length p.cK] 31)).alloc (Obj.cells cs 44)).jk k0).jk k1).jk k2).alloc (Obj.cells (arrF (fun _ => Value.bool false) nY) 4)).jk kt).alloc (Obj.cells (arrF F (n * 3)) 64)) wr ∧ Hid (∀ j a q, j < k → rs[j]? = some a → q < 3 → some (F (j * 3 + q)) = (secC a)[q]?)) (fun i _ => n - (intOf i).toNat)
  case atStart => exact ⟨0, _, rfl, Nat.zero_le _, (by repeat' (first | exact Q.refl _ | refine Q.alloc ?_ _ | refine Q.jk ?_ _ | refine Q.drew ?_)), Lib.hid (fun j a q hj => absurd hj (Nat.not_lt_zero _))⟩
  case round =>
    obtain ⟨k, F, rfl, hk, ⟨kk, rfl⟩, HF⟩ := hrel
    by_cases hlt : k < n
    · obtain ⟨a, ha⟩ : ∃ a, rs[k]? = some a := ⟨_, List.getElem?_eq_getElem (by rw [HN.out]; exact hlt)⟩
      obtain ⟨g4, o4, rfl, og4, hc4⟩ := PrAt.at_ HPR.out (by rw [HN.out]; omega)
      have x0 := hc4.out k a 0 _ ha (by decide) rfl
      have x1 := hc4.out k a 1 _ ha (by decide) rfl
      have x2 := hc4.out k a 2 _ ha (by decide) rfl
      rw [Nat.add_zero] at x0
      have HA := Lib.hid ha
      have k0' : (0 : Int) ≤ (k : Int) := by omega
      have k1' : (k : Int) < (n : Int) := by omega
      have e0 : (arrF F (n * 3))[k * 3]? = some (F (k * 3)) := arrF_get F (by omega)
      have e1 : (arrF F (n * 3))[k * 3 + 1]? = some (F (k * 3 + 1)) := arrF_get F (by omega)
      have e2 : (arrF F (n * 3))[k * 3 + 2]? = some (F (k * 3 + 2)) := arrF_get F (by omega)
      clear hc4 ha
      go_wp2_with fail
      go_roundw
      case rel =>
        simp only [arrF_set]
        refine ⟨k + 1, _, by go_num, by omega, (by repeat' (first | exact Q.refl _ | refine Q.alloc ?_ _ | refine Q.jk ?_ _ | refine Q.drew ?_)), Lib.hid (fun j a' q hj ha' hq => ?_)⟩
        by_cases e : j = k
        · subst e
          rw [HA.out] at ha'
          obtain rfl := Option.some.inj ha'
          rcases (by omega : q = 0 ∨ q = 1 ∨ q = 2) with rfl | rfl | rfl <;> simp [updF, secC]
        · rw [updF_other _ _ (by omega), updF_other _ _ (by omega), updF_other _ _ (by omega)]
          exact HF.out j a' q (by omega) ha' hq
      case measure => simp [intOf] <;> omega
    · obtain rfl : n = k := by omega
      have HSC : Hid (∀ FT w', Q ((((((((((w.alloc (Obj.cells #[Value.string s.nm, Value.slice s.aB s.buses.length s.cB, Value.slice s.aL s.lines.length s.cL, Value.slice s.aS s.srcs.length s.cS, Value.slice aY nY s.cY] 27)).alloc (Obj.cells #[Value.slice p.aC p.closed.length p.cC, Value.slice p.aK p.rows.length p.cK] 31)).alloc (Obj.cells cs 44)).jk k0).jk k1).jk k2).alloc (Obj.cells (arrF FT nY) 4)).jk kt).alloc (Obj.cells (arrF F (n * 3)) 64)).jk kk) w' → ScAt w' (some ⟨((w.heap.size + 1 + 1 + 1 + k0.os.size + k1.os.size + k2.os.size) + 1 + kt.os.size), 0, none⟩) n rs) := Lib.hid fun FT w' hq => ScAt.q (w := (((((((((w.alloc (Obj.cells #[Value.string s.nm, Value.slice s.aB s.buses.length s.cB, Value.slice s.aL s.lines.length s.cL, Value.slice s.aS s.srcs.length s.cS, Value.slice aY nY s.cY] 27)).alloc (Obj.cells #[Value.slice p.aC p.closed.length p.cC, Value.slice p.aK p.rows.length p.cK] 31)).alloc (Obj.cells cs 44)).jk k0).jk k1).jk k2).alloc (Obj.cells (arrF FT nY) 4)).jk kt).alloc (Obj.cells (arrF F (n * 3)) 64)).jk kk) ⟨by
        have hb : HB ((((((((((w.alloc (Obj.cells #[Value.string s.nm, Value.slice s.aB s.buses.length s.cB, Value.slice s.aL s.lines.length s.cL, Value.slice s.aS s.srcs.length s.cS, Value.slice aY nY s.cY] 27)).alloc (Obj.cells #[Value.slice p.aC p.closed.length p.cC, Value.slice p.aK p.rows.length p.cK] 31)).alloc (Obj.cells cs 44)).jk k0).jk k1).jk k2).alloc (Obj.cells (arrF FT nY) 4)).jk kt).alloc (Obj.cells (arrF F (n * 3)) 64)).jk kk) ((w.heap.size + 1 + 1 + 1 + k0.os.size + k1.os.size + k2.os.size) + 1 + kt.os.size) (arrF F (n * 3)) 64 := (HB.new _ _ _ _ (by simp [World.size_jk])).jk kk
        refine ⟨by rw [secC_len], by rw [HN.out]; exact Nat.le_refl _, fun hn => ⟨_, 0, rfl, hb.lt, fun i u hi => ?_⟩, fun e => by cases e⟩
        have hlt : i < n * 3 := by rw [← HN.out, ← secC_len rs]; exact (List.getElem?_eq_some_iff.1 hi).1
        obtain ⟨a, ha⟩ : ∃ a, rs[i / 3]? = some a := ⟨_, List.getElem?_eq_getElem (by rw [HN.out]; omega)⟩
        have e : i / 3 * 3 + i % 3 = i := by omega
        have h1 := HF.out (i / 3) a (i % 3) (by omega) ha (by omega)
        have h2 := secC_get rs (i / 3) (i % 3) a ha (by omega)
        rw [e] at h1 h2
        rw [hb.cell, Nat.zero_add, arrF_get F hlt, h1, ← h2, hi], fun a ha => (HPR.out.2 a ha).2.q (by repeat' (first | exact Q.refl _ | refine Q.alloc ?_ _ | refine Q.jk ?_ _ | refine Q.drew ?_))⟩ hq
      have ARC : Hid (∀ FT w', Q ((((((((((w.alloc (Obj.cells #[Value.string s.nm, Value.slice s.aB s.buses.length s.cB, Value.slice s.aL s.lines.length s.cL, Value.slice s.aS s.srcs.length s.cS, Value.slice aY nY s.cY] 27)).alloc (Obj.cells #[Value.slice p.aC p.closed.length p.cC, Value.slice p.aK p.rows.length p.cK] 31)).alloc (Obj.cells cs 44)).jk k0).jk k1).jk k2).alloc (Obj.cells (arrF FT nY) 4)).jk kt).alloc (Obj.cells (arrF F (n * 3)) 64)).jk kk) w' → ∀ (k : Nat) (a : SecR), rs[k]? = some a → Calls Tryz.prog 15 #[.slice (some ⟨((w.heap.size + 1 + 1 + 1 + k0.os.size + k1.os.size + k2.os.size) + 1 + kt.os.size), 0, none⟩) n n, .int .i64 k] w' fun e w'' => ∃ g, e = .returned (.slice (some ⟨g, 0, none⟩) a.d.mem.length a.d.mem.length) ∧ Q w' w'' ∧ w'.heap.size ≤ g ∧ RdN w'' (some ⟨g, 0, none⟩) a.d.mem.length a.d.mem.length .i64 (a.d.mem.map Prod.fst)) := Lib.hid fun FT w' hq k a ha => by
        have b1 := (HIP.out a.d (by rw [← HD.out]; exact List.mem_map_of_mem (List.mem_of_getElem? ha))).1
        have := around_c (some ⟨((w.heap.size + 1 + 1 + 1 + k0.os.size + k1.os.size + k2.os.size) + 1 + kt.os.size), 0, none⟩) n rs k a w' (HSC.out FT w' hq) ha (by omega) (by rw [HN.out]; omega)
        rw [HN.out] at this
        exact this
      clear HSC HF hk hlt
      go_wp2_with fail
      go_loopw [81] (fun i wr => ∃ (k : Nat) (FT : Nat → Value), i = .int .i64 k ∧ k ≤ n ∧ Q ((((((((((w.alloc (Obj.cells #[Value.string s.nm, Value.slice s.aB s.buses.length s.cB, Value.slice s.aL s.lines.length s.cL, Value.slice s.aS s.srcs.length s.cS, Value.slice aY nY s.cY] 27)).alloc (Obj.cells #[Value.slice p.aC p.closed.length p.cC, Value.slice p.aK p.rows.length p.cK] 31)).alloc (Obj.cells cs 44)).jk k0).jk k1).jk k2).alloc (Obj.cells (arrF FT nY) 4)).jk kt).alloc (Obj.cells (arrF F (n * 3)) 64)).jk kk) wr ∧ Hid (∀ b, b < nY → FT b = .bool ((rs.take k).any fun a => (PS a.d).tr && a.d.mem.any fun m => decide (m.1 = (b : Int))))) (fun i _ => n - (intOf i).toNat)
      case atStart => exact ⟨0, _, rfl, Nat.zero_le _, (by repeat' (first | exact Q.refl _ | refine Q.alloc ?_ _ | refine Q.jk ?_ _ | refine Q.drew ?_)), Lib.hid (fun b _ => rfl)⟩
      case round =>
        obtain ⟨k, FT, rfl, hk, ⟨k3, rfl⟩, HT⟩ := hrel
        by_cases hlt : k < n
        · obtain ⟨a, ha⟩ : ∃ a, rs[k]? = some a := ⟨_, List.getElem?_eq_getElem (by rw [HN.out]; exact hlt)⟩
          obtain ⟨g4, o4, rfl, og4, hc4⟩ := PrAt.at_ HPR.out (by rw [HN.out]; omega)
          have x10 := hc4.out k a 10 _ ha (by decide) rfl
          have HIA := Lib.hid (HIP.out a.d (by rw [← HD.out]; exact List.mem_map_of_mem (List.mem_of_getElem? ha)))
          have HTK := Lib.hid fun b : Nat => any_take_succ rs (fun a => (PS a.d).tr && a.d.mem.any fun m => decide (m.1 = (b : Int))) k a ha
          have ARK := Lib.hid fun FT w' hq => ARC.out FT w' hq k a ha
          obtain ⟨tr, etr⟩ : ∃ t, (PS a.d).tr = t := ⟨_, rfl⟩
          rw [etr] at x10
          have ETR := Lib.hid etr
          have k0' : (0 : Int) ≤ (k : Int) := by omega
          have k1' : (k : Int) < (n : Int) := by omega
          clear hc4 ha etr
          cases tr with
          | false =>
            go_wp2_with fail
            go_roundw
            case rel =>
              refine ⟨k + 1, FT, by go_num, by omega, (by repeat' (first | exact Q.refl _ | refine Q.alloc ?_ _ | refine Q.jk ?_ _ | refine Q.drew ?_)), Lib.hid (fun b hb => ?_)⟩
              have h1 := HTK.out b
              rw [ETR.out, Bool.false_and, Bool.or_false] at h1
              rw [h1]
              exact HT.out b hb
            case measure => simp [intOf] <;> omega
          | true =>
            obtain ⟨ml, eml⟩ : ∃ ml, a.d.mem = ml := ⟨_, rfl⟩
            rw [eml] at ARK HIA
            have HTK2 : Hid (∀ b : Nat, ((rs.take (k + 1)).any fun a => (PS a.d).tr && a.d.mem.any fun m => decide (m.1 = (b : Int))) = (((rs.take k).any fun a => (PS a.d).tr && a.d.mem.any fun m => decide (m.1 = (b : Int))) || ml.any fun m => decide (m.1 = (b : Int)))) := Lib.hid fun b => by
              have h1 := HTK.out b
              rw [ETR.out, Bool.true_and, eml] at h1
              exact h1
            obtain ⟨m, em⟩ : ∃ n, ml.length = n := ⟨_, rfl⟩
            rw [em] at ARK
            have HM := Lib.hid em
            have hm16 : m ≤ 16 := by have := HIA.out.1; omega
            obtain ⟨T, eT⟩ : ∃ T : Nat → Bool, T = fun b : Nat => (rs.take k).any fun a => (PS a.d).tr && a.d.mem.any fun m => decide (m.1 = (b : Int)) := ⟨_, rfl⟩
            have HT2 : Hid (∀ b, b < nY → FT b = .bool (T b)) := Lib.hid (by rw [eT]; exact HT.out)
            have HTK3 : Hid (∀ b : Nat, ((rs.take (k + 1)).any fun a => (PS a.d).tr && a.d.mem.any fun m => decide (m.1 = (b : Int))) = (T b || ml.any fun m => decide (m.1 = (b : Int)))) := Lib.hid (by rw [eT]; exact HTK2.out)
            clear HTK HTK2 HT eT eml em ETR
            go_wp2_with (first
              | (go_at_call 15; (with_reducible refine (ARK.out FT _ (by repeat' (first | exact Q.refl _ | refine Q.alloc ?_ _ | refine Q.jk ?_ _ | refine Q.drew ?_))).mono ?_); rintro e w' ⟨g, rfl, ⟨ka, rfl⟩, hg, hrd⟩; have HRD := Lib.hid hrd; have HG := Lib.hid hg; clear hrd hg)
              | fail)
            go_loopw [94] (fun i wr => ∃ (j : Nat) (F2 : Nat → Value), i = .int .i64 j ∧ j ≤ m ∧ Q ((((((((((((w.alloc (Obj.cells #[Value.string s.nm, Value.slice s.aB s.buses.length s.cB, Value.slice s.aL s.lines.length s.cL, Value.slice s.aS s.srcs.length s.cS, Value.slice aY nY s.cY] 27)).alloc (Obj.cells #[Value.slice p.aC p.closed.length p.cC, Value.slice p.aK p.rows.length p.cK] 31)).alloc (Obj.cells cs 44)).jk k0).jk k1).jk k2).alloc (Obj.cells (arrF F2 nY) 4)).jk kt).alloc (Obj.cells (arrF F (n * 3)) 64)).jk kk).jk k3).jk ka) wr ∧ Hid (∀ b, b < nY → F2 b = .bool (T b || (ml.take j).any fun m => decide (m.1 = (b : Int))))) (fun i _ => m - (intOf i).toNat)
            case atStart => exact ⟨0, FT, rfl, Nat.zero_le _, (by repeat' (first | exact Q.refl _ | refine Q.alloc ?_ _ | refine Q.jk ?_ _ | refine Q.drew ?_)), Lib.hid (fun b hb => by rw [HT2.out b hb, List.take_zero, List.any_nil, Bool.or_false])⟩
            case round =>
              obtain ⟨j, F2, rfl, hj, ⟨k4, rfl⟩, HF2⟩ := hrel
              by_cases hlj : j < m
              · obtain ⟨mm, hmm⟩ : ∃ x, ml[j]? = some x := ⟨_, List.getElem?_eq_getElem (by rw [HM.out]; exact hlj)⟩
                obtain ⟨q, eq, hq⟩ := HIA.out.2.2 mm (List.mem_of_getElem? hmm)
                have HR2 : RdN ((((((((((((w.alloc (Obj.cells #[Value.string s.nm, Value.slice s.aB s.buses.length s.cB, Value.slice s.aL s.lines.length s.cL, Value.slice s.aS s.srcs.length s.cS, Value.slice aY nY s.cY] 27)).alloc (Obj.cells #[Value.slice p.aC p.closed.length p.cC, Value.slice p.aK p.rows.length p.cK] 31)).alloc (Obj.cells cs 44)).jk k0).jk k1).jk k2).alloc (Obj.cells (arrF F2 nY) 4)).jk kt).alloc (Obj.cells (arrF F (n * 3)) 64)).jk kk).jk k3).jk ka) (some ⟨g, 0, none⟩) m m .i64 (ml.map Prod.fst) := RdV.swap (W := ((((((((((w.alloc (Obj.cells #[Value.string s.nm, Value.slice s.aB s.buses.length s.cB, Value.slice s.aL s.lines.length s.cL, Value.slice s.aS s.srcs.length s.cS, Value.slice aY nY s.cY] 27)).alloc (Obj.cells #[Value.slice p.aC p.closed.length p.cC, Value.slice p.aK p.rows.length p.cK] 31)).alloc (Obj.cells cs 44)).jk k0).jk k1).jk k2).alloc (Obj.cells (arrF FT nY) 4)).jk kt).alloc (Obj.cells (arrF F (n * 3)) 64)).jk kk).jk k3) (by simp [World.size_jk]) HRD.out (fun ad e => by cases e; exact HG.out)
                obtain ⟨g9, o9, e9, og9, hc9⟩ := RdN.at_ HR2 (by omega)
                cases e9
                have x1 := hc9.out j hlj
                rw [Nat.zero_add, List.getD_eq_getElem?_getD, List.getElem?_map, hmm] at x1
                simp only [Option.map_some, Option.getD_some] at x1
                rw [eq] at x1
                have e0 : (arrF F2 nY)[q]? = some (F2 q) := arrF_get F2 hq
                have HTJ := Lib.hid fun b : Nat => any_take_succ ml (fun m => decide (m.1 = (b : Int))) j mm hmm
                have EQ := Lib.hid eq
                have j0 : (0 : Int) ≤ (j : Int) := by omega
                have j1 : (j : Int) < (m : Int) := by omega
                have q0 : (0 : Int) ≤ (q : Int) := by omega
                have q1 : (q : Int) < (nY : Int) := by omega
                clear hc9 hmm eq HR2
                go_wp2_with fail
                go_roundw
                case rel =>
                  simp only [arrF_set]
                  refine ⟨j + 1, _, by go_num, by omega, (by repeat' (first | exact Q.refl _ | refine Q.alloc ?_ _ | refine Q.jk ?_ _ | refine Q.drew ?_)), Lib.hid (fun b hb => ?_)⟩
                  rw [HTJ.out b, EQ.out]
                  by_cases e : b = q
                  · subst e
                    rw [updF_same]
                    simp
                  · rw [updF_other _ _ e, HF2.out b hb]
                    have e2 : decide ((q : Int) = (b : Int)) = false := by simpa using (fun h : (q : Int) = (b : Int) => e (by omega))
                    rw [e2, Bool.or_false]
                case measure => simp [intOf] <;> omega
              · obtain rfl : m = j := by omega
                go_wp2_with fail
                go_roundw
                case rel =>
                  refine ⟨k + 1, F2, by go_num, by omega, (by repeat' (first | exact Q.refl _ | refine Q.alloc ?_ _ | refine Q.jk ?_ _ | refine Q.drew ?_)), Lib.hid (fun b hb => ?_)⟩
                  rw [HF2.out b hb, HTK3.out b, List.take_of_length_le (by rw [HM.out]; exact Nat.le_refl _)]
                case measure => simp [intOf] <;> omega
        · obtain rfl : n = k := by omega
          have HEND : Hid (∀ w', Q ((((((((((((w.alloc (Obj.cells #[Value.string s.nm, Value.slice s.aB s.buses.length s.cB, Value.slice s.aL s.lines.length s.cL, Value.slice s.aS s.srcs.length s.cS, Value.slice aY nY s.cY] 27)).alloc (Obj.cells #[Value.slice p.aC p.closed.length p.cC, Value.slice p.aK p.rows.length p.cK] 31)).alloc (Obj.cells cs 44)).jk k0).jk k1).jk k2).alloc (Obj.cells (arrF FT nY) 4)).jk kt).alloc (Obj.cells (arrF F (n * 3)) 64))).jk kk).jk k3) w' → ∀ b, b < nY → w'.cell? ⟨(w.heap.size + 1 + 1 + 1 + k0.os.size + k1.os.size + k2.os.size), b, none⟩ = some (.bool (trB IM PS b))) := Lib.hid fun w' hq b hb => by
            have h1 : HB (((((((w.alloc (Obj.cells #[Value.string s.nm, Value.slice s.aB s.buses.length s.cB, Value.slice s.aL s.lines.length s.cL, Value.slice s.aS s.srcs.length s.cS, Value.slice aY nY s.cY] 27)).alloc (Obj.cells #[Value.slice p.aC p.closed.length p.cC, Value.slice p.aK p.rows.length p.cK] 31)).alloc (Obj.cells cs 44)).jk k0).jk k1).jk k2).alloc (Obj.cells (arrF FT nY) 4)) (w.heap.size + 1 + 1 + 1 + k0.os.size + k1.os.size + k2.os.size) (arrF FT nY) 4 := HB.new _ _ _ _ (by simp [World.size_jk])
            have h2 := HB.q h1 (Q.trans (by repeat' (first | exact Q.refl _ | refine Q.alloc ?_ _ | refine Q.jk ?_ _ | refine Q.drew ?_)) hq)
            rw [h2.cell, arrF_get _ hb, HT.out b hb, List.take_of_length_le (by rw [HN.out]; exact Nat.le_refl _), ← HTR.out rs b, HD.out]
          go_wp2_with fail
          go_ret2
          exact ⟨_, rfl, (by repeat' (first | exact Q.refl _ | refine Q.alloc ?_ _ | refine Q.jk ?_ _ | refine Q.drew ?_)), HEND.out _ (by repeat' (first | exact Q.refl _ | refine Q.alloc ?_ _ | refine Q.jk ?_ _ | refine Q.drew ?_))⟩
end Go.Proofs.YtcjflafjmdfanaaGreatDoor
