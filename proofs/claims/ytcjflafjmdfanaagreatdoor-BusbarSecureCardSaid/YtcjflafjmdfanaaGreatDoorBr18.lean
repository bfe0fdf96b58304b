
/- Slices of 32-bit digits, as they lie in memory. -/
import Derived.Test.YtcjflafjmdfanaaGreatDoorBr16
import Derived.Test.YtcjflafjmdfanaaGreatDoorBr17
import Derived.MakeChecks
import Derived.Outline
import Derived.Test.YtcjflafjmdfanaaGreatDoorBr01
import Derived.IntWalk
import Derived.Lib.Hide
import Derived.Laws.AppendOwnNone
set_option linter.unusedSimpArgs false
set_option linter.unusedVariables false
/- The table of package cyclo, as the rows list it, lies in its cells; a world for the witnesses. -/
namespace Go
open Go.RowKit
/-- An array of arrays of ints that reads as the table holds the table's numbers. -/
theorem cells_of_tab2 {H : Type} {enc : TypeId × Value → H} {P : Program} {w : World} {base : Nat} {sp : Nat → Bool} {held : Bool} {fuel : Nat} {t e f : TypeId} {n m : Nat} {cs : List Value} {zss : List (List Int)} {p : List MemPlace}
  (ht : P.underlying t = some (.array n e)) (he : P.underlying e = some (.array m f)) (hf : P.underlying f = some (.int .i64)) (hcf : P.cellsOf f = 1) (hce : P.cellsOf e = m)
  (h : DataW.trod enc P w base sp held fuel t cs = some (.agg (zss.map fun zs => .agg (zs.map fun z => .lit (.int .i64 z))), p)) (i j : Nat) (hi : i < n) (hj : j < m) :
  cs[i * m + j]? = some (.int .i64 ((zss.getD i []).getD j 0)) := by
 obtain ⟨xs, k, rfl, hx, hl, hxs, hel⟩ := DataW.trod_array ht h
 have h1 := hel i hi
 obtain ⟨y, hy⟩ : ∃ y, xs[i]? = some y := ⟨_, List.getElem?_eq_getElem (by omega)⟩
 rw [hy, hce] at h1
 obtain ⟨ks, hkl, hcs, rfl, _⟩ := trod_arr_ints he hf hcf hce h1
 simp only [Prod.mk.injEq, DataW.agg.injEq] at hx
 have h2 := congrArg (·[i]?) hx.1
 simp only [List.getElem?_map, hy, Option.map_some, Option.map_eq_some_iff, DataW.agg.injEq] at h2
 obtain ⟨zs, hz, hzs⟩ := h2
 have hk : ks = zs := by
  have hinj : Function.Injective (fun k : Int => (DataW.lit (.int .i64 k) : DataW H)) := fun a b h => by simpa using h
  exact (List.map_inj_right (fun _ _ h => hinj h)).1 hzs.symm
 subst hk
 have h3 := congrArg (·[j]?) hcs
 simp only [List.getElem?_take, List.getElem?_drop, hj, if_true, List.getElem?_map] at h3
 rw [h3]
 simp [List.getD, hz, List.getElem?_eq_getElem (show j < ks.length by omega)]
end Go
namespace Go.Proofs.YtcjflafjmdfanaaGreatDoor
open Go.RowKit Go.Sub
theorem gRoots : Tryz.prog.globalNamed "substation/cyclo.roots" = some 0 := by kernel_rfl
theorem gRootsType : (Tryz.prog.globals[0]?).map (·.type) = some 205 := by kernel_rfl
theorem cellsInt : Tryz.prog.cellsOf 3 = 1 := by kernel_rfl
theorem cellsCyc : Tryz.prog.cellsOf 141 = 4 := by kernel_rfl
theorem roots_of_laid {W : World} (h : laidMetH Tryz.prog [("substation/cyclo.roots", Rows.laid_substation_cyclo_roots)] W) : RootsOK W := by
 rw [MakeChecks.laidMetH_plain _ _ _ (by kernel_rfl)] at h
 obtain ⟨ps, ⟨g', t', cs, fuel, p, q, hg', ht', hvar, hd, _, _⟩, _⟩ := h
 obtain rfl := Option.some.inj (gRoots.symm.trans hg')
 obtain rfl := Option.some.inj (gRootsType.symm.trans ht')
 have hc : ∀ i j, i < 6 → j < 4 → cs.toList[i * 4 + j]? = some (.int .i64 (([[1, 0, 0, 0], [0, 1, 0, 0], [0, 0, 1, 0], [0, 0, 0, 1], [-1, 0, 1, 0], [0, -1, 0, 1]] : List (List Int)).getD i [] |>.getD j 0)) :=
  fun i j hi hj => cells_of_tab2 (zss := [[1, 0, 0, 0], [0, 1, 0, 0], [0, 0, 1, 0], [0, 0, 0, 1], [-1, 0, 1, 0], [0, -1, 0, 1]]) Tryz.underlying205 Tryz.underlying141 Tryz.underlying3 cellsInt cellsCyc hd i j hi hj
 have hcell : ∀ i, i < 24 → W.cell? ⟨0, i, none⟩ = some (.int .i64 (rootTab.getD i 0)) := by
  intro i hi
  rw [World.var?_cell gRoots hvar i]
  have := hc (i / 4) (i % 4) (by omega) (by omega)
  rw [show i / 4 * 4 + i % 4 = i by omega] at this
  have e : (([[1, 0, 0, 0], [0, 1, 0, 0], [0, 0, 1, 0], [0, 0, 0, 1], [-1, 0, 1, 0], [0, -1, 0, 1]] : List (List Int)).getD (i / 4) [] |>.getD (i % 4) 0) = rootTab.getD i 0 := by
   have : ∀ i : Fin 24, (([[1, 0, 0, 0], [0, 1, 0, 0], [0, 0, 1, 0], [0, 0, 0, 1], [-1, 0, 1, 0], [0, -1, 0, 1]] : List (List Int)).getD (i.val / 4) [] |>.getD (i.val % 4) 0) = rootTab.getD i.val 0 := by decide
   exact this ⟨i, hi⟩
  rw [e] at this
  simpa using this
 refine ⟨?_, hcell⟩
 have h0 := hcell 0 (by omega)
 rcases Nat.lt_or_ge 0 W.heap.size with h | h
 ·exact h
 ·simp [World.cell?, Array.getElem?_eq_none h] at h0

theorem own : ownKnob Tryz.prog.godebug = none := by kernel_rfl
/-- A world for the witness: the settled one, the table in its block. -/
noncomputable def laidWorld (os : Os) : World :=
 { World.holding Tryz.prog os ⟨#[], #[], []⟩ with heap := (World.holding Tryz.prog os ⟨#[], #[], []⟩).heap.modify 0 fun
   | .cells _ t frozen => .cells #[.int .i64 1, .int .i64 0, .int .i64 0, .int .i64 0, .int .i64 0, .int .i64 1, .int .i64 0, .int .i64 0, .int .i64 0, .int .i64 0, .int .i64 1, .int .i64 0, .int .i64 0, .int .i64 0, .int .i64 0, .int .i64 1, .int .i64 (-1), .int .i64 0, .int .i64 1, .int .i64 0, .int .i64 0, .int .i64 (-1), .int .i64 0, .int .i64 1] t frozen
   | o => o }
theorem laidOut : laidOutB Tryz.prog = true := by kernel_rfl
end Go.Proofs.YtcjflafjmdfanaaGreatDoor
/- What Check, Harmonic, All and Energy of package phasor return for windows that are in their range. -/
namespace Go.Proofs.YtcjflafjmdfanaaGreatDoor
open Go.RowKit Go.Sub
theorem old_at {w : World} {b i : Nat} {v : Value} (h : w.cell? ⟨b, i, none⟩ = some v) : Old b w := ⟨World.block_lt_of_cell? w ⟨b, i, none⟩ h⟩
/-- The window x lies in block b from o on. -/
def Win (w : World) (b o : Nat) (x : Nat → Int) : Prop := ∀ k, k < 12 → w.cell? ⟨b, o + k, none⟩ = some (.int .i64 (x k))
theorem Win.old {w : World} {b o : Nat} {x : Nat → Int} (h : Win w b o x) : Old b w := old_at (h 0 (by omega))
theorem Win.q {w w' : World} {b o : Nat} {x : Nat → Int} (h : Win w b o x) (hq : Q w w') : Win w' b o x := by
 intro k hk
 haveI := h.old
 obtain ⟨kk, rfl⟩ := hq
 rw [World.cell?_jk]
 exact h k hk

set_option maxHeartbeats 1000000 in
theorem phcheck_c (b o c : Nat) (x : Nat → Int) (w : World) (hw : Win w b o x) (hx : WinOK x 16383) :
  Calls Tryz.prog 33 #[.slice (some ⟨b, o, none⟩) 12 c] w fun e w' => e = .returned (.int .i64 0) ∧ w = w' := by
 go_enter Tryz.func33, Tryz.ntmps33
 go_wp2
 go_loop [10] (fun i => ∃ k : Nat, k ≤ 12 ∧ i = .int .i64 k) (fun i => 12 - (intOf i).toNat)
 case atStart => exact ⟨0, by omega, rfl⟩
 case round =>
  obtain ⟨k, hk, rfl⟩ := hrel
  by_cases hlt : k < 12
  ·have hc := hw k hlt
   obtain ⟨h1, h2⟩ := hx k hlt
   clear hw hx
   go_wp2
   go_round
   case rel => exact ⟨k + 1, by omega, by go_num⟩
   case measure => simp [intOf]; omega
  ·clear hw hx
   go_wp2
   go_ret
   exact ⟨rfl, rfl⟩

/-- A term of a sum: what the function value gives for k. -/
def Term (F : FuncId) (cap : Array Value) (y : Nat → Cy) (w : World) : Prop :=
 ∀ (k : Nat) (w' : World), k < 12 → Q w w' → Calls Tryz.prog F (#[.int .i64 (k : Int)] ++ cap) w' fun e w'' => e = .returned (.tuple #[.agg #[.int .i64 (y k).a, .int .i64 (y k).b, .int .i64 (y k).c, .int .i64 (y k).d], .int .i64 0]) ∧ Q w' w''
set_option maxHeartbeats 2000000 in
theorem phsum_c (F : FuncId) (cap : Array Value) (y : Nat → Cy) (w : World) (hF : ∀ (args : Array Value) (w : World), (callFunc F args).run Tryz.prog w = .ok (.enter F args) w) (ht : Term F cap y w) (hy : ∀ k, k < 12 → (y k).In 1000000000000000) :
  Calls Tryz.prog 97 #[.func (.func F) #[] cap] w fun e w' => e = .returned (.tuple #[.agg #[.int .i64 (sumC y 12).a, .int .i64 (sumC y 12).b, .int .i64 (sumC y 12).c, .int .i64 (sumC y 12).d], .int .i64 0]) ∧ Q w w' := by
 go_enter Tryz.func97, Tryz.ntmps97
 go_wp2
 go_loopw [8] (fun i wr => ∃ k : Nat, k ≤ 12 ∧ i = .int .i64 k ∧ Q ((w.alloc (.cells #[.int .i64 0, .int .i64 0, .int .i64 0, .int .i64 0] 141)).alloc (.cells #[.int .i64 (sumC y k).a, .int .i64 (sumC y k).b, .int .i64 (sumC y k).c, .int .i64 (sumC y k).d] 141)) wr) (fun i _ => 12 - (intOf i).toNat)
 case atStart => exact ⟨0, by omega, rfl, Q.refl _⟩
 case round =>
  obtain ⟨k, hk, rfl, kw, rfl⟩ := hrel
  by_cases hlt : k < 12
  ·have hyk := hy k hlt
   have hsk := sumC_in (l := 1000000000000000) k fun j hj => hy j (by omega)
   have hs2 := hsk.mono (show (k : Int) * 1000000000000000 ≤ 50000000000000000 by omega)
   clear hsk
   have HT := fun w' => ht k w' hlt
   have HH := Lib.hid HT
   clear HT hy ht
   go_wp2_with (first | (refine (HH.out _ (by repeat' (first | exact Q.refl _ | refine Q.alloc ?_ _ | refine Q.jk ?_ _ | refine Q.drew ?_))).mono ?_; rintro e w' ⟨rfl, kj, rfl⟩) | (go_at_call 121; refine (add_c _ _ _ (Cy.In.mono (by assumption) (by decide)) (Cy.In.mono (by assumption) (by decide))).mono ?_; rintro e w' ⟨rfl, kj, rfl⟩))
   go_roundw
   case rel =>
    refine ⟨k + 1, by omega, by go_num, ?_⟩
    repeat' (first | exact Q.refl _ | refine Q.alloc ?_ _ | refine Q.jk ?_ _ | refine Q.drew ?_)
   case measure => simp [intOf]; omega
  ·obtain rfl : k = 12 := by omega
   clear hy ht
   go_wp2
   refine bodyPost_ret (v := .tuple #[.agg #[.int .i64 (sumC y 12).a, .int .i64 (sumC y 12).b, .int .i64 (sumC y 12).c, .int .i64 (sumC y 12).d], .int .i64 0]) (by simp [results, Tryz.results97, go_sem]) rfl ⟨rfl, ?_⟩
   repeat' (first | exact Q.refl _ | refine Q.alloc ?_ _ | refine Q.jk ?_ _ | refine Q.drew ?_)

theorem scale_c (x : Cy) (k : Int) (w : World) (hx : x.In 1000000) (hk : -1000000000 ≤ k ∧ k ≤ 1000000000) :
  Calls Tryz.prog 99 #[.agg #[.int .i64 x.a, .int .i64 x.b, .int .i64 x.c, .int .i64 x.d], .int .i64 k] w fun e w' => e = .returned (.tuple #[.agg #[.int .i64 (x.scl k).a, .int .i64 (x.scl k).b, .int .i64 (x.scl k).c, .int .i64 (x.scl k).d], .int .i64 0]) ∧ Q w w' := by
 have h := scale_any x.a x.b x.c x.d k w
 rw [scaleR_ok hx hk] at h
 exact h

set_option maxHeartbeats 2000000 in
theorem phterm_c (k : Nat) (h : Int) (bh bx b o c : Nat) (x : Nat → Int) (w : World) (hr : RootsOK w) (hk : k < 12) (ch : w.cell? ⟨bh, 0, none⟩ = some (.int .i64 h)) (cx : w.cell? ⟨bx, 0, none⟩ = some (.slice (some ⟨b, o, none⟩) 12 c))
  (ck : w.cell? ⟨b, o + k, none⟩ = some (.int .i64 (x k))) (h1 : -16383 ≤ x k) (h2 : x k ≤ 16383) (hh1 : -12 ≤ h) (hh2 : h ≤ 12) :
  Calls Tryz.prog 98 #[.int .i64 (k : Int), .pointer (some ⟨bh, 0, none⟩), .pointer (some ⟨bx, 0, none⟩)] w fun e w' => e = .returned (.tuple #[.agg #[.int .i64 (hterm x h k).a, .int .i64 (hterm x h k).b, .int .i64 (hterm x h k).c, .int .i64 (hterm x h k).d], .int .i64 0]) ∧ Q w w' := by
 haveI := old_at ch
 haveI := old_at cx
 haveI := old_at ck
 have kk : (0 : Int) ≤ (k : Int) := by omega
 have kk2 : (k : Int) < 12 := by omega
 have hm := bd_mul hh1 hh2 (show -12 ≤ (k : Int) by omega) (show (k : Int) ≤ 12 by omega)
 have hm1 : -1000 ≤ -h * (k : Int) := by rw [Int.neg_mul]; omega
 have hm2 : -h * (k : Int) ≤ 1000 := by rw [Int.neg_mul]; omega
 clear hm
 have hri := rootC_in (-h * k)
 go_enter Tryz.func98, Tryz.ntmps98
 go_wp2
 try simp only [List.append]
 refine wp_region_tail 12 (by kernel_rfl) (by kernel_rfl) ?_
 simp only [List.take_succ_cons, List.take_zero, List.drop_succ_cons, List.drop_zero]
 repeat (go_big_quiet_step ((first | (go_at_call 100; exact Calls.jk_of (root_any _ _ (by repeat' (first | with_reducible exact hr | refine RootsOK.alloc ?_ _ | refine RootsOK.jk ?_ _ | refine RootsOK.drew ?_)))) | (go_at_call 99; exact Calls.jk_of (scale_c _ _ _ (Cy.In.mono (by assumption) (by decide)) (by omega))))))
 refine wpQuiet_nil ?_
 intro _ hw'
 obtain ⟨kq, rfl⟩ := hw'
 go_wp2
 refine bodyPost_ret (v := .tuple #[.agg #[.int .i64 (hterm x h k).a, .int .i64 (hterm x h k).b, .int .i64 (hterm x h k).c, .int .i64 (hterm x h k).d], .int .i64 0]) (by simp [results, Tryz.results98, go_sem, hterm]) rfl ⟨rfl, ?_⟩
 repeat' (first | exact Q.refl _ | refine Q.alloc ?_ _ | refine Q.jk ?_ _ | refine Q.drew ?_)

set_option maxHeartbeats 2000000 in
theorem phharm_c (h : Int) (b o c : Nat) (x : Nat → Int) (w : World) (hr : RootsOK w) (hw : Win w b o x) (hx : WinOK x 16383) :
  Calls Tryz.prog 68 #[.slice (some ⟨b, o, none⟩) 12 c, .int .i64 h] w fun e w' => e = .returned (.tuple #[.agg #[.int .i64 (harm x h).a, .int .i64 (harm x h).b, .int .i64 (harm x h).c, .int .i64 (harm x h).d], .int .i64 0]) ∧ Q w w' := by
 rw [← harm_tmod]
 have tb := tmod_bd h 12 (by decide)
 haveI := hw.old
 have HW := Lib.hid hw
 have HX := Lib.hid hx
 have hty : ∀ k, k < 12 → (hterm x (h.tmod 12) k).In 1000000000000000 := fun k hk => (hterm_in (hx k hk).1 (hx k hk).2).mono (by decide)
 have HT := Lib.hid hty
 clear hw hx hty
 go_enter Tryz.func68, Tryz.ntmps68
 go_wp2_with (go_at_call 33; refine (phcheck_c _ _ _ x _ (HW.out.q (by repeat' (first | exact Q.refl _ | refine Q.alloc ?_ _ | refine Q.jk ?_ _ | refine Q.drew ?_))) HX.out).mono ?_; rintro e w' ⟨rfl, rfl⟩)
 go_at_call 97
 refine (phsum_c _ _ (hterm x (h.tmod 12)) _ (fun _ _ => by kernel_rfl) ?_ HT.out).mono ?_
 ·rintro k w' hk ⟨kw, rfl⟩
  refine phterm_c k (h.tmod 12) _ _ b o c x _ (by repeat' (first | with_reducible exact hr | refine RootsOK.alloc ?_ _ | refine RootsOK.jk ?_ _ | refine RootsOK.drew ?_)) hk (by simp [go_sem]) (by simp [go_sem]) ?_ (HX.out k hk).1 (HX.out k hk).2 (by omega) (by omega)
  have := HW.out k hk
  simp only [World.cell?_jk, World.cell?_alloc_old']
  exact this
 ·rintro e w' ⟨rfl, kj, rfl⟩
  go_wp2
  refine bodyPost_ret (v := .tuple #[.agg #[.int .i64 (harm x (h.tmod 12)).a, .int .i64 (harm x (h.tmod 12)).b, .int .i64 (harm x (h.tmod 12)).c, .int .i64 (harm x (h.tmod 12)).d], .int .i64 0]) (by simp [results, Tryz.results68, go_sem, harm]) rfl ⟨rfl, ?_⟩
  repeat' (first | exact Q.refl _ | refine Q.alloc ?_ _ | refine Q.jk ?_ _ | refine Q.drew ?_)

/-- The cells of twelve numbers of which k are there. -/
def cells48 (y : Nat → Cy) (k : Nat) : Array Value :=
 ((List.range 12).flatMap fun h => if h < k then [.int .i64 (y h).a, .int .i64 (y h).b, .int .i64 (y h).c, .int .i64 (y h).d] else [.int .i64 0, .int .i64 0, .int .i64 0, .int .i64 0]).toArray
@[go_sem] theorem cells48_size (y : Nat → Cy) (k : Nat) : (cells48 y k).size = 48 := by
 unfold cells48
 simp only [List.range_succ, List.range_zero, List.nil_append, List.flatMap_append, List.flatMap_cons, List.flatMap_nil, List.append_nil, List.size_toArray, List.length_append]
 have e : ∀ h : Nat, (if h < k then [Value.int .i64 (y h).a, .int .i64 (y h).b, .int .i64 (y h).c, .int .i64 (y h).d] else [.int .i64 0, .int .i64 0, .int .i64 0, .int .i64 0]).length = 4 := by
  intro h; split <;> rfl
 simp only [e]
instance cells48_one (y : Nat → Cy) (k : Nat) : Ones (cells48 y k) := by
 refine ⟨?_⟩
 apply Array.all_eq_true_iff_forall_mem.2
 intro v hv
 unfold cells48 at hv
 simp only [List.mem_toArray, List.mem_flatMap] at hv
 obtain ⟨h, _, hv⟩ := hv
 split at hv <;> simp at hv <;> rcases hv with rfl | rfl | rfl | rfl <;> rfl
end Go.Proofs.YtcjflafjmdfanaaGreatDoor
/- The helpers of the laws of phasor: within, Window and known. -/
namespace Go.Sub
/-- n numbers as cells. -/
def cellsI (x : Nat → Int) (n : Nat) : Array Value := ((List.range n).map fun k => Value.int .i64 (x k)).toArray
@[go_sem] theorem cellsI_size (x : Nat → Int) (n : Nat) : (cellsI x n).size = n := by simp [cellsI]
theorem cellsI_at (x : Nat → Int) (n k : Nat) (h : k < n) : (cellsI x n)[k]? = some (.int .i64 (x k)) := by simp [cellsI, h]
def winV (n : Int) : Int := n % 32767 - 16383
end Go.Sub
namespace Go.Proofs.YtcjflafjmdfanaaGreatDoor
open Go.RowKit Go.Sub

@[go_sem ↓ high] theorem lv12 (a : Addr) : loadVar 69 a = bigLoad 69 a := rfl
theorem info12 : (Tryz.prog.info? 69).map (·.size) = some 12 := by kernel_rfl
@[go_sem] theorem run_load12 {w : World} {n : Nat} {cs : Array Value} {t : TypeId} {fr : Nat × Nat} [h : Blk w n (.cells cs t fr)] (hs : cs.size = 12) :
  (bigLoad 69 ⟨n, 0, none⟩).run Tryz.prog w = .ok (.agg cs) w := run_bigLoad Tryz.underlying69 rfl (by rw [hs]; exact info12)

/-- A window is returned. -/
def RetWin (w : World) (x : Nat → Int) (e : Ending) (w' : World) : Prop := ∃ g c, e = .returned (.slice (some ⟨g, 0, none⟩) 12 c) ∧ Q w w' ∧ Win w' g 0 x
theorem RowI.Win {W0 w : World} {v : Value} {x : Nat → Int} (h : RowI W0 w v ((List.range 12).map x)) : ∃ g c, v = .slice (some ⟨g, 0, none⟩) 12 c ∧ Win w g 0 x := by
 obtain ⟨g, c, hv, _, hc⟩ := h.win (by simp)
 refine ⟨g, c, by simpa using hv, fun k hk => ?_⟩
 have := hc k (by simpa using hk)
 simpa [List.getD, hk] using this
def kwin (k : Nat) : Int := ([2, 1, 1, 0, -1, -1, -2, -1, -1, 0, 1, 1] : List Int).getD k 0
end Go.Proofs.YtcjflafjmdfanaaGreatDoor
/- Squared magnitudes: plain laws. No program in sight. -/
namespace Go.Sub
theorem norm_in {x : Cy} {l : Int} (h : x.In l) : x.norm.In (6 * (l * l)) := by
 have p := prods_of h h
 obtain ⟨h1, h2, h3, h4, h5, h6, h7, h8, h9, h10, h11, h12, h13, h14, h15, h16⟩ := p
 unfold Su.In Cy.norm
 dsimp only
 omega
/-- The square root of 3 is no fraction. -/
theorem sq3_nat (n : Nat) : ∀ a b : Nat, a < n → a * a = 3 * (b * b) → a = 0 := by
 induction n with
 | zero => intro a b h; omega
 | succ n ih =>
  intro a b ha h
  have h3 : a % 3 = 0 := by
   have h1 : a * a % 3 = 0 := by rw [h]; omega
   rw [Nat.mul_mod] at h1
   have : a % 3 = 0 ∨ a % 3 = 1 ∨ a % 3 = 2 := by omega
   rcases this with e | e | e <;> rw [e] at h1 <;> simp_all
  obtain ⟨c, rfl⟩ : ∃ c, a = 3 * c := ⟨a / 3, by omega⟩
  have h4 : b * b = 3 * (c * c) := by
   have : 3 * c * (3 * c) = 9 * (c * c) := by grind
   omega
  rcases Nat.eq_zero_or_pos c with rfl | hc
  ·rfl
  ·have hb : b < 3 * c := by
    rcases Nat.lt_or_ge b (3 * c) with h | h
    ·exact h
    ·have := Nat.mul_le_mul h h
     have e : 3 * c * (3 * c) = 9 * (c * c) := by grind
     have : 0 < c * c := Nat.mul_pos hc hc
     omega
   have hb0 := ih b c (by omega) h4
   subst hb0
   have : 0 < c * c := Nat.mul_pos hc hc
   omega
theorem sq3 (a b : Int) (h : a * a = 3 * (b * b)) : a = 0 ∧ b = 0 := by
 have h1 : a.natAbs * a.natAbs = 3 * (b.natAbs * b.natAbs) := by
  have := congrArg Int.natAbs h
  simpa [Int.natAbs_mul] using this
 have ha := sq3_nat (a.natAbs + 1) a.natAbs b.natAbs (by omega) h1
 have ha' : a = 0 := Int.natAbs_eq_zero.1 ha
 subst ha'
 have : b * b = 0 := by omega
 exact ⟨rfl, by rcases Int.mul_eq_zero.1 this with h | h <;> exact h⟩
theorem mag_sq (n : Int) : mag n * mag n = n * n := by
 unfold mag
 split
 ·exact Int.neg_mul_neg n n
 ·rfl
end Go.Sub
/- Plain laws of harmonics. No program in sight. -/
namespace Go.Sub
theorem sumC_add (y z : Nat → Cy) (n : Nat) : sumC (fun k => (y k).add (z k)) n = (sumC y n).add (sumC z n) := by
 induction n with
 | zero => apply Cy.ext' <;> simp [sumC, Cy.add]
 | succ n ih =>
  show (sumC (fun k => (y k).add (z k)) n).add ((y n).add (z n)) = ((sumC y n).add (y n)).add ((sumC z n).add (z n))
  rw [ih]
  apply Cy.ext' <;> simp only [Cy.add] <;> omega
theorem sumC_scl (y : Nat → Cy) (c : Int) (n : Nat) : sumC (fun k => (y k).scl c) n = (sumC y n).scl c := by
 induction n with
 | zero => apply Cy.ext' <;> simp [sumC, Cy.scl]
 | succ n ih =>
  show (sumC (fun k => (y k).scl c) n).add ((y n).scl c) = ((sumC y n).add (y n)).scl c
  rw [ih]
  apply Cy.ext' <;> simp only [Cy.add, Cy.scl] <;> grind
theorem sumC_congr {y z : Nat → Cy} (n : Nat) (h : ∀ k, k < n → y k = z k) : sumC y n = sumC z n := by
 induction n with
 | zero => rfl
 | succ n ih =>
  show (sumC y n).add (y n) = (sumC z n).add (z n)
  rw [ih fun k hk => h k (by omega), h n (by omega)]
theorem sumC_zero (n : Nat) : sumC (fun _ => ⟨0, 0, 0, 0⟩) n = ⟨0, 0, 0, 0⟩ := by
 induction n with
 | zero => rfl
 | succ n ih => show (sumC _ n).add _ = _; rw [ih]; rfl
theorem harm_add (x y : Nat → Int) (h : Int) : harm (fun k => x k + y k) h = (harm x h).add (harm y h) := by
 unfold harm
 rw [← sumC_add]
 refine sumC_congr _ fun k _ => ?_
 apply Cy.ext' <;> simp only [hterm, Cy.scl, Cy.add] <;> grind
theorem harm_scl (x : Nat → Int) (c h : Int) : harm (fun k => c * x k) h = (harm x h).scl c := by
 unfold harm
 rw [← sumC_scl]
 refine sumC_congr _ fun k _ => ?_
 apply Cy.ext' <;> simp only [hterm, Cy.scl] <;> grind
-- turning
def Cy.ng (x : Cy) : Cy := ⟨-x.a, -x.b, -x.c, -x.d⟩
def sumS (y : Nat → Su) : Nat → Su
 | 0 => ⟨0, 0⟩
 | n + 1 => (sumS y n).add (y n)
/-- Six terms: the transform of six numbers. -/
def dft6 (u : Nat → Int) (h : Int) : Cy := sumC (fun m => (rootC (-(2 * h) * m)).scl (u m)) 6
end Go.Sub
/- The order of the numbers a + b * sqrt(3). No program in sight. -/
namespace Go.Sub
/-- a + b * sqrt(3) is not negative. -/
def Nn (a b : Int) : Prop := (0 ≤ a ∧ 0 ≤ b) ∨ (0 ≤ a ∧ b ≤ 0 ∧ 3 * (b * b) ≤ a * a) ∨ (a ≤ 0 ∧ 0 ≤ b ∧ a * a ≤ 3 * (b * b))
theorem sgn_neg {n : Int} (h : n < 0) : sgn n = -1 := if_pos h
theorem sgn_zero : sgn 0 = 0 := rfl
/-- The sign, by cases. -/
theorem sgnS_eq (x : Su) : sgnS x = if sgn x.a = sgn x.b ∨ sgn x.b = 0 then sgn x.a else if sgn x.a = 0 then sgn x.b else if 3 * (x.b * x.b) < x.a * x.a then sgn x.a else sgn x.b := by
 have e1 := mag_sq x.a
 have e2 := mag_sq x.b
 have e3 : 3 * mag x.b * mag x.b = 3 * (x.b * x.b) := by rw [Int.mul_assoc, e2]
 unfold sgnS
 rw [e1, e3]
end Go.Sub
/- Contracts of package surd within the limits. -/
namespace Go.Sub
theorem saddR_ok {x y : Su} (hx : x.In 100000000000000000) (hy : y.In 100000000000000000) : saddR x y = ⟨x.add y, 0⟩ := by
 unfold Su.In at hx hy
 have h1 : wi4 1152921504606846976 x.a x.b y.a y.b = true := (wi4_iff _ _ _ _ _).2 (by omega)
 have h2 : wi2 1152921504606846976 (x.add y).a (x.add y).b = true := (wi2_iff _ _ _).2 (by simp only [Su.add]; omega)
 simp [saddR, limS, h1, h2]
theorem Su.In.mono {x : Su} {l m : Int} (h : x.In l) (hm : l ≤ m) : x.In m := by unfold Su.In at *; omega
end Go.Sub
namespace Go.Proofs.YtcjflafjmdfanaaGreatDoor
open Go.RowKit Go.Sub
theorem sadd_c (x y : Su) (w : World) (hx : x.In 100000000000000000) (hy : y.In 100000000000000000) :
  Calls Tryz.prog 132 #[.agg #[.int .i64 x.a, .int .i64 x.b], .agg #[.int .i64 y.a, .int .i64 y.b]] w fun e w' => e = .returned (.tuple #[.agg #[.int .i64 (x.add y).a, .int .i64 (x.add y).b], .int .i64 0]) ∧ Q w w' := by
 have h := sadd_any x.a x.b y.a y.b w
 rw [saddR_ok hx hy] at h
 exact h
end Go.Proofs.YtcjflafjmdfanaaGreatDoor
/- What Compare of package surd, and within and Above of package phasor, return. -/
namespace Go.Sub
def scmpR (x y : Su) : Int × Int := if wi4 1152921504606846976 x.a x.b y.a y.b then (sgnS (x.sub y), 0) else (0, 1)
/-- A fundamental has at least a peak value. -/
def aboveB (c : Cy) (p : Int) : Bool := decide (0 ≤ sgnS (c.norm.sub ⟨36 * p * p, 0⟩))
end Go.Sub
namespace Go.Proofs.YtcjflafjmdfanaaGreatDoor
open Go.RowKit Go.Sub

set_option maxHeartbeats 1000000 in
theorem scmp_any (a b a' b' : Int) (w : World) :
  Calls Tryz.prog 104 #[.agg #[.int .i64 a, .int .i64 b], .agg #[.int .i64 a', .int .i64 b']] w fun e w' => e = .returned (.tuple #[.int .i64 (scmpR ⟨a, b⟩ ⟨a', b'⟩).1, .int .i64 (scmpR ⟨a, b⟩ ⟨a', b'⟩).2]) ∧ Q w w' := by
 by_cases h : wi4 1152921504606846976 a b a' b' = true
 ·obtain ⟨l1, l2, l3, l4, m1, m2, m3, m4⟩ := (wi4_iff _ _ _ _ _).1 h
  have hR : scmpR ⟨a, b⟩ ⟨a', b'⟩ = (sgnS ⟨a - a', b - b'⟩, 0) := by simp [scmpR, h, Su.sub]
  rw [hR]
  clear hR
  go_enter Tryz.func104, Tryz.ntmps104
  go_wp2_with (first | (go_at_call 133; refine (swithin4 _ a b a' b' 1152921504606846976 _ (by omega) (by omega) (by simp [go_sem]) (by simp [go_sem]) (by simp [go_sem]) (by simp [go_sem])).mono ?_; rintro e w' ⟨rfl, rfl⟩) | (go_at_call 134; refine (sgnS_any _ _ _ (by omega) (by omega) (by omega) (by omega)).mono ?_; rintro e w' ⟨rfl, kj, rfl⟩))
  go_ret2
  refine ⟨rfl, ?_⟩
  repeat' (first | exact Q.refl _ | refine Q.alloc ?_ _ | refine Q.jk ?_ _ | refine Q.drew ?_)
 ·have h : wi4 1152921504606846976 a b a' b' = false := by simpa using h
  have hR : scmpR ⟨a, b⟩ ⟨a', b'⟩ = (0, 1) := by simp [scmpR, h]
  rw [hR]
  clear hR
  go_enter Tryz.func104, Tryz.ntmps104
  go_wp2_with (go_at_call 133; refine (swithin4 _ a b a' b' 1152921504606846976 _ (by omega) (by omega) (by simp [go_sem]) (by simp [go_sem]) (by simp [go_sem]) (by simp [go_sem])).mono ?_; rintro e w' ⟨rfl, rfl⟩)
  go_ret2
  refine ⟨rfl, ?_⟩
  repeat' (first | exact Q.refl _ | refine Q.alloc ?_ _ | refine Q.jk ?_ _ | refine Q.drew ?_)
theorem scmp_c (x y : Su) (w : World) (hx : x.In 1000000000000000000) (hy : y.In 1000000000000000000) :
  Calls Tryz.prog 104 #[.agg #[.int .i64 x.a, .int .i64 x.b], .agg #[.int .i64 y.a, .int .i64 y.b]] w fun e w' => e = .returned (.tuple #[.int .i64 (sgnS (x.sub y)), .int .i64 0]) ∧ Q w w' := by
 have h := scmp_any x.a x.b y.a y.b w
 have h1 : wi4 1152921504606846976 x.a x.b y.a y.b = true := (wi4_iff _ _ _ _ _).2 (by unfold Su.In at *; omega)
 have e : scmpR x y = (sgnS (x.sub y), 0) := by simp [scmpR, h1]
 rw [show scmpR ⟨x.a, x.b⟩ ⟨y.a, y.b⟩ = _ from e] at h
 exact h

end Go.Proofs.YtcjflafjmdfanaaGreatDoor
/- What Check and Back of package phasor return for any window and any harmonics. -/
namespace Go.Sub
/-- The error of a window of twelve numbers. -/
def chkE (x : Nat → Int) : Int := if (List.range 12).all (fun k => !brkB 16383 (x k)) then 0 else 2
theorem chkE_bad {x : Nat → Int} {k : Nat} (hk : k < 12) (h : brkB 16383 (x k) = true) : chkE x = 2 := by
 unfold chkE
 rw [if_neg]
 intro h1
 have := List.all_eq_true.1 h1 k (List.mem_range.2 hk)
 rw [h] at this
 cases this
theorem chkE_good {x : Nat → Int} (h : ∀ k, k < 12 → brkB 16383 (x k) = false) : chkE x = 0 := by
 unfold chkE
 rw [if_pos]
 apply List.all_eq_true.2
 intro k hk
 rw [h k (List.mem_range.1 hk)]
 rfl
/-- What the harmonics give at instant k, times 12. -/
def bk (c : Nat → Cy) (k : Nat) : Cy := sumC (fun h => (c h).turn ((h : Int) * k)) 12
def bkOK (c : Nat → Cy) (k : Nat) : Bool := Cy.eqB (bk c k) ⟨(bk c k).a, 0, 0, 0⟩ && (bk c k).a.tmod 12 == 0
def bkX (c : Nat → Cy) (k : Nat) : Int := (bk c k).a.tdiv 12
def backE (c : Nat → Cy) : Int :=
 if (List.range 12).all (fun h => wiB (c h) 1099511627776) then if (List.range 12).all (bkOK c) then chkE (bkX c) else 16 else 1
end Go.Sub
namespace Go.Proofs.YtcjflafjmdfanaaGreatDoor
open Go.RowKit Go.Sub

set_option maxHeartbeats 1000000 in
theorem phcheck_any (b o c : Nat) (x : Nat → Int) (w : World) (hw : Win w b o x) :
  Calls Tryz.prog 33 #[.slice (some ⟨b, o, none⟩) 12 c] w fun e w' => e = .returned (.int .i64 (chkE x)) ∧ w = w' := by
 go_enter Tryz.func33, Tryz.ntmps33
 go_wp2
 go_loop [10] (fun i => ∃ k : Nat, k ≤ 12 ∧ i = .int .i64 k ∧ ∀ j, j < k → brkB 16383 (x j) = false) (fun i => 12 - (intOf i).toNat)
 case atStart => exact ⟨0, by omega, rfl, fun j hj => absurd hj (Nat.not_lt_zero j)⟩
 case round =>
  obtain ⟨k, hk, rfl, hin⟩ := hrel
  have HI := Lib.hid hin
  clear hin
  by_cases hlt : k < 12
  ·have hc := hw k hlt
   clear hw
   by_cases h1 : x k < -16383
   ·have E := Lib.hid (chkE_bad (x := x) hlt (by simp [brkB, h1]))
    go_wp2
    go_ret
    exact ⟨by rw [E.out]; rfl, rfl⟩
   ·by_cases h2 : 16383 < x k
    ·have E := Lib.hid (chkE_bad (x := x) hlt (by simp [brkB, h2]))
     go_wp2
     go_ret
     exact ⟨by rw [E.out]; rfl, rfl⟩
    ·go_wp2
     go_round
     case rel =>
      refine ⟨k + 1, by omega, by go_num, fun j hj => ?_⟩
      rcases Nat.lt_or_ge j k with h | h
      ·exact HI.out j h
      ·obtain rfl : j = k := by omega
       simp [brkB]
       omega
     case measure => simp [intOf]; omega
  ·obtain rfl : k = 12 := by omega
   have E := Lib.hid (chkE_good (x := x) HI.out)
   clear hw
   go_wp2
   go_ret
   exact ⟨by rw [E.out]; rfl, rfl⟩

@[go_sem] theorem make12 (w : World) : (Instr.makeSlice 61 (.int .i64 12) (.int .i64 12)).run Tryz.prog w = .ok (.slice (some ⟨w.heap.size, 0, none⟩) 12 12) (w.alloc (.cells #[.int .i64 0, .int .i64 0, .int .i64 0, .int .i64 0, .int .i64 0, .int .i64 0, .int .i64 0, .int .i64 0, .int .i64 0, .int .i64 0, .int .i64 0, .int .i64 0] 3)) := by kernel_rfl
/-- Back's result: a window, or none and an error. -/
def RetBack (w : World) (c : Nat → Cy) (e : Ending) (w' : World) : Prop :=
 Q w w' ∧ ((backE c = 0 ∧ ∃ g cp, e = .returned (.tuple #[.slice (some ⟨g, 0, none⟩) 12 cp, .int .i64 0]) ∧ Win w' g 0 (bkX c)) ∨ (backE c ≠ 0 ∧ e = .returned (.tuple #[.slice none 0 0, .int .i64 (backE c)])))
def AllIn (c : Nat → Cy) (k : Nat) : Prop := ∀ j, j < k → wiB (c j) 1099511627776 = true
def AllOK (c : Nat → Cy) (k : Nat) : Prop := ∀ j, j < k → bkOK c j = true
end Go.Proofs.YtcjflafjmdfanaaGreatDoor
/- What Within, result and conj of the reference return. -/
namespace Go.Proofs.YtcjflafjmdfanaaGreatDoor
open Go.RowKit Go.Sub

end Go.Proofs.YtcjflafjmdfanaaGreatDoor
/- What Add, Sub, Conj, Real, Imag and Norm of the reference return. -/
namespace Go.Proofs.YtcjflafjmdfanaaGreatDoor
open Go.RowKit Go.Sub

end Go.Proofs.YtcjflafjmdfanaaGreatDoor
/- What reduced, product, Mul, Root and Turn of the reference return. -/
namespace Go.Sub
theorem Prods.mono {x y : Cy} {B B' : Int} (h : Prods x y B) (hb : B ≤ B') : Prods x y B' := by
 obtain ⟨h1, h2, h3, h4, h5, h6, h7, h8, h9, h10, h11, h12, h13, h14, h15, h16⟩ := h
 constructor <;> omega
end Go.Sub
namespace Go.Proofs.YtcjflafjmdfanaaGreatDoor
open Go.RowKit Go.Sub

end Go.Proofs.YtcjflafjmdfanaaGreatDoor
/- What Check and Back of the reference of phasor return. -/
namespace Go.Proofs.YtcjflafjmdfanaaGreatDoor
open Go.RowKit Go.Sub

end Go.Proofs.YtcjflafjmdfanaaGreatDoor
/- What Harmonic, All and Energy of the reference of phasor return for windows in their range. -/
namespace Go.Proofs.YtcjflafjmdfanaaGreatDoor
open Go.RowKit Go.Sub

theorem chkE_ok {x : Nat → Int} (hx : WinOK x 16383) : chkE x = 0 := chkE_good fun k hk => by
 have := hx k hk
 simp [brkB]
 omega
theorem chkE_win {x : Nat → Int} (h : chkE x = 0) : WinOK x 16383 := by
 intro k hk
 cases hb : brkB 16383 (x k)
 ·simp [brkB] at hb
  omega
 ·rw [chkE_bad hk hb] at h
  cases h
end Go.Proofs.YtcjflafjmdfanaaGreatDoor
/- What the functions of phasor and of its reference return where Check returns an error. -/
namespace Go.Proofs.YtcjflafjmdfanaaGreatDoor
open Go.RowKit Go.Sub
/-- Check returns E for the slice v, in every world behind w. -/
def Fails (F : FuncId) (v : Value) (E : Int) (w : World) : Prop := ∀ w', Q w w' → Calls Tryz.prog F #[v] w' fun e w'' => e = .returned (.int .i64 E) ∧ w' = w''

end Go.Proofs.YtcjflafjmdfanaaGreatDoor
/- What apart and Versus of package surd return where the products are small. -/
namespace Go.Sub
/-- The sign of j*x - k*y. -/
def versS (x : Su) (j : Int) (y : Su) (k : Int) : Int := sgnS ⟨j * x.a - k * y.a, j * x.b - k * y.b⟩
/-- The products are found with small numbers. -/
def VsSmall (x : Su) (j : Int) (y : Su) (k : Int) : Prop := (-2305843009213693952 ≤ j * x.a ∧ j * x.a ≤ 2305843009213693952) ∧ (-2305843009213693952 ≤ k * y.a ∧ k * y.a ≤ 2305843009213693952) ∧ (-2305843009213693952 ≤ j * x.b ∧ j * x.b ≤ 2305843009213693952) ∧ (-2305843009213693952 ≤ k * y.b ∧ k * y.b ≤ 2305843009213693952)
theorem VsSmall.of {x y : Su} {j k l m : Int} (hx : x.In l) (hy : y.In l) (h1 : -m ≤ j) (h2 : j ≤ m) (h3 : -m ≤ k) (h4 : k ≤ m) (hb : m * l ≤ 2305843009213693952) : VsSmall x j y k := by
 obtain ⟨a1, a2, a3, a4⟩ := hx
 obtain ⟨b1, b2, b3, b4⟩ := hy
 have p1 := bd_mul h1 h2 a1 a2
 have p2 := bd_mul h3 h4 b1 b2
 have p3 := bd_mul h1 h2 a3 a4
 have p4 := bd_mul h3 h4 b3 b4
 unfold VsSmall
 omega
end Go.Sub
namespace Go.Proofs.YtcjflafjmdfanaaGreatDoor
open Go.RowKit Go.Sub
set_option maxHeartbeats 1000000 in
theorem apart_ok (j a k b : Int) (w : World) (j0 : -1152921504606846976 ≤ j) (j1 : j ≤ 1152921504606846976) (a0 : -1152921504606846976 ≤ a) (a1 : a ≤ 1152921504606846976) (k0 : -1152921504606846976 ≤ k) (k1 : k ≤ 1152921504606846976) (b0 : -1152921504606846976 ≤ b) (b1 : b ≤ 1152921504606846976) (p0 : -2305843009213693952 ≤ j * a) (p1 : j * a ≤ 2305843009213693952) (q0 : -2305843009213693952 ≤ k * b) (q1 : k * b ≤ 2305843009213693952) :
  Calls Tryz.prog 135 #[.int .i64 j, .int .i64 a, .int .i64 k, .int .i64 b] w fun e w' => e = .returned (.tuple #[.int .i64 (j * a - k * b), .bool true]) ∧ Q w w' := by
 have hta := fun w => times_ok j a w (by omega) (by omega) (by omega) (by omega) (by omega) (by omega)
 have htb := fun w => times_ok k b w (by omega) (by omega) (by omega) (by omega) (by omega) (by omega)
 have HA := Lib.hid hta
 have HB := Lib.hid htb
 clear hta htb
 have hw : wi2 2305843009213693952 (j * a) (k * b) = true := (wi2_iff _ _ _).2 (by omega)
 go_enter Tryz.func135, Tryz.ntmps135
 go_wp2_with (first | (go_at_call 148; first | ((with_reducible refine (HA.out _).mono ?_); rintro e w' ⟨rfl, rfl⟩) | ((with_reducible refine (HB.out _).mono ?_); rintro e w' ⟨rfl, rfl⟩)) | (go_at_call 133; (with_reducible show Calls _ _ #[_, .slice _ 2 _] _ _); refine (swithin2 _ (j * a) (k * b) 2305843009213693952 _ (by omega) (by omega) (by simp [go_sem]) (by simp [go_sem])).mono ?_; rintro e w' ⟨rfl, rfl⟩))
 go_ret2
 refine ⟨rfl, ?_⟩
 repeat' (first | exact Q.refl _ | refine Q.alloc ?_ _ | refine Q.jk ?_ _ | refine Q.drew ?_)
set_option maxHeartbeats 2000000 in
theorem vers_c (x : Su) (j : Int) (y : Su) (k : Int) (w : World) (hx : x.In 1152921504606846976) (hy : y.In 1152921504606846976) (j0 : -1073741824 ≤ j) (j1 : j ≤ 1073741824) (k0 : -1073741824 ≤ k) (k1 : k ≤ 1073741824) (hs : VsSmall x j y k) :
  Calls Tryz.prog 105 #[.agg #[.int .i64 x.a, .int .i64 x.b], .int .i64 j, .agg #[.int .i64 y.a, .int .i64 y.b], .int .i64 k] w fun e w' => e = .returned (.tuple #[.int .i64 (versS x j y k), .int .i64 0]) ∧ Q w w' := by
 obtain ⟨a1, a2, a3, a4⟩ := hx
 obtain ⟨b1, b2, b3, b4⟩ := hy
 obtain ⟨⟨s1, s2⟩, ⟨s3, s4⟩, ⟨s5, s6⟩, s7, s8⟩ := hs
 have h4 : wi4 1152921504606846976 x.a x.b y.a y.b = true := (wi4_iff _ _ _ _ _).2 (by omega)
 have h2 : wi2 1073741824 j k = true := (wi2_iff _ _ _).2 (by omega)
 have hpa := fun w => apart_ok j x.a k y.a w (by omega) (by omega) (by omega) (by omega) (by omega) (by omega) (by omega) (by omega) s1 s2 s3 s4
 have hpb := fun w => apart_ok j x.b k y.b w (by omega) (by omega) (by omega) (by omega) (by omega) (by omega) (by omega) (by omega) s5 s6 s7 s8
 have HA := Lib.hid hpa
 have HB := Lib.hid hpb
 have HS := Lib.hid (fun w => sgnS_any (j * x.a - k * y.a) (j * x.b - k * y.b) w (by omega) (by omega) (by omega) (by omega))
 clear hpa hpb s1 s2 s3 s4 s5 s6 s7 s8
 unfold versS
 go_enter Tryz.func105, Tryz.ntmps105
 go_wp2_with (first | (go_at_call 133; (with_reducible show Calls _ _ #[_, .slice _ 4 _] _ _); refine (swithin4 _ x.a x.b y.a y.b 1152921504606846976 _ (by omega) (by omega) (by simp [go_sem]) (by simp [go_sem]) (by simp [go_sem]) (by simp [go_sem])).mono ?_; rintro e w' ⟨rfl, rfl⟩) | (go_at_call 133; (with_reducible show Calls _ _ #[_, .slice _ 2 _] _ _); refine (swithin2 _ j k 1073741824 _ (by omega) (by omega) (by simp [go_sem]) (by simp [go_sem])).mono ?_; rintro e w' ⟨rfl, rfl⟩) | (go_at_call 135; first | ((with_reducible refine (HA.out _).mono ?_); rintro e w' ⟨rfl, kj, rfl⟩) | ((with_reducible refine (HB.out _).mono ?_); rintro e w' ⟨rfl, kj, rfl⟩)) | (go_at_call 134; (with_reducible refine (HS.out _).mono ?_); rintro e w' ⟨rfl, kj, rfl⟩))
 go_ret2
 refine ⟨rfl, ?_⟩
 repeat' (first | exact Q.refl _ | refine Q.alloc ?_ _ | refine Q.jk ?_ _ | refine Q.drew ?_)
end Go.Proofs.YtcjflafjmdfanaaGreatDoor
/- Numbers as digits of 32 bits: plain laws. No program in sight. -/
namespace Go.Sub
abbrev B32 : Int := 4294967296
/-- The value of digits, the least one first. -/
def dval : List Int → Int
 | [] => 0
 | d :: l => d + 4294967296 * dval l
/-- Each is a digit. -/
def Dg (l : List Int) : Prop := ∀ d ∈ l, 0 ≤ d ∧ d < 4294967296
/-- The weight of the n-th digit. -/
def wt : Nat → Int
 | 0 => 1
 | n + 1 => 4294967296 * wt n
theorem wt_pos (n : Nat) : 0 < wt n := by
 induction n with
 | zero => decide
 | succ n ih => unfold wt; omega
theorem wt_add (n m : Nat) : wt (n + m) = wt n * wt m := by
 induction n with
 | zero => simp [wt]
 | succ n ih => rw [show n + 1 + m = n + m + 1 by omega]; simp only [wt]; rw [ih, Int.mul_assoc]
theorem getD_lt {l : List Int} {n : Nat} (h : n < l.length) : l.getD n 0 = l[n] := by simp [List.getD, h]
theorem getD_ge {l : List Int} {n : Nat} (h : l.length ≤ n) : l.getD n 0 = 0 := by simp [List.getD, List.getElem?_eq_none h]
theorem Dg.nil : Dg [] := fun _ h => by cases h
theorem Dg.cons {d : Int} {l : List Int} (h0 : 0 ≤ d) (h1 : d < 4294967296) (h : Dg l) : Dg (d :: l) := fun x hx => by
 rcases List.mem_cons.1 hx with rfl | hx
 ·exact ⟨h0, h1⟩
 ·exact h x hx
theorem Dg.head {d : Int} {l : List Int} (h : Dg (d :: l)) : 0 ≤ d ∧ d < 4294967296 := h d (List.mem_cons_self ..)
theorem Dg.tail {d : Int} {l : List Int} (h : Dg (d :: l)) : Dg l := fun x hx => h x (List.mem_cons_of_mem _ hx)
theorem Dg.append {l m : List Int} (h : Dg l) (h' : Dg m) : Dg (l ++ m) := fun x hx => (List.mem_append.1 hx).elim (h x) (h' x)
theorem Dg.take {l : List Int} (h : Dg l) (n : Nat) : Dg (l.take n) := fun x hx => h x (List.mem_of_mem_take hx)
theorem Dg.getD {l : List Int} (h : Dg l) (n : Nat) : 0 ≤ l.getD n 0 ∧ l.getD n 0 < 4294967296 := by
 rcases Nat.lt_or_ge n l.length with hn | hn
 ·rw [getD_lt hn]; exact h _ (List.getElem_mem hn)
 ·rw [getD_ge hn]; omega
theorem dval_append (l m : List Int) : dval (l ++ m) = dval l + wt l.length * dval m := by
 induction l with
 | nil => simp [dval, wt]
 | cons d l ih =>
  simp only [List.cons_append, dval, List.length_cons, wt, ih]
  rw [Int.mul_add, Int.mul_assoc]
  omega
theorem dval_snoc (l : List Int) (d : Int) : dval (l ++ [d]) = dval l + wt l.length * d := by
 rw [dval_append]; simp [dval]
theorem dval_nonneg {l : List Int} (h : Dg l) : 0 ≤ dval l := by
 induction l with
 | nil => exact Int.le_refl _
 | cons d l ih => have := ih h.tail; have := h.head; simp only [dval]; omega
theorem dval_lt {l : List Int} (h : Dg l) : dval l < wt l.length := by
 induction l with
 | nil => exact Int.zero_lt_one
 | cons d l ih => have := ih h.tail; have := h.head; simp only [dval, List.length_cons, wt]; omega
theorem dval_take_succ (l : List Int) (k : Nat) (hk : k < l.length) : dval (l.take (k + 1)) = dval (l.take k) + wt k * l.getD k 0 := by
 rw [List.take_succ_eq_append_getElem hk, dval_snoc, List.length_take, Nat.min_eq_left (by omega), getD_lt hk]
theorem dval_set (l : List Int) (k : Nat) (hk : k < l.length) (d : Int) : dval (l.set k d) = dval l + wt k * (d - l.getD k 0) := by
 induction l generalizing k with
 | nil => simp at hk
 | cons x l ih =>
  match k with
  | 0 => simp [dval, wt]; omega
  | k + 1 =>
   simp only [List.length_cons] at hk
   simp only [List.set_cons_succ, dval, ih k (by omega), List.getD_cons_succ, wt]
   rw [Int.mul_add, Int.mul_assoc]
   omega
theorem Dg.set {l : List Int} (h : Dg l) (k : Nat) {d : Int} (h0 : 0 ≤ d) (h1 : d < 4294967296) : Dg (l.set k d) := fun x hx => by
 rcases List.mem_or_eq_of_mem_set hx with hx | rfl
 ·exact h x hx
 ·exact ⟨h0, h1⟩
/-- No leading zero. -/
def Tr (l : List Int) : Prop := l = [] ∨ l.getD (l.length - 1) 0 ≠ 0
/-- The digits of a number. -/
def dig (n : Nat) : List Int := if h : n = 0 then [] else ((n % 4294967296 : Nat) : Int) :: dig (n / 4294967296)
termination_by n
decreasing_by omega
theorem dig_zero : dig 0 = [] := by unfold dig; simp
theorem dig_pos {n : Nat} (h : n ≠ 0) : dig n = ((n % 4294967296 : Nat) : Int) :: dig (n / 4294967296) := by
 conv => lhs; unfold dig
 simp [h]
theorem dig_Dg (n : Nat) : Dg (dig n) := by
 induction n using Nat.strongRecOn with
 | _ n ih =>
  rcases Nat.decEq n 0 with h | h
  ·rw [dig_pos h]; exact Dg.cons (by omega) (by omega) (ih _ (by omega))
  ·subst h; rw [dig_zero]; exact Dg.nil
theorem dval_dig (n : Nat) : dval (dig n) = n := by
 induction n using Nat.strongRecOn with
 | _ n ih =>
  rcases Nat.decEq n 0 with h | h
  ·rw [dig_pos h]; simp only [dval]; rw [ih _ (by omega)]; omega
  ·subst h; rw [dig_zero]; rfl
theorem dig_nil {n : Nat} : dig n = [] ↔ n = 0 := by
 constructor
 ·intro h
  rcases Nat.decEq n 0 with h' | h'
  ·rw [dig_pos h'] at h; cases h
  ·exact h'
 ·rintro rfl; exact dig_zero
theorem Tr.tail {d : Int} {l : List Int} (h : Tr (d :: l)) : Tr l := by
 rcases l with _ | ⟨e, l⟩
 ·exact .inl rfl
 ·right
  rcases h with h | h
  ·cases h
  ·simpa [List.getD] using h
theorem dval_pos {l : List Int} (h : Dg l) (ht : Tr l) (hn : l ≠ []) : 0 < dval l := by
 induction l with
 | nil => exact absurd rfl hn
 | cons d l ih =>
  have hd := h.head
  rcases l with _ | ⟨e, l⟩
  ·rcases ht with ht | ht
   ·cases ht
   ·simp [List.getD] at ht; simp [dval]; omega
  ·have := ih h.tail ht.tail (by simp)
   simp only [dval] at this ⊢
   omega
/-- Digits without a leading zero are those of their value. -/
theorem eq_dig {l : List Int} (h : Dg l) (ht : Tr l) : l = dig (dval l).toNat := by
 induction l with
 | nil => simp [dval, dig_zero]
 | cons d l ih =>
  have hd := h.head
  have hp := dval_pos h ht (by simp)
  have hn := dval_nonneg h.tail
  rw [dig_pos (by omega)]
  have e1 : (((dval (d :: l)).toNat % 4294967296 : Nat) : Int) = d := by simp only [dval] at *; omega
  have e2 : (dval (d :: l)).toNat / 4294967296 = (dval l).toNat := by simp only [dval] at *; omega
  rw [e1, e2, ← ih h.tail ht.tail]
theorem dig_Tr (n : Nat) : Tr (dig n) := by
 induction n using Nat.strongRecOn with
 | _ n ih =>
  rcases Nat.decEq n 0 with h | h
  ·rw [dig_pos h]
   rcases ih (n / 4294967296) (by omega) with h1 | h1
   ·right
    rw [h1]
    have : n / 4294967296 = 0 := dig_nil.1 h1
    simp [List.getD]
    omega
   ·right
    cases e : dig (n / 4294967296) with
    | nil =>
     have : n / 4294967296 = 0 := dig_nil.1 e
     simp [List.getD]
     omega
    | cons x m =>
     rw [e] at h1
     simpa [List.getD] using h1
  ·subst h; exact .inl dig_zero
/-- How many digits are left without leading zeros. -/
theorem dval_take_zeros (l : List Int) (n : Nat) (h : ∀ k, n ≤ k → l.getD k 0 = 0) : dval (l.take n) = dval l := by
 induction l generalizing n with
 | nil => simp
 | cons d l ih =>
  match n with
  | 0 =>
   have h0 := h 0 (Nat.le_refl _)
   simp [List.getD] at h0
   have := ih 0 (fun k _ => by have := h (k + 1) (by omega); simpa [List.getD] using this)
   simp only [List.take_zero, dval] at this ⊢
   omega
  | n + 1 =>
   simp only [List.take_succ_cons, dval]
   rw [ih n (fun k hk => by have := h (k + 1) (by omega); simpa [List.getD] using this)]
theorem Tr.take {l : List Int} {n : Nat} (hn : n ≤ l.length) (h : n = 0 ∨ l.getD (n - 1) 0 ≠ 0) : Tr (l.take n) := by
 rcases Nat.eq_zero_or_pos n with rfl | hp
 ·exact .inl (by simp)
 ·right
  rcases h with h | h
  ·omega
  ·rw [List.length_take, Nat.min_eq_left hn]
   have : (l.take n).getD (n - 1) 0 = l.getD (n - 1) 0 := by
    simp only [List.getD_eq_getElem?_getD, List.getElem?_take]
    rw [if_pos (by omega)]
   rw [this]
   exact h
theorem dval_same (l m : List Int) (e : ∀ j, l.getD j 0 = m.getD j 0) : dval l = dval m := by
 induction l generalizing m with
 | nil =>
  have := dval_take_zeros m 0 (fun k _ => by have := e k; simp [List.getD] at this ⊢; omega)
  simpa [dval] using this
 | cons a l ih =>
  match m with
  | [] =>
   have := dval_take_zeros (a :: l) 0 (fun k _ => by have := e k; simp [List.getD] at this ⊢; omega)
   simp only [List.take_zero, dval] at this ⊢
   omega
  | b :: m =>
   have e0 := e 0
   simp [List.getD] at e0
   have := ih m (fun j => by have := e (j + 1); simpa [List.getD] using this)
   simp only [dval]
   omega
/-- The order of digits: what is found first from above decides. -/
theorem dval_order {l m : List Int} (hl : Dg l) (hm : Dg m) (k : Nat) (h1 : k < l.length) (h2 : k < m.length) (he : ∀ j, k < j → l.getD j 0 = m.getD j 0) (hlt : l.getD k 0 < m.getD k 0) : dval l < dval m := by
 induction k generalizing l m with
 | zero =>
  match l, m, h1, h2 with
  | x :: l, y :: m, _, _ =>
   have e : ∀ j, l.getD j 0 = m.getD j 0 := fun j => by have := he (j + 1) (by omega); simpa [List.getD] using this
   have ev : dval l = dval m := dval_same l m e
   simp only [List.getD_cons_zero] at hlt
   simp only [dval]
   omega
 | succ k ih =>
  match l, m, h1, h2 with
  | x :: l, y :: m, h1, h2 =>
   simp only [List.length_cons] at h1 h2
   have := ih hl.tail hm.tail (by omega) (by omega) (fun j hj => by have := he (j + 1) (by omega); simpa [List.getD] using this) (by simpa [List.getD] using hlt)
   have hx := hl.head
   have hy := hm.head
   simp only [dval]
   omega
/-- More digits, the greater number. -/
theorem dval_longer {l m : List Int} (hl : Dg l) (hm : Dg m) (ht : Tr m) (h : l.length < m.length) : dval l < dval m := by
 have hn : m ≠ [] := fun e => by rw [e] at h; simp at h
 rcases ht with ht | ht
 ·exact absurd ht hn
 have h1 := dval_lt hl
 have h2 : dval m = dval (m.take (m.length - 1)) + wt (m.length - 1) * m.getD (m.length - 1) 0 := by
  have := dval_take_succ m (m.length - 1) (by omega)
  rw [show m.length - 1 + 1 = m.length by omega, List.take_length] at this
  exact this
 have h3 := dval_nonneg (hm.take (m.length - 1))
 have h4 := hm.getD (m.length - 1)
 have h5 : wt l.length ≤ wt (m.length - 1) := by
  rw [show m.length - 1 = l.length + (m.length - 1 - l.length) by omega, wt_add]
  have := wt_pos l.length
  have h6 := wt_pos (m.length - 1 - l.length)
  have := Int.mul_le_mul_of_nonneg_left (show 1 ≤ wt (m.length - 1 - l.length) by omega) (show 0 ≤ wt l.length by omega)
  omega
 have h7 := wt_pos (m.length - 1)
 have h8 := Int.mul_le_mul_of_nonneg_left (show 1 ≤ m.getD (m.length - 1) 0 by omega) (show 0 ≤ wt (m.length - 1) by omega)
 omega
theorem dig_length_le {n k : Nat} (h : (n : Int) < wt k) : (dig n).length ≤ k := by
 rcases Nat.lt_or_ge k (dig n).length with hk | hk
 ·exfalso
  have := dval_longer (l := List.replicate k 0) (m := dig n) (fun d hd => by have := List.eq_of_mem_replicate hd; omega) (dig_Dg n) (dig_Tr n) (by simpa using hk)
  -- the value of k zeros plus the weight
  have hn : dig n ≠ [] := fun e => by rw [e] at hk; simp at hk
  have ht := (dig_Tr n).resolve_left hn
  have h2 := dval_take_succ (dig n) ((dig n).length - 1) (by omega)
  rw [show (dig n).length - 1 + 1 = (dig n).length by omega, List.take_length, dval_dig] at h2
  have h3 := dval_nonneg ((dig_Dg n).take ((dig n).length - 1))
  have h4 := (dig_Dg n).getD ((dig n).length - 1)
  have h7 := wt_pos ((dig n).length - 1)
  have h8 := Int.mul_le_mul_of_nonneg_left (show 1 ≤ (dig n).getD ((dig n).length - 1) 0 by omega) (show 0 ≤ wt ((dig n).length - 1) by omega)
  have h5 : wt k ≤ wt ((dig n).length - 1) := by
   rw [show (dig n).length - 1 = k + ((dig n).length - 1 - k) by omega, wt_add]
   have := wt_pos k
   have h6 := wt_pos ((dig n).length - 1 - k)
   have := Int.mul_le_mul_of_nonneg_left (show 1 ≤ wt ((dig n).length - 1 - k) by omega) (show 0 ≤ wt k by omega)
   omega
  omega
 ·exact hk
end Go.Sub
namespace Go
open Go.RowKit Go.Sub
/-- The slice A, n, c holds the digits l. -/
def Rd (w : World) (A : Option Addr) (n c : Nat) (l : List Int) : Prop :=
 l.length = n ∧ n ≤ c ∧ (0 < n → ∃ g, A = some ⟨g, 0, none⟩ ∧ g < w.heap.size ∧ ∀ i, i < n → w.cell? ⟨g, i, none⟩ = some (.int .u32 (l.getD i 0))) ∧ (A = none → c = 0)
theorem Rd.q {w w' : World} {A : Option Addr} {n c : Nat} {l : List Int} (h : Rd w A n c l) (hq : Q w w') : Rd w' A n c l := by
 refine ⟨h.1, h.2.1, fun hn => ?_, h.2.2.2⟩
 obtain ⟨g, rfl, hg, hc⟩ := h.2.2.1 hn
 have hb := hq.below
 exact ⟨g, rfl, Nat.lt_of_lt_of_le hg hb.size, fun i hi => (hb.cell (p := ⟨g, i, none⟩) hg).trans (hc i hi)⟩
theorem Rd.nil (w : World) : Rd w none 0 0 [] := ⟨rfl, Nat.zero_le _, fun h => absurd h (by omega), fun _ => rfl⟩
theorem Rd.nil' (w : World) (ad : Addr) (c : Nat) : Rd w (some ad) 0 c [] := ⟨rfl, Nat.zero_le _, fun h => absurd h (by omega), fun h => by cases h⟩
theorem Rd.at_ {w : World} {A : Option Addr} {n c : Nat} {l : List Int} (h : Rd w A n c l) (hn : 0 < n) : ∃ g, A = some ⟨g, 0, none⟩ ∧ Old g w ∧ Hid (∀ i, i < n → w.cell? ⟨g, i, none⟩ = some (.int .u32 (l.getD i 0))) := by
 obtain ⟨g, e, hg, hc⟩ := h.2.2.1 hn
 exact ⟨g, e, ⟨hg⟩, Lib.hid hc⟩
theorem Rd.take {w : World} {A : Option Addr} {n c k c' : Nat} {l : List Int} (h : Rd w A n c l) (hk : k ≤ n) (hc' : k ≤ c') (hA : A = none → c' = 0) : Rd w A k c' (l.take k) := by
 refine ⟨by rw [List.length_take, h.1]; omega, hc', fun hp => ?_, hA⟩
 obtain ⟨g, e, hg, hc⟩ := h.2.2.1 (by omega)
 refine ⟨g, e, hg, fun i hi => ?_⟩
 rw [hc i (by omega)]
 simp only [List.getD_eq_getElem?_getD, List.getElem?_take]
 rw [if_pos hi]
/-- The slice lies in a block that w has not. -/
def Fr (w : World) (A : Option Addr) : Prop := ∀ ad, A = some ad → w.heap.size ≤ ad.block
theorem Fr.q {w w' : World} {A : Option Addr} (h : Fr w' A) (hq : Q w w') : Fr w A := fun ad e => Nat.le_trans hq.below.size (h ad e)
theorem Fr.none (w : World) : Fr w none := fun _ h => by cases h
theorem World.jk_block {W W' : World} (hs : W.heap.size = W'.heap.size) (k : Jk) (i : Nat) (hi : W.heap.size ≤ i) : (W'.jk k).heap[i]? = (W.jk k).heap[i]? := by
 simp only [World.jk, Array.getElem?_append]
 rw [if_neg (by omega), if_neg (by omega), hs]
/-- What lies in new blocks is not touched by a store into an old one. -/
theorem Rd.swap {W W' : World} {k : Jk} {A : Option Addr} {n c : Nat} {l : List Int} (hs : W.heap.size = W'.heap.size) (h : Rd (W.jk k) A n c l) (hf : Fr W A) : Rd (W'.jk k) A n c l := by
 refine ⟨h.1, h.2.1, fun hn => ?_, h.2.2.2⟩
 obtain ⟨g, rfl, hg, hc⟩ := h.2.2.1 hn
 have hge : W.heap.size ≤ g := hf ⟨g, 0, .none⟩ rfl
 refine ⟨g, rfl, by rw [World.size_jk] at *; omega, fun i hi => ?_⟩
 rw [← hc i hi]
 exact World.cell?_of_block (w := W.jk k) (a := ⟨g, i, .none⟩) (World.jk_block hs k g hge)
theorem Rd.swap2 {W W' : World} {k k2 : Jk} {A : Option Addr} {n c : Nat} {l : List Int} (hs : W.heap.size = W'.heap.size) (h : Rd ((W.jk k).jk k2) A n c l) (hf : Fr W A) : Rd ((W'.jk k).jk k2) A n c l := by
 rw [World.jk_jk] at *
 exact h.swap hs hf
theorem Rd.swap3 {W W' : World} {k k2 k3 : Jk} {A : Option Addr} {n c : Nat} {l : List Int} (hs : W.heap.size = W'.heap.size) (h : Rd (((W.jk k).jk k2).jk k3) A n c l) (hf : Fr W A) : Rd (((W'.jk k).jk k2).jk k3) A n c l := by
 rw [World.jk_jk] at *
 exact h.swap2 hs hf
theorem Rd.swap4 {W W' : World} {k k2 k3 k4 : Jk} {A : Option Addr} {n c : Nat} {l : List Int} (hs : W.heap.size = W'.heap.size) (h : Rd ((((W.jk k).jk k2).jk k3).jk k4) A n c l) (hf : Fr W A) : Rd ((((W'.jk k).jk k2).jk k3).jk k4) A n c l := by
 rw [World.jk_jk] at *
 exact h.swap3 hs hf
theorem Rd.two (w : World) (a b : Int) (t : TypeId) : Rd (w.alloc (.cells #[.int .u32 a, .int .u32 b] t)) (some ⟨w.heap.size, 0, .none⟩) 2 2 [a, b] := by
 refine ⟨rfl, Nat.le_refl _, fun _ => ⟨_, rfl, by simp, fun i hi => ?_⟩, fun h => by cases h⟩
 rw [cell_of_row _ _ _ _ _ (0, 0) (heap_alloc_new w _)]
 match i, hi with
 | 0, _ => rfl
 | 1, _ => rfl
theorem Rd.one (w : World) (a : Int) (t : TypeId) : Rd (w.alloc (.cells #[.int .u32 a] t)) (some ⟨w.heap.size, 0, .none⟩) 1 1 [a] := by
 refine ⟨rfl, Nat.le_refl _, fun _ => ⟨_, rfl, by simp, fun i hi => ?_⟩, fun h => by cases h⟩
 rw [cell_of_row _ _ _ _ _ (0, 0) (heap_alloc_new w _)]
 match i, hi with
 | 0, _ => rfl
/-- A call that makes memory at most returned a slice of the digits l, in a new block. -/
def RetS (l : List Int) (w : World) (e : Ending) (w' : World) : Prop := ∃ A n c k, e = .returned (.slice A n c) ∧ w' = w.jk k ∧ Rd (w.jk k) A n c l ∧ Fr w A
/-- .. an integer with the sign b and the digits l. -/
def RetI (b : Bool) (l : List Int) (w : World) (e : Ending) (w' : World) : Prop := ∃ A n c k, e = .returned (.agg #[.bool b, .slice A n c]) ∧ w' = w.jk k ∧ Rd (w.jk k) A n c l ∧ Fr w A
/-- .. and no error. -/
def RetI2 (b : Bool) (l : List Int) (w : World) (e : Ending) (w' : World) : Prop := ∃ A n c k, e = .returned (.tuple #[.agg #[.bool b, .slice A n c], .int .i64 0]) ∧ w' = w.jk k ∧ Rd (w.jk k) A n c l ∧ Fr w A
theorem RetS.of {l : List Int} {w w' : World} {e : Ending} {A : Option Addr} {n c : Nat} (he : e = .returned (.slice A n c)) (hq : Q w w') (hr : Rd w' A n c l) (hf : Fr w A) : RetS l w e w' := by
 obtain ⟨k, rfl⟩ := hq
 exact ⟨A, n, c, k, he, rfl, hr, hf⟩
theorem RetI.of {b : Bool} {l : List Int} {w w' : World} {e : Ending} {A : Option Addr} {n c : Nat} (he : e = .returned (.agg #[.bool b, .slice A n c])) (hq : Q w w') (hr : Rd w' A n c l) (hf : Fr w A) : RetI b l w e w' := by
 obtain ⟨k, rfl⟩ := hq
 exact ⟨A, n, c, k, he, rfl, hr, hf⟩
theorem RetI2.of {b : Bool} {l : List Int} {w w' : World} {e : Ending} {A : Option Addr} {n c : Nat} (he : e = .returned (.tuple #[.agg #[.bool b, .slice A n c], .int .i64 0])) (hq : Q w w') (hr : Rd w' A n c l) (hf : Fr w A) : RetI2 b l w e w' := by
 obtain ⟨k, rfl⟩ := hq
 exact ⟨A, n, c, k, he, rfl, hr, hf⟩
/-- .. a slice of digits with the value v, not more than n. -/
def RetV (v : Int) (N : Nat) (w : World) (e : Ending) (w' : World) : Prop := ∃ l A n c k, e = .returned (.slice A n c) ∧ w' = w.jk k ∧ Rd (w.jk k) A n c l ∧ Fr w A ∧ Dg l ∧ dval l = v ∧ n ≤ N
theorem RetV.of {v : Int} {N : Nat} {l : List Int} {w w' : World} {e : Ending} {A : Option Addr} {n c : Nat} (he : e = .returned (.slice A n c)) (hq : Q w w') (hr : Rd w' A n c l) (hf : Fr w A) (hd : Dg l) (hv : dval l = v) (hn : n ≤ N) : RetV v N w e w' := by
 obtain ⟨k, rfl⟩ := hq
 exact ⟨l, A, n, c, k, he, rfl, hr, hf, hd, hv, hn⟩
end Go
namespace Go.Proofs.YtcjflafjmdfanaaGreatDoor
open Go.RowKit Go.Sub
theorem infoU32 : ∃ i, Tryz.prog.info? 240 = some i ∧ i.zero = some (.int .u32 0) ∧ i.size = 1 ∧ i.bytes = 4 := by
 have h : (Tryz.prog.info? 240).map (fun i => (i.zero, i.size, i.bytes)) = some (some (.int .u32 0), 1, 4) := by kernel_rfl
 cases hi : Tryz.prog.info? 240 with
 | none => rw [hi] at h; cases h
 | some i =>
  rw [hi] at h
  simp only [Option.map_some, Option.some.injEq, Prod.mk.injEq] at h
  exact ⟨i, rfl, h.1, h.2.1, h.2.2⟩
/-- The slice v holds the digits zs, in a block behind W0's. -/
def RowU (W0 w : World) (v : Value) (zs : List Int) : Prop := w.ownsRow W0.heap.size 240 1 v zs.length (zs.map (Value.int .u32))
theorem RowU.nil (W0 w : World) : RowU W0 w (.slice none 0 0) [] := World.ownsRow_nil _ _ _ _
theorem RowU.q {W0 w w' : World} {v : Value} {zs : List Int} (h : RowU W0 w v zs) (hq : Q w w') : RowU W0 w' v zs := ownsRow_q h hq
/-- An empty slice of the call's own. -/
theorem RowU.empty (w : World) : RowU w (w.alloc (.cells #[] 240)) (.slice (some ⟨w.heap.size, 0, none⟩) 0 0) [] :=
 ⟨by simp, .inr ⟨w.heap.size, 0, #[], rfl, Nat.le_refl _, heap_alloc_new w _, Nat.le_refl _, by unfold maxLen; omega, rfl, rfl⟩⟩
theorem RowU.fr {W0 w : World} {A : Option Addr} {n c : Nat} {zs : List Int} (h : RowU W0 w (.slice A n c) zs) : Fr W0 A := by
 intro ad e
 subst e
 exact (h.lt ad.block rfl).1
end Go.Proofs.YtcjflafjmdfanaaGreatDoor
