
/- What the frames of a step say, read back: counts, samples, qualities, channels. Plain. -/
import Derived.Test.YtfdpnephjpcnbaaDoorBz01
import Derived.ProofKit
import Derived.OpenShut
import Derived.Lib.LaidTab
import Derived.Lib.SmallJoins
import Derived.Carry
import Derived.Deep.DeepHandedRow
import Derived.Test.YtfdpnephjpcnbaaDoorBz09
import Derived.MakeChecks
import Derived.Test.YtfdpnephjpcnbaaDoorBz11
import Derived.Outline
import Derived.Test.YtfdpnephjpcnbaaDoorBz08
set_option linter.unusedSimpArgs false
set_option linter.unusedVariables false
/- Helpers of the frame of a law's proof, of no program: arrays of integers opened; a call that leaves all that was there meets the specification 'true, and the arguments read as they did'. -/
namespace Go
open Go.ChangeShapes Go.WideShapes Go.ChangeAt Go.RowKit
section
variable {H : Type} {enc : TypeId × Value → H} {P : Program} {w : World} {base : Nat} {spare : Nat → Bool} {held : Bool}

theorem okWide_arr {r : Reach} {b0 : Nat} {t : TypeId} {v : Value} {n : Nat} {e : TypeId} (ht : P.underlying t = some (.array n e)) (h : Value.okWide P w r b0 t v) : ∃ cs, v = .agg cs ∧ cs.size = P.cellsOf t := by
  simp only [Value.okWide, ht] at h
  obtain ⟨cs, h1, h2, _⟩ := h
  exact ⟨cs, h1, h2⟩

/-- An array of ints, opened. -/
theorem trod_arr_ints {fuel : Nat} {t e : TypeId} {n : Nat} {cs : List Value} {x : DataW H × List MemPlace} (ht : P.underlying t = some (.array n e)) (he : P.underlying e = some (.int .i64)) (hce : P.cellsOf e = 1) (hct : P.cellsOf t = n)
    (h : DataW.trod enc P w base spare held fuel t cs = some x) :
    ∃ ks : List Int, ks.length = n ∧ cs = ks.map (Value.int .i64) ∧ x = (.agg (ks.map fun k => .lit (.int .i64 k)), []) ∧ ∀ k ∈ ks, (Lit.int .i64 k).wf = true := by
  obtain ⟨xs, m, rfl, rfl, hl, hxs, hel⟩ := DataW.trod_array ht h
  rw [hct] at hl
  rw [hce] at hel
  have one : ∀ i, i < n → ∃ k, cs[i]? = some (.int .i64 k) ∧ xs[i]? = some (.lit (.int .i64 k), []) ∧ (Lit.int .i64 k).wf = true := by
    intro i hi
    have h1 := hel i hi
    obtain ⟨y, hy⟩ : ∃ y, xs[i]? = some y := ⟨_, List.getElem?_eq_getElem (by omega)⟩
    rw [hy] at h1
    obtain ⟨k, hk, rfl, hw⟩ := DataW.trod_int he h1
    refine ⟨k, ?_, hy, hw⟩
    have := congrArg (·[0]?) hk
    simpa [List.getElem?_take, List.getElem?_drop] using this
  refine ⟨cs.map intOf, by simp [hl], ?_, ?_, ?_⟩
  · apply List.ext_getElem?
    intro i
    by_cases hi : i < n
    · obtain ⟨k, h1, _, _⟩ := one i hi
      simp [h1, intOf]
    · rw [List.getElem?_eq_none (by omega), List.getElem?_eq_none (by simp; omega)]
  · have e1 : xs.map (·.1) = (cs.map intOf).map fun k => (DataW.lit (.int .i64 k) : DataW H) := by
      apply List.ext_getElem?
      intro i
      by_cases hi : i < n
      · obtain ⟨k, h1, h2, _⟩ := one i hi
        simp [h1, h2, intOf]
      · rw [List.getElem?_eq_none (by simp; omega), List.getElem?_eq_none (by simp; omega)]
    have e2 : xs.flatMap (·.2) = [] := by
      rw [List.flatMap_eq_nil_iff]
      intro y hy
      obtain ⟨i, hi, rfl⟩ := List.getElem_of_mem hy
      obtain ⟨k, _, h2, _⟩ := one i (by omega)
      rw [List.getElem?_eq_getElem hi] at h2
      rw [Option.some.inj h2]
    rw [e1, e2]
  · intro k hk
    obtain ⟨v, hv, rfl⟩ := List.mem_map.1 hk
    obtain ⟨i, hi, rfl⟩ := List.getElem_of_mem hv
    obtain ⟨k, h1, _, hw⟩ := one i (by omega)
    rw [List.getElem?_eq_getElem hi] at h1
    rw [Option.some.inj h1]
    exact hw

theorem wf_i64 {k : Int} (h : (Lit.int .i64 k).wf = true) : -9223372036854775808 ≤ k ∧ k ≤ 9223372036854775807 := by
  simpa [Lit.wf, IntKind.min, IntKind.max, IntKind.signed, IntKind.bits] using h

/-- An argument that is an array of four ints. -/
theorem open_arr4 {r : Reach} {b0 : Nat} {t e : TypeId} {v : Value} {d : DataW H} {ps : List MemPlace} (ht : P.underlying t = some (.array 4 e)) (he : P.underlying e = some (.int .i64)) (hce : P.cellsOf e = 1) (hct : P.cellsOf t = 4)
    (hval : Value.okWide P w r b0 t v) (hd : DataW.Trod enc P w base spare held t v d ps) :
    ∃ k0 k1 k2 k3 : Int, v = .agg #[.int .i64 k0, .int .i64 k1, .int .i64 k2, .int .i64 k3] ∧ ps = [] := by
  obtain ⟨cs, rfl, hsz⟩ := okWide_arr ht hval
  obtain ⟨fuel, hf⟩ := hd
  obtain ⟨ks, hl, hcs, hx, hw⟩ := trod_arr_ints ht he hce hct hf
  obtain ⟨l⟩ := cs
  simp only [Value.cells] at hcs
  simp only [Prod.mk.injEq] at hx
  match ks, hl, hcs, hx with
  | [k0, k1, k2, k3], _, hcs, hx =>
    refine ⟨k0, k1, k2, k3, ?_, hx.2⟩
    have : l = [.int .i64 k0, .int .i64 k1, .int .i64 k2, .int .i64 k3] := by simpa using hcs
    rw [this]

/-- All arguments read behind the call as they did before. -/
theorem trodAll_stays {W W' : World} (hl : laidOutB P = true) (hb : Below W.heap.size W W') : ∀ {ts : List TypeId} {vs : List Value} {ds : List (DataW H)} {ps : List MemPlace} {sp : Nat → Bool},
    (∀ t ∈ ts, P.readableRec t = true ∧ t < P.types.size) → DataW.TrodAll enc P W 0 (fun _ => true) true ts vs ds ps → (∀ x ∈ ps, x.block < W.heap.size) → (∀ x ∈ ps, sp x.block = true) →
    DataW.TrodAll enc P W' 0 sp true ts vs ds ps
  | [], [], [], _, _, _, h, _, _ => h
  | t :: ts, v :: vs, d :: ds, ps, sp, ht, h, hlt, hsp => by
    obtain ⟨p, q, h0, h1, rfl⟩ := h
    refine ⟨p, q, ?_, trodAll_stays hl hb (fun t' ht' => ht t' (List.mem_cons_of_mem _ ht')) h1 (fun x hx => hlt x (List.mem_append_right _ hx)) (fun x hx => hsp x (List.mem_append_right _ hx)), rfl⟩
    have := ht t (List.mem_cons_self ..)
    exact WideElems.Trod_stays hl this.1 this.2 h0 (fun x hx => hb.same (hlt x (List.mem_append_left _ hx))) (fun x hx => hsp x (List.mem_append_left _ hx))
  | [], _ :: _, _, _, _, _, h, _, _ => by exact h.elim
  | _ :: _, [], _, _, _, _, h, _, _ => by exact h.elim
  | [], [], _ :: _, _, _, _, h, _, _ => by exact h.elim
  | _ :: _, _ :: _, [], _, _, _, h, _, _ => by exact h.elim

/-- THE END OF A LAW's PROOF: it returned true and left all that was there. -/
theorem law_post {f : Func} {s : ChangeSpec} {W W' : World} {args : Array Value} {ds : List (DataW H)} {before : List MemPlace} {tb : TypeId}
    (hl : laidOutB P = true) (hts : ∀ t ∈ f.params.toList, P.readableRec t = true ∧ t < P.types.size) (hr : f.resultTypes = #[tb]) (hbool : P.underlying tb = some .bool) (hvars : s.vars = [])
    (hfn : ∀ ds' : List (DataW H), ds'.length = f.params.size → s.fn H ds' = { results := [.lit (.bool true)], args := ds' })
    (hW : DataW.Whole enc P f.params.toList s.vars false W args.toList ds [] before) (hb : Below W.heap.size W W') (hlen : ds.length = f.params.size) :
    s.post enc P f false true false false W args (.bool true) W' := by
  have hlt : ∀ p ∈ before, p.block < W.heap.size := fun p hp => hW.lt p hp
  have hW' := hW
  obtain ⟨p, q, hA, hV, rfl, hz, hn⟩ := hW
  rw [hvars] at hV
  obtain ⟨_, rfl⟩ := trodVars_none hV
  simp only [List.append_nil] at hlt hz hn hW'
  have efn := hfn ds hlen
  have hold : ∀ x ∈ p, (fun b => decide (b < W.heap.size)) x.block = true := fun x hx => by simpa using hlt x hx
  have hargs : ∀ sp : Nat → Bool, (∀ x ∈ p, sp x.block = true) → DataW.TrodAll enc P W' 0 sp true f.params.toList args.toList ds p := fun sp hsp => trodAll_stays hl hb hts hA hlt hsp
  have hres : ∀ (b : Nat) (sp : Nat → Bool) (hd : Bool), DataW.TrodAll enc P W' b sp hd f.resultTypes.toList ((Value.bool true).resultList f.resultTypes.size) [.lit (.bool true)] [] := by
    intro b sp hd
    rw [hr]
    exact trodAll_cons_mk (shut_bool hbool _) trodAll_mk0
  refine ⟨ds, [], p, [], p, [], hW', ?_, ?_, ?_, ?_, fun h => by cases h⟩
  · rw [List.append_nil, efn]; exact hres _ _ _
  · rw [List.append_nil, efn]; exact hargs _ hold
  · rw [List.append_nil, efn, hvars]; rfl
  · exact World.keptBut_mono (fun x hx => ⟨hx, by simpa using hx⟩) (hb.frame (· ∈ p))
end
end Go
/- The table of package cyclo, as the rows list it, lies in its cells; a world for the witnesses. -/
namespace Go
open Go.RowKit
/-- An array of arrays of ints that reads as the table holds the table's numbers. -/
theorem cells_of_tab2 {H : Type} {enc : TypeId × Value → H} {P : Program} {w : World} {base : Nat} {sp : Nat → Bool} {held : Bool} {fuel : Nat} {t e f : TypeId} {n m : Nat} {cs : List Value} {zss : List (List Int)} {p : List MemPlace}
    (ht : P.underlying t = some (.array n e)) (he : P.underlying e = some (.array m f)) (hf : P.underlying f = some (.int .i64)) (hcf : P.cellsOf f = 1) (hce : P.cellsOf e = m)
    (h : DataW.trod enc P w base sp held fuel t cs = some (.agg (zss.map fun zs => .agg (zs.map fun z => .lit (.int .i64 z))), p)) (i j : Nat) (hi : i < n) (hj : j < m) :
    cs[i * m + j]? = some (.int .i64 ((zss.getD i []).getD j 0)) := by
  obtain ⟨xs, k, rfl, hx, hl, hxs, hel⟩ := DataW.trod_array ht h
  have h1 := hel i hi
  obtain ⟨y, hy⟩ : ∃ y, xs[i]? = some y := ⟨_, List.getElem?_eq_getElem (by omega)⟩
  rw [hy, hce] at h1
  obtain ⟨ks, hkl, hcs, rfl, _⟩ := trod_arr_ints he hf hcf hce h1
  simp only [Prod.mk.injEq, DataW.agg.injEq] at hx
  have h2 := congrArg (·[i]?) hx.1
  simp only [List.getElem?_map, hy, Option.map_some, Option.map_eq_some_iff, DataW.agg.injEq] at h2
  obtain ⟨zs, hz, hzs⟩ := h2
  have hk : ks = zs := by
    have hinj : Function.Injective (fun k : Int => (DataW.lit (.int .i64 k) : DataW H)) := fun a b h => by simpa using h
    exact (List.map_inj_right (fun _ _ h => hinj h)).1 hzs.symm
  subst hk
  have h3 := congrArg (·[j]?) hcs
  simp only [List.getElem?_take, List.getElem?_drop, hj, if_true, List.getElem?_map] at h3
  rw [h3]
  simp [List.getD, hz, List.getElem?_eq_getElem (show j < ks.length by omega)]
end Go
namespace Go.Proofs.YtfdpnephjpcnbaaDoor
open Go.RowKit Go.Sub
theorem gRoots : Tryd.prog.globalNamed "substation/cyclo.roots" = some 0 := by kernel_rfl
theorem gRootsType : (Tryd.prog.globals[0]?).map (·.type) = some 153 := by kernel_rfl
theorem cellsInt : Tryd.prog.cellsOf 3 = 1 := by kernel_rfl
theorem cellsCyc : Tryd.prog.cellsOf 41 = 4 := by kernel_rfl
theorem roots_of_laid {W : World} (h : laidMetH Tryd.prog [("substation/cyclo.roots", Rows.laid_substation_cyclo_roots)] W) : RootsOK W := by
  rw [MakeChecks.laidMetH_plain _ _ _ (by kernel_rfl)] at h
  obtain ⟨ps, ⟨g', t', cs, fuel, p, q, hg', ht', hvar, hd, _, _⟩, _⟩ := h
  obtain rfl := Option.some.inj (gRoots.symm.trans hg')
  obtain rfl := Option.some.inj (gRootsType.symm.trans ht')
  have hc : ∀ i j, i < 6 → j < 4 → cs.toList[i * 4 + j]? = some (.int .i64 (([[1, 0, 0, 0], [0, 1, 0, 0], [0, 0, 1, 0], [0, 0, 0, 1], [-1, 0, 1, 0], [0, -1, 0, 1]] : List (List Int)).getD i [] |>.getD j 0)) :=
    fun i j hi hj => cells_of_tab2 (zss := [[1, 0, 0, 0], [0, 1, 0, 0], [0, 0, 1, 0], [0, 0, 0, 1], [-1, 0, 1, 0], [0, -1, 0, 1]]) Tryd.underlying153 Tryd.underlying41 Tryd.underlying3 cellsInt cellsCyc hd i j hi hj
  have hcell : ∀ i, i < 24 → W.cell? ⟨0, i, none⟩ = some (.int .i64 (rootTab.getD i 0)) := by
    intro i hi
    rw [World.var?_cell gRoots hvar i]
    have := hc (i / 4) (i % 4) (by omega) (by omega)
    rw [show i / 4 * 4 + i % 4 = i by omega] at this
    have e : (([[1, 0, 0, 0], [0, 1, 0, 0], [0, 0, 1, 0], [0, 0, 0, 1], [-1, 0, 1, 0], [0, -1, 0, 1]] : List (List Int)).getD (i / 4) [] |>.getD (i % 4) 0) = rootTab.getD i 0 := by
      have : ∀ i : Fin 24, (([[1, 0, 0, 0], [0, 1, 0, 0], [0, 0, 1, 0], [0, 0, 0, 1], [-1, 0, 1, 0], [0, -1, 0, 1]] : List (List Int)).getD (i.val / 4) [] |>.getD (i.val % 4) 0) = rootTab.getD i.val 0 := by decide
      exact this ⟨i, hi⟩
    rw [e] at this
    simpa using this
  refine ⟨?_, hcell⟩
  have h0 := hcell 0 (by omega)
  rcases Nat.lt_or_ge 0 W.heap.size with h | h
  · exact h
  · simp [World.cell?, Array.getElem?_eq_none h] at h0

theorem own : ownKnob Tryd.prog.godebug = none := by kernel_rfl
/-- A world for the witness: the settled one, the table in its block. -/
noncomputable def laidWorld (os : Os) : World :=
  { World.holding Tryd.prog os ⟨#[], #[], []⟩ with heap := (World.holding Tryd.prog os ⟨#[], #[], []⟩).heap.modify 0 fun
      | .cells _ t frozen => .cells #[.int .i64 1, .int .i64 0, .int .i64 0, .int .i64 0, .int .i64 0, .int .i64 1, .int .i64 0, .int .i64 0, .int .i64 0, .int .i64 0, .int .i64 1, .int .i64 0, .int .i64 0, .int .i64 0, .int .i64 0, .int .i64 1, .int .i64 (-1), .int .i64 0, .int .i64 1, .int .i64 0, .int .i64 0, .int .i64 (-1), .int .i64 0, .int .i64 1] t frozen
      | o => o }
theorem laidOut : laidOutB Tryd.prog = true := by kernel_rfl
end Go.Proofs.YtfdpnephjpcnbaaDoor
/- What Check, Harmonic, All and Energy of package phasor return for windows that are in their range. -/
namespace Go.Proofs.YtfdpnephjpcnbaaDoor
open Go.RowKit Go.Sub
theorem old_at {w : World} {b i : Nat} {v : Value} (h : w.cell? ⟨b, i, none⟩ = some v) : Old b w := ⟨World.block_lt_of_cell? w ⟨b, i, none⟩ h⟩
/-- The window x lies in block b from o on. -/
def Win (w : World) (b o : Nat) (x : Nat → Int) : Prop := ∀ k, k < 12 → w.cell? ⟨b, o + k, none⟩ = some (.int .i64 (x k))
theorem Win.old {w : World} {b o : Nat} {x : Nat → Int} (h : Win w b o x) : Old b w := old_at (h 0 (by omega))
theorem Win.q {w w' : World} {b o : Nat} {x : Nat → Int} (h : Win w b o x) (hq : Q w w') : Win w' b o x := by
  intro k hk
  haveI := h.old
  obtain ⟨kk, rfl⟩ := hq
  rw [World.cell?_jk]
  exact h k hk

set_option maxHeartbeats 1000000 in
theorem phcheck_c (b o c : Nat) (x : Nat → Int) (w : World) (hw : Win w b o x) (hx : WinOK x 16383) :
    Calls Tryd.prog 39 #[.slice (some ⟨b, o, none⟩) 12 c] w fun e w' => e = .returned (.int .i64 0) ∧ w = w' := by
  go_enter Tryd.func39, Tryd.ntmps39
  go_wp2
  go_loop [10] (fun i => ∃ k : Nat, k ≤ 12 ∧ i = .int .i64 k) (fun i => 12 - (intOf i).toNat)
  case atStart => exact ⟨0, by omega, rfl⟩
  case round =>
    obtain ⟨k, hk, rfl⟩ := hrel
    by_cases hlt : k < 12
    · have hc := hw k hlt
      obtain ⟨h1, h2⟩ := hx k hlt
      clear hw hx
      go_wp2
      go_round
      case rel => exact ⟨k + 1, by omega, by go_num⟩
      case measure => simp [intOf]; omega
    · clear hw hx
      go_wp2
      go_ret
      exact ⟨rfl, rfl⟩

/-- A term of a sum: what the function value gives for k. -/
def Term (F : FuncId) (cap : Array Value) (y : Nat → Cy) (w : World) : Prop :=
  ∀ (k : Nat) (w' : World), k < 12 → Q w w' → Calls Tryd.prog F (#[.int .i64 (k : Int)] ++ cap) w' fun e w'' => e = .returned (.tuple #[.agg #[.int .i64 (y k).a, .int .i64 (y k).b, .int .i64 (y k).c, .int .i64 (y k).d], .int .i64 0]) ∧ Q w' w''
set_option maxHeartbeats 2000000 in
theorem phsum_c (F : FuncId) (cap : Array Value) (y : Nat → Cy) (w : World) (hF : ∀ (args : Array Value) (w : World), (callFunc F args).run Tryd.prog w = .ok (.enter F args) w) (ht : Term F cap y w) (hy : ∀ k, k < 12 → (y k).In 1000000000000000) :
    Calls Tryd.prog 40 #[.func (.func F) #[] cap] w fun e w' => e = .returned (.tuple #[.agg #[.int .i64 (sumC y 12).a, .int .i64 (sumC y 12).b, .int .i64 (sumC y 12).c, .int .i64 (sumC y 12).d], .int .i64 0]) ∧ Q w w' := by
  go_enter Tryd.func40, Tryd.ntmps40
  go_wp2
  go_loopw [8] (fun i wr => ∃ k : Nat, k ≤ 12 ∧ i = .int .i64 k ∧ Q ((w.alloc (.cells #[.int .i64 0, .int .i64 0, .int .i64 0, .int .i64 0] 41)).alloc (.cells #[.int .i64 (sumC y k).a, .int .i64 (sumC y k).b, .int .i64 (sumC y k).c, .int .i64 (sumC y k).d] 41)) wr) (fun i _ => 12 - (intOf i).toNat)
  case atStart => exact ⟨0, by omega, rfl, Q.refl _⟩
  case round =>
    obtain ⟨k, hk, rfl, kw, rfl⟩ := hrel
    by_cases hlt : k < 12
    · have hyk := hy k hlt
      have hsk := sumC_in (l := 1000000000000000) k fun j hj => hy j (by omega)
      have hs2 := hsk.mono (show (k : Int) * 1000000000000000 ≤ 50000000000000000 by omega)
      clear hsk
      have HT := fun w' => ht k w' hlt
      have HH := Lib.hid HT
      clear HT hy ht
      go_wp2_with (first | (refine (HH.out _ (by repeat' (first | exact Q.refl _ | refine Q.alloc ?_ _ | refine Q.jk ?_ _ | refine Q.drew ?_))).mono ?_; rintro e w' ⟨rfl, kj, rfl⟩) | (go_at_call 38; refine (add_c _ _ _ (Cy.In.mono (by assumption) (by decide)) (Cy.In.mono (by assumption) (by decide))).mono ?_; rintro e w' ⟨rfl, kj, rfl⟩))
      go_roundw
      case rel =>
        refine ⟨k + 1, by omega, by go_num, ?_⟩
        repeat' (first | exact Q.refl _ | refine Q.alloc ?_ _ | refine Q.jk ?_ _ | refine Q.drew ?_)
      case measure => simp [intOf]; omega
    · obtain rfl : k = 12 := by omega
      clear hy ht
      go_wp2
      refine bodyPost_ret (v := .tuple #[.agg #[.int .i64 (sumC y 12).a, .int .i64 (sumC y 12).b, .int .i64 (sumC y 12).c, .int .i64 (sumC y 12).d], .int .i64 0]) (by simp [results, Tryd.results40, go_sem]) rfl ⟨rfl, ?_⟩
      repeat' (first | exact Q.refl _ | refine Q.alloc ?_ _ | refine Q.jk ?_ _ | refine Q.drew ?_)

theorem scale_c (x : Cy) (k : Int) (w : World) (hx : x.In 1000000) (hk : -1000000000 ≤ k ∧ k ≤ 1000000000) :
    Calls Tryd.prog 42 #[.agg #[.int .i64 x.a, .int .i64 x.b, .int .i64 x.c, .int .i64 x.d], .int .i64 k] w fun e w' => e = .returned (.tuple #[.agg #[.int .i64 (x.scl k).a, .int .i64 (x.scl k).b, .int .i64 (x.scl k).c, .int .i64 (x.scl k).d], .int .i64 0]) ∧ Q w w' := by
  have h := scale_any x.a x.b x.c x.d k w
  rw [scaleR_ok hx hk] at h
  exact h

set_option maxHeartbeats 2000000 in
theorem phterm_c (k : Nat) (h : Int) (bh bx b o c : Nat) (x : Nat → Int) (w : World) (hr : RootsOK w) (hk : k < 12) (ch : w.cell? ⟨bh, 0, none⟩ = some (.int .i64 h)) (cx : w.cell? ⟨bx, 0, none⟩ = some (.slice (some ⟨b, o, none⟩) 12 c))
    (ck : w.cell? ⟨b, o + k, none⟩ = some (.int .i64 (x k))) (h1 : -16383 ≤ x k) (h2 : x k ≤ 16383) (hh1 : -12 ≤ h) (hh2 : h ≤ 12) :
    Calls Tryd.prog 41 #[.int .i64 (k : Int), .pointer (some ⟨bh, 0, none⟩), .pointer (some ⟨bx, 0, none⟩)] w fun e w' => e = .returned (.tuple #[.agg #[.int .i64 (hterm x h k).a, .int .i64 (hterm x h k).b, .int .i64 (hterm x h k).c, .int .i64 (hterm x h k).d], .int .i64 0]) ∧ Q w w' := by
  haveI := old_at ch
  haveI := old_at cx
  haveI := old_at ck
  have kk : (0 : Int) ≤ (k : Int) := by omega
  have kk2 : (k : Int) < 12 := by omega
  have hm := bd_mul hh1 hh2 (show -12 ≤ (k : Int) by omega) (show (k : Int) ≤ 12 by omega)
  have hm1 : -1000 ≤ -h * (k : Int) := by rw [Int.neg_mul]; omega
  have hm2 : -h * (k : Int) ≤ 1000 := by rw [Int.neg_mul]; omega
  clear hm
  have hri := rootC_in (-h * k)
  go_enter Tryd.func41, Tryd.ntmps41
  go_wp2
  try simp only [List.append]
  refine wp_region_tail 12 (by kernel_rfl) (by kernel_rfl) ?_
  simp only [List.take_succ_cons, List.take_zero, List.drop_succ_cons, List.drop_zero]
  repeat (go_big_quiet_step ((first | (go_at_call 43; exact Calls.jk_of (root_any _ _ (by repeat' (first | with_reducible exact hr | refine RootsOK.alloc ?_ _ | refine RootsOK.jk ?_ _ | refine RootsOK.drew ?_)))) | (go_at_call 42; exact Calls.jk_of (scale_c _ _ _ (Cy.In.mono (by assumption) (by decide)) (by omega))))))
  refine wpQuiet_nil ?_
  intro _ hw'
  obtain ⟨kq, rfl⟩ := hw'
  go_wp2
  refine bodyPost_ret (v := .tuple #[.agg #[.int .i64 (hterm x h k).a, .int .i64 (hterm x h k).b, .int .i64 (hterm x h k).c, .int .i64 (hterm x h k).d], .int .i64 0]) (by simp [results, Tryd.results41, go_sem, hterm]) rfl ⟨rfl, ?_⟩
  repeat' (first | exact Q.refl _ | refine Q.alloc ?_ _ | refine Q.jk ?_ _ | refine Q.drew ?_)

set_option maxHeartbeats 2000000 in
theorem phharm_c (h : Int) (b o c : Nat) (x : Nat → Int) (w : World) (hr : RootsOK w) (hw : Win w b o x) (hx : WinOK x 16383) :
    Calls Tryd.prog 16 #[.slice (some ⟨b, o, none⟩) 12 c, .int .i64 h] w fun e w' => e = .returned (.tuple #[.agg #[.int .i64 (harm x h).a, .int .i64 (harm x h).b, .int .i64 (harm x h).c, .int .i64 (harm x h).d], .int .i64 0]) ∧ Q w w' := by
  rw [← harm_tmod]
  have tb := tmod_bd h 12 (by decide)
  haveI := hw.old
  have HW := Lib.hid hw
  have HX := Lib.hid hx
  have hty : ∀ k, k < 12 → (hterm x (h.tmod 12) k).In 1000000000000000 := fun k hk => (hterm_in (hx k hk).1 (hx k hk).2).mono (by decide)
  have HT := Lib.hid hty
  clear hw hx hty
  go_enter Tryd.func16, Tryd.ntmps16
  go_wp2_with (go_at_call 39; refine (phcheck_c _ _ _ x _ (HW.out.q (by repeat' (first | exact Q.refl _ | refine Q.alloc ?_ _ | refine Q.jk ?_ _ | refine Q.drew ?_))) HX.out).mono ?_; rintro e w' ⟨rfl, rfl⟩)
  go_at_call 40
  refine (phsum_c _ _ (hterm x (h.tmod 12)) _ (fun _ _ => by kernel_rfl) ?_ HT.out).mono ?_
  · rintro k w' hk ⟨kw, rfl⟩
    refine phterm_c k (h.tmod 12) _ _ b o c x _ (by repeat' (first | with_reducible exact hr | refine RootsOK.alloc ?_ _ | refine RootsOK.jk ?_ _ | refine RootsOK.drew ?_)) hk (by simp [go_sem]) (by simp [go_sem]) ?_ (HX.out k hk).1 (HX.out k hk).2 (by omega) (by omega)
    have := HW.out k hk
    simp only [World.cell?_jk, World.cell?_alloc_old']
    exact this
  · rintro e w' ⟨rfl, kj, rfl⟩
    go_wp2
    refine bodyPost_ret (v := .tuple #[.agg #[.int .i64 (harm x (h.tmod 12)).a, .int .i64 (harm x (h.tmod 12)).b, .int .i64 (harm x (h.tmod 12)).c, .int .i64 (harm x (h.tmod 12)).d], .int .i64 0]) (by simp [results, Tryd.results16, go_sem, harm]) rfl ⟨rfl, ?_⟩
    repeat' (first | exact Q.refl _ | refine Q.alloc ?_ _ | refine Q.jk ?_ _ | refine Q.drew ?_)

/-- The cells of twelve numbers of which k are there. -/
def cells48 (y : Nat → Cy) (k : Nat) : Array Value :=
  ((List.range 12).flatMap fun h => if h < k then [.int .i64 (y h).a, .int .i64 (y h).b, .int .i64 (y h).c, .int .i64 (y h).d] else [.int .i64 0, .int .i64 0, .int .i64 0, .int .i64 0]).toArray
theorem cells48_at (y : Nat → Cy) (k : Nat) (hk : k < 12) : (cells48 y k)[k * 4]? = some (.int .i64 0) ∧ (cells48 y k)[k * 4 + 1]? = some (.int .i64 0) ∧ (cells48 y k)[k * 4 + 2]? = some (.int .i64 0) ∧ (cells48 y k)[k * 4 + 3]? = some (.int .i64 0) := by
  have hk' : k = 0 ∨ k = 1 ∨ k = 2 ∨ k = 3 ∨ k = 4 ∨ k = 5 ∨ k = 6 ∨ k = 7 ∨ k = 8 ∨ k = 9 ∨ k = 10 ∨ k = 11 := by omega
  rcases hk' with rfl | rfl | rfl | rfl | rfl | rfl | rfl | rfl | rfl | rfl | rfl | rfl <;> exact ⟨rfl, rfl, rfl, rfl⟩
theorem cells48_set (y : Nat → Cy) (k : Nat) (hk : k < 12) :
    (((((cells48 y k).setIfInBounds (k * 4) (.int .i64 (y k).a)).setIfInBounds (k * 4 + 1) (.int .i64 (y k).b)).setIfInBounds (k * 4 + 2) (.int .i64 (y k).c)).setIfInBounds (k * 4 + 3) (.int .i64 (y k).d)) = cells48 y (k + 1) := by
  have hk' : k = 0 ∨ k = 1 ∨ k = 2 ∨ k = 3 ∨ k = 4 ∨ k = 5 ∨ k = 6 ∨ k = 7 ∨ k = 8 ∨ k = 9 ∨ k = 10 ∨ k = 11 := by omega
  rcases hk' with rfl | rfl | rfl | rfl | rfl | rfl | rfl | rfl | rfl | rfl | rfl | rfl <;> rfl
@[go_sem] theorem cells48_size (y : Nat → Cy) (k : Nat) : (cells48 y k).size = 48 := by
  unfold cells48
  simp only [List.range_succ, List.range_zero, List.nil_append, List.flatMap_append, List.flatMap_cons, List.flatMap_nil, List.append_nil, List.size_toArray, List.length_append]
  have e : ∀ h : Nat, (if h < k then [Value.int .i64 (y h).a, .int .i64 (y h).b, .int .i64 (y h).c, .int .i64 (y h).d] else [.int .i64 0, .int .i64 0, .int .i64 0, .int .i64 0]).length = 4 := by
    intro h; split <;> rfl
  simp only [e]
instance cells48_one (y : Nat → Cy) (k : Nat) : Ones (cells48 y k) := by
  refine ⟨?_⟩
  apply Array.all_eq_true_iff_forall_mem.2
  intro v hv
  unfold cells48 at hv
  simp only [List.mem_toArray, List.mem_flatMap] at hv
  obtain ⟨h, _, hv⟩ := hv
  split at hv <;> simp at hv <;> rcases hv with rfl | rfl | rfl | rfl <;> rfl
@[go_sem ↓ high] theorem lv48 (a : Addr) : loadVar 42 a = bigLoad 42 a := rfl
@[go_sem ↓ high] theorem sv48 (a : Addr) (v : Value) : storeVar 42 a v = bigStore 42 a v := rfl
theorem info48 : (Tryd.prog.info? 42).map (·.size) = some 48 := by kernel_rfl
@[go_sem] theorem run_load48 {w : World} {n : Nat} {cs : Array Value} {t : TypeId} {fr : Nat × Nat} [h : Blk w n (.cells cs t fr)] (hs : cs.size = 48) :
    (bigLoad 42 ⟨n, 0, none⟩).run Tryd.prog w = .ok (.agg cs) w := run_bigLoad Tryd.underlying42 rfl (by rw [hs]; exact info48)
@[go_sem] theorem run_store48 {w : World} {n : Nat} {cs cs' : Array Value} {t : TypeId} [h : Blk w n (.cells cs t (0, 0))] (hs : cs.size = 48) (hs' : cs'.size = 48) [h1 : Ones cs'] :
    (bigStore 42 ⟨n, 0, none⟩ (.agg cs')).run Tryd.prog w = .ok () (w.setBlk n (.cells cs' t)) := run_bigStore (by rw [hs']; exact info48) (by rw [hs, hs'])
set_option maxRecDepth 100000 in
set_option maxHeartbeats 8000000 in
theorem phall_c (b o c : Nat) (x : Nat → Int) (w : World) (hr : RootsOK w) (hw : Win w b o x) (hx : WinOK x 16383) :
    Calls Tryd.prog 11 #[.slice (some ⟨b, o, none⟩) 12 c] w fun e w' => e = .returned (.tuple #[.agg (cells48 (fun h => harm x (h : Int)) 12), .int .i64 0]) ∧ Q w w' := by
  haveI := hw.old
  have HW := Lib.hid hw
  have HX := Lib.hid hx
  clear hw hx
  go_enter Tryd.func11, Tryd.ntmps11
  go_wp2
  go_loopw [8] (fun i wr => ∃ k : Nat, k ≤ 12 ∧ i = .int .i64 k ∧ Q ((w.alloc (.cells #[.int .i64 0, .int .i64 0, .int .i64 0, .int .i64 0, .int .i64 0, .int .i64 0, .int .i64 0, .int .i64 0, .int .i64 0, .int .i64 0, .int .i64 0, .int .i64 0, .int .i64 0, .int .i64 0, .int .i64 0, .int .i64 0, .int .i64 0, .int .i64 0, .int .i64 0, .int .i64 0, .int .i64 0, .int .i64 0, .int .i64 0, .int .i64 0, .int .i64 0, .int .i64 0, .int .i64 0, .int .i64 0, .int .i64 0, .int .i64 0, .int .i64 0, .int .i64 0, .int .i64 0, .int .i64 0, .int .i64 0, .int .i64 0, .int .i64 0, .int .i64 0, .int .i64 0, .int .i64 0, .int .i64 0, .int .i64 0, .int .i64 0, .int .i64 0, .int .i64 0, .int .i64 0, .int .i64 0, .int .i64 0] 42)).alloc (.cells (cells48 (fun h => harm x (h : Int)) k) 42)) wr) (fun i _ => 12 - (intOf i).toNat)
  case atStart => exact ⟨0, by omega, rfl, Q.refl _⟩
  case round =>
    obtain ⟨k, hk, rfl, kw, rfl⟩ := hrel
    by_cases hlt : k < 12
    · obtain ⟨a0, a1, a2, a3⟩ := cells48_at (fun h => harm x (h : Int)) k hlt
      have HS := Lib.hid (cells48_set (fun h => harm x (h : Int)) k hlt)
      go_wp2_with (go_at_call 16; refine (phharm_c _ _ _ _ x _ (by repeat' (first | with_reducible exact hr | refine RootsOK.alloc ?_ _ | refine RootsOK.jk ?_ _ | refine RootsOK.drew ?_)) (HW.out.q (by repeat' (first | exact Q.refl _ | refine Q.alloc ?_ _ | refine Q.jk ?_ _ | refine Q.drew ?_))) HX.out).mono ?_; rintro e w' ⟨rfl, kj, rfl⟩)
      go_roundw
      case rel =>
        refine ⟨k + 1, by omega, by go_num, ?_⟩
        rw [← HS.out]
        repeat' (first | exact Q.refl _ | refine Q.alloc ?_ _ | refine Q.jk ?_ _ | refine Q.drew ?_)
      case measure => simp [intOf]; omega
    · obtain rfl : k = 12 := by omega
      go_wp2
      refine bodyPost_ret (v := .tuple #[.agg (cells48 (fun h => harm x (h : Int)) 12), .int .i64 0]) (results_blk2 Tryd.results11 rfl rfl Tryd.underlying42 rfl (by rw [cells48_size]; exact info48)) rfl ⟨rfl, ?_⟩
      repeat' (first | exact Q.refl _ | refine Q.alloc ?_ _ | refine Q.jk ?_ _ | refine Q.drew ?_)

end Go.Proofs.YtfdpnephjpcnbaaDoor
set_option linter.unusedVariables false
set_option linter.unusedSimpArgs false
namespace Go.Sub
open Go
theorem dat_len {step : Int} {rows : List Ch} {l : List Fm} (h : l.map Fm.dat = splitD step rows) : l.length = 12 := by
  have := congrArg List.length h
  simpa [splitD] using this
theorem dat_at {step : Int} {rows : List Ch} {l : List Fm} (h : l.map Fm.dat = splitD step rows) {k : Nat} {f : Fm} (hk : l[k]? = some f) :
    k < 12 ∧ f.c = (12 * step + (k : Int)) % 600 ∧ f.xs = rows.map (fun r => r.l.getD k 0) ∧ f.qs = List.replicate rows.length 0 := by
  have hl := dat_len h
  have hk' := (List.getElem?_eq_some_iff.1 hk).1
  have e := congrArg (fun z => z[k]?) h
  simp only [List.getElem?_map, hk, Option.map_some, splitD, List.getElem?_range (show k < 12 by omega), Option.some.injEq] at e
  unfold Fm.dat datK at e
  simp only [Prod.mk.injEq] at e
  exact ⟨by omega, e⟩
theorem dat_mem {step : Int} {rows : List Ch} {l : List Fm} (h : l.map Fm.dat = splitD step rows) {f : Fm} (hf : f ∈ l) :
    ∃ k : Nat, k < 12 ∧ f.c = (12 * step + (k : Int)) % 600 ∧ f.xs = rows.map (fun r => r.l.getD k 0) ∧ f.qs = List.replicate rows.length 0 := by
  obtain ⟨k, hk, rfl⟩ := List.getElem_of_mem hf
  exact ⟨k, dat_at h (List.getElem?_eq_getElem hk)⟩
theorem dat_c {step : Int} {rows : List Ch} {l : List Fm} (h : l.map Fm.dat = splitD step rows) : ∀ f ∈ l, 0 ≤ f.c ∧ f.c ≤ 599 := by
  intro f hf
  obtain ⟨k, _, e, _⟩ := dat_mem h hf
  omega
theorem inB_getD {lo hi : Int} {l : List Int} (h : InB lo hi l) (h0 : lo ≤ 0 ∧ 0 ≤ hi) (k : Nat) : lo ≤ l.getD k 0 ∧ l.getD k 0 ≤ hi := by
  by_cases hk : k < l.length
  · exact h k hk
  · rw [List.getD_eq_getElem?_getD, List.getElem?_eq_none (by omega)]
    exact h0
theorem dat_x {step : Int} {rows : List Ch} {l : List Fm} (h : l.map Fm.dat = splitD step rows) (bx : ∀ r ∈ rows, InB (-16383) 16383 r.l) : ∀ f ∈ l, InB (-16383) 16383 f.xs := by
  intro f hf
  obtain ⟨k, _, _, e, _⟩ := dat_mem h hf
  rw [e]
  intro j hj
  rw [List.getD_eq_getElem?_getD, List.getElem?_map]
  rw [List.length_map] at hj
  rw [List.getElem?_eq_getElem hj]
  exact inB_getD (bx _ (List.getElem_mem hj)) (by decide) k
theorem rep_getD (n j : Nat) : (List.replicate n (0 : Int)).getD j 0 = 0 := by
  rw [List.getD_eq_getElem?_getD, List.getElem?_replicate]
  split <;> rfl
theorem dat_q {step : Int} {rows : List Ch} {l : List Fm} (h : l.map Fm.dat = splitD step rows) : ∀ f ∈ l, InB 0 255 f.qs := by
  intro f hf
  obtain ⟨k, _, _, _, e⟩ := dat_mem h hf
  rw [e]
  intro j hj
  rw [rep_getD]
  decide
theorem dat_q0 {step : Int} {rows : List Ch} {l : List Fm} (h : l.map Fm.dat = splitD step rows) : ∀ f ∈ l, ∀ j, f.qs.getD j 0 = 0 := by
  intro f hf j
  obtain ⟨k, _, _, _, e⟩ := dat_mem h hf
  rw [e, rep_getD]
/-- The columns of the frames are the channels. -/
theorem dat_back {step : Int} {rows : List Ch} {l : List Fm} (h : l.map Fm.dat = splitD step rows) (hr : ∀ r ∈ rows, r.l.length = 12) : (List.range rows.length).map (colF l) = rows.map Ch.l := by
  have hl := dat_len h
  apply List.ext_getElem?
  intro c
  by_cases hc : c < rows.length
  · rw [List.getElem?_map, List.getElem?_range hc, List.getElem?_map, List.getElem?_eq_getElem hc]
    simp only [Option.map_some, Option.some.injEq]
    have h12 := hr _ (List.getElem_mem hc)
    unfold colF
    apply List.ext_getElem?
    intro k
    by_cases hk : k < 12
    · have hkl : k < l.length := by omega
      obtain ⟨_, _, e, _⟩ := dat_at h (List.getElem?_eq_getElem hkl)
      rw [List.getElem?_map, List.getElem?_eq_getElem hkl, Option.map_some, e, List.getElem?_eq_getElem (by omega)]
      congr 1
      rw [List.getD_eq_getElem?_getD, List.getElem?_map, List.getElem?_eq_getElem hc]
      simp only [Option.map_some, Option.getD_some]
      rw [List.getD_eq_getElem?_getD, List.getElem?_eq_getElem (by omega)]
      rfl
    · rw [List.getElem?_eq_none (by simp; omega), List.getElem?_eq_none (by omega)]
  · rw [List.getElem?_eq_none (by simp; omega), List.getElem?_eq_none (by simp; omega)]
end Go.Sub
namespace Go.Proofs.YtfdpnephjpcnbaaDoor
open Go.RowKit Go.Sub
theorem ChAt.l12 {w : World} {A : Option Addr} {n ca : Nat} {rows : List Ch} (h : ChAt w A n ca rows) : ∀ r ∈ rows, r.l.length = 12 := fun r hr => (h.2 r hr).len
/-- Where the channels lie. -/
theorem ChAt.at_ {w : World} {A : Option Addr} {n ca : Nat} {rows : List Ch} (h : ChAt w A n ca rows) (hn : 0 < n) : ∃ g o, A = some ⟨g, o, none⟩ ∧ Old g w ∧ Hid (∀ k r, rows[k]? = some r → w.cell? ⟨g, o + k, none⟩ = some (chC r)) := by
  obtain ⟨g, o, e, ho, hc⟩ := h.1.at_ hn
  exact ⟨g, o, e, ho, Lib.hid fun k r hk => hc.out k _ (by rw [List.getElem?_map, hk]; rfl)⟩
theorem ChAt.win {w : World} {A : Option Addr} {n ca : Nat} {rows : List Ch} (h : ChAt w A n ca rows) {k : Nat} {r : Ch} (hk : rows[k]? = some r) : Win w r.g 0 (fun j => r.l.getD j 0) := by
  intro j hj
  obtain ⟨g, o, e, _, hc⟩ := (h.2 r (List.mem_of_getElem? hk)).at_ (by decide)
  cases e
  exact hc.out j hj
theorem collect_lit (u step N : Int) (g n cap : Nat) (l : List Fm) (w : World) (hN : N = (n : Int)) (h : FrAt w g u n l) (hl : l.length = 12) (n0 : 1 ≤ n) (n1 : n ≤ 8) (u0 : 0 ≤ u) (u1 : u ≤ 999) (s0 : 0 ≤ step) (s1 : step ≤ 1099511627776)
    (hc : ∀ (k : Nat) (f : Fm), l[k]? = some f → f.c = (12 * step + (k : Int)) % 600) (bx : ∀ f ∈ l, InB (-16383) 16383 f.xs) (bq : ∀ f ∈ l, ∀ j, f.qs.getD j 0 = 0) :
    Calls Tryd.prog 9 #[.slice (some ⟨g, 0, none⟩) 12 cap, .int .i64 u, .int .i64 step, .int .i64 N] w (RetRows n ((List.range n).map (colF l)) w) := by
  subst hN
  exact collect_c u step g n cap l w h hl n0 n1 u0 u1 s0 s1 hc bx bq
theorem winOK_of {l : List Int} (h : InB (-16383) 16383 l) : WinOK (fun j => l.getD j 0) 16383 := fun k _ => inB_getD h (by decide) k
end Go.Proofs.YtfdpnephjpcnbaaDoor
