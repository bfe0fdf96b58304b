
/- The table of package cyclo, as the rows list it, lies in its cells; a world for the witnesses. -/
import Derived.Test.YtfdpnephjpcnbaaDoorCyW3
import Derived.Test.YtfdpnephjpcnbaaDoorFrame
import Derived.MakeChecks
namespace Go
open Go.RowKit
/-- An array of arrays of ints that reads as the table holds the table's numbers. -/
theorem cells_of_tab2 {H : Type} {enc : TypeId × Value → H} {P : Program} {w : World} {base : Nat} {sp : Nat → Bool} {held : Bool} {fuel : Nat} {t e f : TypeId} {n m : Nat} {cs : List Value} {zss : List (List Int)} {p : List MemPlace}
    (ht : P.underlying t = some (.array n e)) (he : P.underlying e = some (.array m f)) (hf : P.underlying f = some (.int .i64)) (hcf : P.cellsOf f = 1) (hce : P.cellsOf e = m)
    (h : DataW.trod enc P w base sp held fuel t cs = some (.agg (zss.map fun zs => .agg (zs.map fun z => .lit (.int .i64 z))), p)) (i j : Nat) (hi : i < n) (hj : j < m) :
    cs[i * m + j]? = some (.int .i64 ((zss.getD i []).getD j 0)) := by
  obtain ⟨xs, k, rfl, hx, hl, hxs, hel⟩ := DataW.trod_array ht h
  have h1 := hel i hi
  obtain ⟨y, hy⟩ : ∃ y, xs[i]? = some y := ⟨_, List.getElem?_eq_getElem (by omega)⟩
  rw [hy, hce] at h1
  obtain ⟨ks, hkl, hcs, rfl, _⟩ := trod_arr_ints he hf hcf hce h1
  simp only [Prod.mk.injEq, DataW.agg.injEq] at hx
  have h2 := congrArg (·[i]?) hx.1
  simp only [List.getElem?_map, hy, Option.map_some, Option.map_eq_some_iff, DataW.agg.injEq] at h2
  obtain ⟨zs, hz, hzs⟩ := h2
  have hk : ks = zs := by
    have hinj : Function.Injective (fun k : Int => (DataW.lit (.int .i64 k) : DataW H)) := fun a b h => by simpa using h
    exact (List.map_inj_right (fun _ _ h => hinj h)).1 hzs.symm
  subst hk
  have h3 := congrArg (·[j]?) hcs
  simp only [List.getElem?_take, List.getElem?_drop, hj, if_true, List.getElem?_map] at h3
  rw [h3]
  simp [List.getD, hz, List.getElem?_eq_getElem (show j < ks.length by omega)]
end Go
namespace Go.Proofs.YtfdpnephjpcnbaaDoor
open Go.RowKit Go.Sub
theorem gRoots : Tryd.prog.globalNamed "substation/cyclo.roots" = some 0 := by kernel_rfl
theorem gRootsType : (Tryd.prog.globals[0]?).map (·.type) = some 153 := by kernel_rfl
theorem cellsInt : Tryd.prog.cellsOf 3 = 1 := by kernel_rfl
theorem cellsCyc : Tryd.prog.cellsOf 41 = 4 := by kernel_rfl
theorem roots_of_laid {W : World} (h : laidMetH Tryd.prog [("substation/cyclo.roots", Rows.laid_substation_cyclo_roots)] W) : RootsOK W := by
  rw [MakeChecks.laidMetH_plain _ _ _ (by kernel_rfl)] at h
  obtain ⟨ps, ⟨g', t', cs, fuel, p, q, hg', ht', hvar, hd, _, _⟩, _⟩ := h
  obtain rfl := Option.some.inj (gRoots.symm.trans hg')
  obtain rfl := Option.some.inj (gRootsType.symm.trans ht')
  have hc : ∀ i j, i < 6 → j < 4 → cs.toList[i * 4 + j]? = some (.int .i64 (([[1, 0, 0, 0], [0, 1, 0, 0], [0, 0, 1, 0], [0, 0, 0, 1], [-1, 0, 1, 0], [0, -1, 0, 1]] : List (List Int)).getD i [] |>.getD j 0)) :=
    fun i j hi hj => cells_of_tab2 (zss := [[1, 0, 0, 0], [0, 1, 0, 0], [0, 0, 1, 0], [0, 0, 0, 1], [-1, 0, 1, 0], [0, -1, 0, 1]]) Tryd.underlying153 Tryd.underlying41 Tryd.underlying3 cellsInt cellsCyc hd i j hi hj
  have hcell : ∀ i, i < 24 → W.cell? ⟨0, i, none⟩ = some (.int .i64 (rootTab.getD i 0)) := by
    intro i hi
    rw [World.var?_cell gRoots hvar i]
    have := hc (i / 4) (i % 4) (by omega) (by omega)
    rw [show i / 4 * 4 + i % 4 = i by omega] at this
    have e : (([[1, 0, 0, 0], [0, 1, 0, 0], [0, 0, 1, 0], [0, 0, 0, 1], [-1, 0, 1, 0], [0, -1, 0, 1]] : List (List Int)).getD (i / 4) [] |>.getD (i % 4) 0) = rootTab.getD i 0 := by
      have : ∀ i : Fin 24, (([[1, 0, 0, 0], [0, 1, 0, 0], [0, 0, 1, 0], [0, 0, 0, 1], [-1, 0, 1, 0], [0, -1, 0, 1]] : List (List Int)).getD (i.val / 4) [] |>.getD (i.val % 4) 0) = rootTab.getD i.val 0 := by decide
      exact this ⟨i, hi⟩
    rw [e] at this
    simpa using this
  refine ⟨?_, hcell⟩
  have h0 := hcell 0 (by omega)
  rcases Nat.lt_or_ge 0 W.heap.size with h | h
  · exact h
  · simp [World.cell?, Array.getElem?_eq_none h] at h0

theorem own : ownKnob Tryd.prog.godebug = none := by kernel_rfl
/-- A world for the witness: the settled one, the table in its block. -/
noncomputable def laidWorld (os : Os) : World :=
  { World.holding Tryd.prog os ⟨#[], #[], []⟩ with heap := (World.holding Tryd.prog os ⟨#[], #[], []⟩).heap.modify 0 fun
      | .cells _ t frozen => .cells #[.int .i64 1, .int .i64 0, .int .i64 0, .int .i64 0, .int .i64 0, .int .i64 1, .int .i64 0, .int .i64 0, .int .i64 0, .int .i64 0, .int .i64 1, .int .i64 0, .int .i64 0, .int .i64 0, .int .i64 0, .int .i64 1, .int .i64 (-1), .int .i64 0, .int .i64 1, .int .i64 0, .int .i64 0, .int .i64 (-1), .int .i64 0, .int .i64 1] t frozen
      | o => o }
theorem laidOut : laidOutB Tryd.prog = true := by kernel_rfl
end Go.Proofs.YtfdpnephjpcnbaaDoor
