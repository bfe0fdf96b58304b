
/- append into the room of a row that has just been made; what a world's growth keeps. -/
import Derived.Test.YtfdpnephjpcnbaaDoorOp
import Derived.Maps.RangeWalk
import Derived.Maps.OwnSet
import Derived.Maps.Views
set_option linter.unusedVariables false
set_option linter.unusedSimpArgs false
namespace Go
open Go.RowKit Go.Sub
theorem splice_cons (cur : List Int) (o : Nat) (v : Int) (r : List Int) (h : o + (v :: r).length ≤ cur.length) : splice (cur.set o v) (o + 1) r = splice cur o (v :: r) := by
  simp only [List.length_cons] at h
  unfold splice
  apply List.ext_getElem?
  intro j
  simp only [List.append_assoc, List.getElem?_append, List.length_take, List.length_set, List.getElem?_take, List.getElem?_set, List.getElem?_drop, List.length_cons]
  by_cases h1 : j < o
  · have e1 : j < o + 1 := by omega
    have e2 : j < cur.length := by omega
    have e3 : ¬ o = j := by omega
    have e4 : j < min (o + 1) cur.length := by omega
    have e5 : j < min o cur.length := by omega
    rw [if_pos e4, if_pos e1, if_neg e3, if_pos e5, if_pos h1]
  · by_cases h2 : j = o
    · subst h2
      have e1 : min (j + 1) cur.length = j + 1 := by omega
      have e2 : min j cur.length = j := by omega
      have e3 : j < cur.length := by omega
      simp [e1, e2, e3]
    · by_cases h3 : j < o + 1 + r.length
      · rw [if_neg (by omega), if_pos (by omega), if_neg (by omega), if_pos (by omega), show j - min o cur.length = (j - min (o + 1) cur.length) + 1 by omega, List.getElem?_cons_succ]
      · rw [if_neg (by omega), if_neg (by omega), if_neg (by omega), if_neg (by omega), if_neg (by omega)]
        congr 1
        omega
theorem setCells_last (w : World) (q : IntKind) (t : TypeId) (g : Nat) (hg : g = w.heap.size) : ∀ (vs : List Int) (o : Nat) (cur : List Int), o + vs.length ≤ cur.length →
    (w.alloc (.cells (cellsN q cur) t)).setCells g o (vs.map (Value.int q)) = w.alloc (.cells (cellsN q (splice cur o vs)) t)
  | [], o, cur, h => by simp [World.setCells, splice]
  | v :: r, o, cur, h => by
    rw [List.map_cons, World.setCells, World.setCell_alloc_at _ _ _ _ _ hg, cellsN_set, setCells_last w q t g hg r (o + 1) (cur.set o v) (by simp only [List.length_cons, List.length_set] at *; omega), splice_cons cur o v r h]
theorem setCells_past (ob : Obj) (g : Nat) : ∀ (vs : List Value) (o : Nat) (w : World), g < w.heap.size → (w.alloc ob).setCells g o vs = (w.setCells g o vs).alloc ob
  | [], _, _, _ => rfl
  | v :: r, o, w, h => by
    rw [World.setCells, World.setCells, World.setCell_alloc_past _ _ _ _ h, setCells_past ob g r (o + 1) _ (by simpa using h)]
/-- append into the room of the row that lies ahead of the world's last block. -/
theorem run_append_al {P : Program} (W : World) (ob : Obj) (t e ty : TypeId) (q : IntKind) (i : TypeInfo) (g n cap m c : Nat) (a : Addr) (cur cs : List Int)
    (hu : P.underlying t = some (.slice e)) (hi : P.info? e = some i) (hs : i.size = 1) (hg : g = W.heap.size) (hm : cs.length = m) (hn : n + m ≤ cap) (hcap : n + m ≤ cur.length)
    (hsrc : ∀ j v, cs[j]? = some v → ((W.alloc (.cells (cellsN q cur) e)).alloc ob).cell? (a.add j) = some (Value.int q v)) :
    (Builtin.append_ #[t, t] ty #[.slice (some ⟨g, 0, none⟩) n cap, .slice (some a) m c]).run P ((W.alloc (.cells (cellsN q cur) e)).alloc ob)
      = .ok (.slice (some ⟨g, 0, none⟩) (n + m) cap) ((W.alloc (.cells (cellsN q (splice cur n cs)) e)).alloc ob) := by
  have hrow : ((W.alloc (.cells (cellsN q cur) e)).alloc ob).heap[g]? = some (.cells (cellsN q cur) e (0, 0)) := by
    subst hg
    show ((W.heap.push (.cells (cellsN q cur) e)).push ob)[W.heap.size]? = _
    rw [Array.getElem?_push, if_neg (by simp <;> omega), Array.getElem?_push, if_pos rfl]
  rw [run_append_room_cells (P := P) _ t ty e i hu hi g 0 n cap a m c (cs.map (Value.int q)) (by rw [List.length_map, hs, hm, Nat.mul_one]) (by
    intro j v hv
    rw [List.getElem?_map] at hv
    cases hc : cs[j]? with
    | none => rw [hc] at hv; cases hv
    | some x => rw [hc] at hv; cases hv; exact hsrc j x hc) (one_ints q cs) hn (by
    intro j hj
    rw [List.length_map, hm] at hj
    rw [hs, cell_of_row _ _ _ (cellsN q cur) _ (0, 0) hrow, cellsN_at (by omega)]
    rfl) (by
    intro j hj
    simp [World.frozen?, hrow]), hs, Nat.mul_one, Nat.zero_add, setCells_past _ _ _ _ _ (by simp [hg]), setCells_last W q e g hg cs n cur (by omega)]
theorem grownBy_setCell (w : World) (b i : Nat) (v : Value) : w.grownBy (w.setCell ⟨b, i, none⟩ v) (some b) := by
  refine ⟨rfl, rfl, rfl, by simp, fun j hj hne => ?_⟩
  have : ¬ b = j := fun e => hne (by rw [e])
  simp [World.setCell, Array.getElem?_modify, this]
theorem Q.grown {w w' : World} (h : Q w w') (row : Option Nat) : w.grownBy w' row := ⟨h.below.os, h.below.tape, h.below.output, h.below.size, fun j hj _ => h.below.block j hj⟩
theorem HB.grown {w w' : World} {b : Nat} {cs : Array Value} {t : TypeId} {row : Option Nat} (h : HB w b cs t) (hg : w.grownBy w' row) (hne : some b ≠ row) : HB w' b cs t := (hg.block b h.lt hne).trans h
end Go
