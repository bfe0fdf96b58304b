
/- Rows of numbers of a kind as cells, and copy into a row that lies ahead of other new blocks. -/
import Derived.Test.YtfdpnephjpcnbaaDoorTpB
import Derived.Deep.RegionLaw
import Derived.Laws.MakeOwn
import Derived.IntWalk
set_option linter.unusedVariables false
set_option linter.unusedSimpArgs false
namespace Go.Sub
/-- The cells of numbers of a kind. -/
def cellsN (k : IntKind) (o : List Int) : Array Value := (o.map (Value.int k)).toArray
theorem cellsN_at {k : IntKind} {o : List Int} {j : Nat} (h : j < o.length) : (cellsN k o)[j]? = some (.int k (o.getD j 0)) := by
  simp [cellsN, List.getD, h]
theorem cellsN_set (k : IntKind) (o : List Int) (j : Nat) (d : Int) : (cellsN k o).setIfInBounds j (.int k d) = cellsN k (o.set j d) := by
  simp [cellsN, List.map_set]
theorem madeCells_N (k : IntKind) (n : Nat) : madeCells (Value.int k 0).cells n = cellsN k (List.replicate n 0) := by
  unfold madeCells cellsN
  apply Array.ext
  · simp
  · intro i h1 h2
    have e : i % 1 = 0 := Nat.mod_one i
    simp [Value.cells, e]
end Go.Sub
namespace Go
open Go.RowKit Go.Sub
theorem step_copy {P : Program} {ops : Array Oper} {o : Oper} {a : Act} {w w' : World} {K : Act → World → Prop} {Q : Exit → Act → World → Prop} {E : Prop} {t : TypeId} {sv xv v : Value}
    (hg : o.guard = none) (s x : Operand) (hop : o.op = Op.call { callee := Callee.builtin Builtin.copy, args := #[s, x], argTypes := #[t, t] })
    (hs : a.eval s = sv) (hx : a.eval x = xv) (hrun : (Builtin.copy_ #[t, t] o.type #[sv, xv]).run P w = .ok v w') (hK : K (a.put o.dst v) w') :
    if Region.wanted o (yielded ops a.tmps) = true then Oper.wp P o a w K Q else E := by
  have hw : Region.wanted o (yielded ops a.tmps) = true := by simp [Region.wanted, hg]
  rw [if_pos hw]
  unfold Oper.wp
  simp [execOp, hop, resolve, invoke, builtin, hs, hx, hrun, Result.andThen]
  exact hK
theorem World.setRow_alloc_self (w : World) (cur cur' : Array Value) (t : TypeId) (g : Nat) (hg : g = w.heap.size) : (w.alloc (.cells cur t)).setRow g cur' = w.alloc (.cells cur' t) := by
  subst hg
  unfold World.setRow World.alloc
  congr 1
  apply Array.ext
  · simp
  · intro k h1 h2
    have h3 : k < w.heap.size + 1 := by simpa using h2
    simp only [Array.getElem_modify, Array.getElem_push]
    by_cases hk : k = w.heap.size
    · subst hk
      simp
    · have h4 : k < w.heap.size := by omega
      have h5 : ¬ w.heap.size = k := by omega
      simp [h4, h5]
theorem World.setRow_alloc_lt (w : World) (cur' : Array Value) (o : Obj) (g : Nat) (hg : g < w.heap.size) : (w.alloc o).setRow g cur' = (w.setRow g cur').alloc o := by
  unfold World.setRow World.alloc
  simp only
  congr 1
  apply Array.ext
  · simp
  · intro k h1 h2
    have h3 : k < w.heap.size + 1 := by simpa using h1
    simp only [Array.getElem_modify, Array.getElem_push]
    by_cases hk : k < w.heap.size
    · simp [hk, Array.getElem_modify]
    · have h5 : ¬ g = k := by omega
      simp [hk, h5]
theorem World.setRow_jk_lt (w : World) (kx : Jk) (g : Nat) (r : Array Value) (hg : g < w.heap.size) : (w.jk kx).setRow g r = (w.setRow g r).jk kx := by
  unfold World.setRow World.jk
  simp only
  congr 1
  apply Array.ext_getElem?
  intro j
  simp only [Array.getElem?_modify, Array.getElem?_append, Array.size_modify]
  by_cases hj : j < w.heap.size
  · simp [hj]
  · have h5 : ¬ g = j := by omega
    simp [hj, h5]
theorem addr_add0 (b o j : Nat) : (⟨b, o, none⟩ : Addr).add j = ⟨b, o + j, none⟩ := by unfold Addr.add; split <;> simp_all
theorem one_ints (k : IntKind) (l : List Int) : ∀ v ∈ l.map (Value.int k), v.oneCell' = true := by
  intro v hv
  obtain ⟨x, _, rfl⟩ := List.mem_map.1 hv
  rfl
theorem World.jk_alloc (w : World) (kx : Jk) (o : Obj) : (w.jk kx).alloc o = w.jk ⟨kx.os.push o, kx.n⟩ := by
  unfold World.jk World.alloc
  simp
theorem World.alloc_as_jk (w : World) (o : Obj) : w.alloc o = w.jk ⟨#[o], w.drawn⟩ := by
  unfold World.jk World.alloc
  simp
theorem World.drew_as_jk (w : World) : w.drew = w.jk ⟨#[], w.drawn + 1⟩ := by
  show World.mk w.heap w.tape (w.drawn + 1) w.os w.output = World.mk (w.heap ++ #[]) w.tape (w.drawn + 1) w.os w.output
  simp
/-- The splice that a copy makes. -/
def splice (cur : List Int) (lo : Nat) (cs : List Int) : List Int := cur.take lo ++ cs ++ cur.drop (lo + cs.length)
theorem splice_cells (k : IntKind) (cur : List Int) (lo : Nat) (cs : List Int) : ((cellsN k cur).toList.take lo ++ cs.map (Value.int k) ++ (cellsN k cur).toList.drop (lo + (cs.map (Value.int k)).length)).toArray = cellsN k (splice cur lo cs) := by
  simp [cellsN, splice, List.map_take, List.map_drop]
/-- copy into a row of the world's last block but those of kx and one more. -/
theorem run_copy_jk {P : Program} (W : World) (kx : Jk) (ob : Obj) (dT sT ty elem t : TypeId) (q : IntKind) (g lo dLen dCap n c : Nat) (a : Addr) (cur cs : List Int)
    (hu : P.underlying dT = some (.slice elem)) (hs : (P.info? elem).map (·.size) = some 1) (hg : g = W.heap.size) (hn : cs.length = Nat.min n dLen)
    (hsrc : ∀ j v, cs[j]? = some v → (((W.alloc (.cells (cellsN q cur) t)).jk kx).alloc ob).cell? (a.add j) = some (Value.int q v)) (hfit : lo + cs.length ≤ cur.length) :
    (Builtin.copy_ #[dT, sT] ty #[.slice (some ⟨g, lo, none⟩) dLen dCap, .slice (some a) n c]).run P (((W.alloc (.cells (cellsN q cur) t)).jk kx).alloc ob)
      = .ok (goInt cs.length) (((W.alloc (.cells (cellsN q (splice cur lo cs)) t)).jk kx).alloc ob) := by
  subst hg
  have hrow : (((W.alloc (.cells (cellsN q cur) t)).jk kx).alloc ob).heap[W.heap.size]? = some (.cells (cellsN q cur) t (0, 0)) := by
    show (((W.heap.push (.cells (cellsN q cur) t)) ++ kx.os).push ob)[W.heap.size]? = _
    rw [Array.getElem?_push, if_neg (by simp <;> omega), Array.getElem?_append, if_pos (by simp), Array.getElem?_push, if_pos rfl]
  rw [run_copy_row (P := P) _ dT sT ty elem W.heap.size lo dLen dCap a n c (cellsN q cur) t (cs.map (Value.int q)) hu hs hrow (by simpa using hn) (by
    intro j v hv
    rw [List.getElem?_map] at hv
    cases hc : cs[j]? with
    | none => rw [hc] at hv; cases hv
    | some x => rw [hc] at hv; cases hv; exact hsrc j x hc) (by simpa [cellsN] using hfit) (one_ints q cs), splice_cells, World.setRow_alloc_lt _ _ _ _ (by simp [World.size_jk] <;> omega), World.setRow_jk_lt _ _ _ _ (by simp), World.setRow_alloc_self _ _ _ _ _ rfl]
  simp
/-- The same, where the row is the last block but one. -/
theorem run_copy_al {P : Program} (W : World) (ob : Obj) (dT sT ty elem t : TypeId) (q : IntKind) (g lo dLen dCap n c : Nat) (a : Addr) (cur cs : List Int)
    (hu : P.underlying dT = some (.slice elem)) (hs : (P.info? elem).map (·.size) = some 1) (hg : g = W.heap.size) (hn : cs.length = Nat.min n dLen)
    (hsrc : ∀ j v, cs[j]? = some v → ((W.alloc (.cells (cellsN q cur) t)).alloc ob).cell? (a.add j) = some (Value.int q v)) (hfit : lo + cs.length ≤ cur.length) :
    (Builtin.copy_ #[dT, sT] ty #[.slice (some ⟨g, lo, none⟩) dLen dCap, .slice (some a) n c]).run P ((W.alloc (.cells (cellsN q cur) t)).alloc ob)
      = .ok (goInt cs.length) ((W.alloc (.cells (cellsN q (splice cur lo cs)) t)).alloc ob) := by
  subst hg
  have hrow : ((W.alloc (.cells (cellsN q cur) t)).alloc ob).heap[W.heap.size]? = some (.cells (cellsN q cur) t (0, 0)) := by
    show ((W.heap.push (.cells (cellsN q cur) t)).push ob)[W.heap.size]? = _
    rw [Array.getElem?_push, if_neg (by simp <;> omega), Array.getElem?_push, if_pos rfl]
  rw [run_copy_row (P := P) _ dT sT ty elem W.heap.size lo dLen dCap a n c (cellsN q cur) t (cs.map (Value.int q)) hu hs hrow (by simpa using hn) (by
    intro j v hv
    rw [List.getElem?_map] at hv
    cases hc : cs[j]? with
    | none => rw [hc] at hv; cases hv
    | some x => rw [hc] at hv; cases hv; exact hsrc j x hc) (by simpa [cellsN] using hfit) (one_ints q cs), splice_cells, World.setRow_alloc_lt _ _ _ _ (by simp), World.setRow_alloc_self _ _ _ _ _ rfl]
  simp
/-- The same, where the row is the last block. -/
theorem run_copy_last {P : Program} (W : World) (dT sT ty elem t : TypeId) (q : IntKind) (g lo dLen dCap n c : Nat) (a : Addr) (cur cs : List Int)
    (hu : P.underlying dT = some (.slice elem)) (hs : (P.info? elem).map (·.size) = some 1) (hg : g = W.heap.size) (hn : cs.length = Nat.min n dLen)
    (hsrc : ∀ j v, cs[j]? = some v → (W.alloc (.cells (cellsN q cur) t)).cell? (a.add j) = some (Value.int q v)) (hfit : lo + cs.length ≤ cur.length) :
    (Builtin.copy_ #[dT, sT] ty #[.slice (some ⟨g, lo, none⟩) dLen dCap, .slice (some a) n c]).run P (W.alloc (.cells (cellsN q cur) t))
      = .ok (goInt cs.length) (W.alloc (.cells (cellsN q (splice cur lo cs)) t)) := by
  subst hg
  have hrow : (W.alloc (.cells (cellsN q cur) t)).heap[W.heap.size]? = some (.cells (cellsN q cur) t (0, 0)) := by
    show (W.heap.push (.cells (cellsN q cur) t))[W.heap.size]? = _
    rw [Array.getElem?_push, if_pos rfl]
  rw [run_copy_row (P := P) _ dT sT ty elem W.heap.size lo dLen dCap a n c (cellsN q cur) t (cs.map (Value.int q)) hu hs hrow (by simpa using hn) (by
    intro j v hv
    rw [List.getElem?_map] at hv
    cases hc : cs[j]? with
    | none => rw [hc] at hv; cases hv
    | some x => rw [hc] at hv; cases hv; exact hsrc j x hc) (by simpa [cellsN] using hfit) (one_ints q cs), splice_cells, World.setRow_alloc_self _ _ _ _ _ rfl]
  simp
theorem lit_cell (W : World) (l : List Int) (q : IntKind) (t : TypeId) (b : Nat) (hb : b = W.heap.size) (j : Nat) (v : Int) (h : l[j]? = some v) : (W.alloc (.cells (cellsN q l) t)).cell? ((⟨b, 0, none⟩ : Addr).add j) = some (Value.int q v) := by
  subst hb
  rw [addr_add0, cell_of_row _ _ _ (cellsN q l) _ (0, 0) (heap_alloc_new W _)]
  simp [cellsN, h]
/-- A row that has just been made, behind which there are other blocks. -/
theorem rdn_row (W : World) (kx : Jk) (q : IntKind) (t : TypeId) (l : List Int) (g : Nat) (hg : g = W.heap.size) (n : Nat) (hn : n = l.length) (c : Nat) (hc : n ≤ c) : RdN ((W.alloc (.cells (cellsN q l) t)).jk kx) (some ⟨g, 0, none⟩) n c q l := by
  subst hg
  subst hn
  refine ⟨by simp, hc, fun _ => ⟨_, 0, rfl, by simp [World.size_jk]; omega, fun i u hi => ?_⟩, fun h => by cases h⟩
  rw [World.cell?_jk, cell_of_row _ _ _ (cellsN q l) _ (0, 0) (heap_alloc_new W _)]
  simpa [cellsN] using hi
end Go
namespace Go.Proofs.YtfdpnephjpcnbaaDoor
open Go.RowKit Go.Sub
theorem infoU8 : ∃ i, Tryd.prog.info? 5 = some i ∧ i.zero = some (.int .u8 0) ∧ i.size = 1 ∧ i.bytes = 1 := by
  have h : (Tryd.prog.info? 5).map (fun i => (i.zero, i.size, i.bytes)) = some (some (.int .u8 0), 1, 1) := by kernel_rfl
  cases hi : Tryd.prog.info? 5 with
  | none => rw [hi] at h; cases h
  | some i =>
    rw [hi] at h
    simp only [Option.map_some, Option.some.injEq, Prod.mk.injEq] at h
    exact ⟨i, rfl, h.1, h.2.1, h.2.2⟩
theorem make_u8 (w : World) (k c : Int) (n m : Nat) (hk : k = n) (hc : c = m) (hnm : n ≤ m) (hn : m < 1000000) :
    (Instr.makeSlice 73 (.int .i64 k) (.int .i64 c)).run Tryd.prog w = .ok (.slice (some ⟨w.heap.size, 0, none⟩) n m) (w.alloc (.cells (cellsN .u8 (List.replicate m 0)) 5)) := by
  obtain ⟨i, hi, hz, hs1, hb⟩ := infoU8
  subst hk
  subst hc
  have := run_make (P := Tryd.prog) w 73 5 i (.int .u8 0) Tryd.underlying73 hi hz .i64 .i64 n m (by omega) (by omega) (by rw [hb]; omega) (by omega)
  rw [this, hs1]
  simp only [Int.toNat_natCast, Nat.mul_one]
  rw [madeCells_N]
theorem make_int (w : World) (k : Int) (n : Nat) (hk : k = n) (hn : n < 1000000) :
    (Instr.makeSlice 26 (.int .i64 k) (.int .i64 k)).run Tryd.prog w = .ok (.slice (some ⟨w.heap.size, 0, none⟩) n n) (w.alloc (.cells (cellsN .i64 (List.replicate n 0)) 3)) := by
  obtain ⟨i, hi, hz, hs1, hb⟩ := infoInt
  subst hk
  have := run_make (P := Tryd.prog) w 26 3 i (.int .i64 0) Tryd.underlying26 hi hz .i64 .i64 n n (by omega) (Int.le_refl _) (by rw [hb]; omega) (by omega)
  rw [this, hs1]
  simp only [Int.toNat_natCast, Nat.mul_one]
  rw [madeCells_N]
end Go.Proofs.YtfdpnephjpcnbaaDoor
