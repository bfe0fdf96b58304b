
/- Whole blocks: what lies in a block of a world that is written out; great rows are read and written whole. -/
import Derived.Test.YtkkjifgcjfbcaaaJk
import Derived.Deep.MidRow
import Derived.Laws.Tables
import Derived.Laws.ResultCell
namespace Go
open Go.RowKit
/-- Block n of the world w is o. -/
class Blk (w : World) (n : Nat) (o : outParam Obj) : Prop where
  eq : w.heap[n]? = some o
/-- The world with another block n. -/
def World.setBlk (w : World) (n : Nat) (o : Obj) : World := { w with heap := w.heap.setIfInBounds n o }
section
variable {w : World} {n : Nat} {o : Obj}
instance Blk.here (o : Obj) [e : Sz w n] : Blk (w.alloc o) n o := ⟨by have := e.eq; subst this; exact heap_alloc_new w o⟩
instance Blk.alloc (o' : Obj) [h : Blk w n o] : Blk (w.alloc o') n o := ⟨by
  rw [heap_alloc_old w o' (Array.getElem?_eq_some_iff.1 h.eq).1]; exact h.eq⟩
instance Blk.jk (k : Jk) [h : Blk w n o] : Blk (w.jk k) n o := ⟨by
  rw [World.block_jk k n (Array.getElem?_eq_some_iff.1 h.eq).1]; exact h.eq⟩
instance Blk.drew [h : Blk w n o] : Blk w.drew n o := ⟨h.eq⟩
instance Old.blk {w : World} {n : Nat} (o' : Obj) (m : Nat) [h : Old n w] : Old n (w.setBlk m o') := ⟨by have := h.lt; simpa [World.setBlk] using this⟩
instance Sz.blk {w : World} {s : Nat} (o' : Obj) (m : Nat) [h : Sz w s] : Sz (w.setBlk m o') s := ⟨by have := h.eq; simpa [World.setBlk] using this⟩
@[go_sem high] theorem World.setBlk_here (o o' : Obj) [e : Sz w n] : (w.alloc o').setBlk n o = w.alloc o := by
  have := e.eq
  subst this
  show World.mk _ _ _ _ _ = World.mk _ _ _ _ _
  congr 1
  show (w.heap.push o').setIfInBounds w.heap.size o = w.heap.push o
  apply Array.ext_getElem?
  intro j
  simp only [Array.getElem?_setIfInBounds, Array.getElem?_push, Array.size_push]
  by_cases hj : w.heap.size = j
  · subst hj
    simp
  · have : ¬ j = w.heap.size := fun e => hj e.symm
    simp [hj, this]
@[go_sem] theorem World.setBlk_alloc (o o' : Obj) [h : Old n w] : (w.alloc o').setBlk n o = (w.setBlk n o).alloc o' := by
  have := h.lt
  show World.mk _ _ _ _ _ = World.mk _ _ _ _ _
  congr 1
  simp only [World.alloc, World.setBlk]
  apply Array.ext_getElem?
  intro j
  simp only [Array.getElem?_setIfInBounds, Array.getElem?_push, Array.size_push, Array.size_setIfInBounds]
  by_cases hn : n = j
  · subst hn
    have h1 : ¬ n = w.heap.size := by omega
    have h2 : n < w.heap.size + 1 := by omega
    simp [h1, h2, this]
  · simp [hn]
@[go_sem] theorem World.setBlk_jk (o : Obj) (k : Jk) [h : Old n w] : (w.jk k).setBlk n o = (w.setBlk n o).jk k := by
  have := h.lt
  show World.mk _ _ _ _ _ = World.mk _ _ _ _ _
  congr 1
  simp only [World.jk, World.setBlk]
  apply Array.ext_getElem?
  intro j
  simp only [Array.getElem?_setIfInBounds, Array.getElem?_append, Array.size_append, Array.size_setIfInBounds]
  by_cases hn : n = j
  · subst hn
    have h2 : n < w.heap.size + k.os.size := by omega
    simp [h2, this]
  · simp [hn]
@[go_sem] theorem World.setBlk_drew (o : Obj) : w.drew.setBlk n o = (w.setBlk n o).drew := rfl
end
theorem Q.setBlk {a w : World} (h : Q a w) {n : Nat} (hn : a.heap.size ≤ n) (o : Obj) : Q a (w.setBlk n o) := by
  have hb := h.below
  refine Q.of_below ⟨hb.os, hb.tape, hb.output, by simpa [World.setBlk] using hb.size, fun i hi => ?_⟩
  have : ¬ n = i := by omega
  simp only [World.setBlk, Array.getElem?_setIfInBounds, this, if_false]
  exact hb.block i hi
/-- Each value is one cell. -/
class OneC (v : Value) : Prop where
  eq : v.oneCell' = true
class Ones (cs : Array Value) : Prop where
  eq : cs.all (·.oneCell') = true
instance (k : IntKind) (n : Int) : OneC (.int k n) := ⟨rfl⟩
instance (b : Bool) : OneC (.bool b) := ⟨rfl⟩
instance (a : Option Addr) : OneC (.pointer a) := ⟨rfl⟩
instance (a : Option Addr) (n c : Nat) : OneC (.slice a n c) := ⟨rfl⟩
instance (b : ByteArray) : OneC (.string b) := ⟨rfl⟩
instance : Ones (List.toArray []) := ⟨by simp⟩
instance (v : Value) (l : List Value) [h : OneC v] [h' : Ones l.toArray] : Ones (List.toArray (v :: l)) := ⟨by
  have h2 := h'.eq
  simp only [List.all_toArray] at h2 ⊢
  simp only [List.all_cons, h.eq, h2, Bool.and_true]⟩
/-- Loads and stores that are not opened cell by cell. -/
def bigLoad (t : TypeId) (a : Addr) : Sem Value := loadVar t a
def bigStore (t : TypeId) (a : Addr) (v : Value) : Sem Unit := storeVar t a v
theorem run_bigLoad {P : Program} {w : World} {n : Nat} {cs : Array Value} {t ty : TypeId} {fr : Nat × Nat} {d : TypeDesc} [h : Blk w n (.cells cs t fr)]
    (hu : P.underlying ty = some d) (hd : (match d with | .struct _ | .array _ _ => true | _ => false) = true) (hi : (P.info? ty).map (·.size) = some cs.size) :
    (bigLoad ty ⟨n, 0, none⟩).run P w = .ok (.agg cs) w := run_loadVar_row w n t ty cs fr d h.eq hu hd hi
/-- A row and another result. -/
theorem results_blk2 {P : Program} {fn : Func} {tmps : Array Value} {p u : Tmp} {w : World} {n : Nat} {cs : Array Value} {t ty : TypeId} {fr : Nat × Nat} {d : TypeDesc} {v2 : Value} (h : fn.results = #[.cell p ty, .tmp u])
    (hp : tmps.getD p undef = .pointer (some ⟨n, 0, none⟩)) (h2 : tmps.getD u undef = v2) [hb : Blk w n (.cells cs t fr)]
    (hu : P.underlying ty = some d) (hd : (match d with | .struct _ | .array _ _ => true | _ => false) = true) (hi : (P.info? ty).map (·.size) = some cs.size) :
    (results fn tmps).run P w = .ok (.tuple #[.agg cs, v2]) w := by
  rw [results_cell_tmp h, hp, h2]
  have := run_loadVar_row (P := P) w n t ty cs fr d hb.eq hu hd hi
  simp [asAddr, this]
theorem results_blk1 {P : Program} {fn : Func} {tmps : Array Value} {p : Tmp} {w : World} {n : Nat} {cs : Array Value} {t ty : TypeId} {fr : Nat × Nat} {d : TypeDesc} (h : fn.results = #[.cell p ty])
    (hp : tmps.getD p undef = .pointer (some ⟨n, 0, none⟩)) [hb : Blk w n (.cells cs t fr)]
    (hu : P.underlying ty = some d) (hd : (match d with | .struct _ | .array _ _ => true | _ => false) = true) (hi : (P.info? ty).map (·.size) = some cs.size) :
    (results fn tmps).run P w = .ok (.agg cs) w := results_cell_row h tmps w n t cs fr d hp hb.eq hu hd hi
theorem run_bigStore {P : Program} {w : World} {n : Nat} {cs cs' : Array Value} {t ty : TypeId} [h : Blk w n (.cells cs t (0, 0))]
    (hi : (P.info? ty).map (·.size) = some cs'.size) (hs : cs.size = cs'.size) [h1 : Ones cs'] :
    (bigStore ty ⟨n, 0, none⟩ (.agg cs')).run P w = .ok () (w.setBlk n (.cells cs' t)) := by
  have := run_storeVar_row (P := P) w n t ty cs cs' h.eq hi hs h1.eq
  unfold bigStore
  rw [this]
  congr 1
  unfold World.setRow World.setBlk
  have hlt := (Array.getElem?_eq_some_iff.1 h.eq)
  obtain ⟨hlt, he⟩ := hlt
  congr 1
  apply Array.ext_getElem?
  intro j
  by_cases hj : n = j
  · subst hj
    rw [Array.getElem?_modify, if_pos rfl, Array.getElem?_eq_getElem hlt, he, Array.getElem?_setIfInBounds, if_pos rfl, if_pos hlt]
    rfl
  · simp [Array.getElem?_modify, hj]
end Go
