
/- Slices of whatever elements, as they lie in memory: the cells one behind the other. -/
import Derived.WalkKit
import Derived.WalkSpells
import Derived.WalkLawsBesides
import Derived.Handy
import Derived.BigQuiet
import Derived.Lib.Hide
import Derived.Deep.MidRow
import Derived.Laws.Tables
import Derived.Laws.ResultCell
import Derived.Test.YtfdpnephjpcnbaaDoorRows
import Derived.Maps.AppendAt
set_option linter.unusedSimpArgs false
set_option linter.unusedVariables false
/- Helper laws, of no program: a world with new blocks behind it and some draws ('World.jk'), and regions that read and call such functions. -/
namespace Go
open Go.RowKit

/-- Some new blocks and some draws. -/
structure Jk where
  os : Array Obj
  n : Nat
instance : Inhabited Jk := ⟨⟨#[], 0⟩⟩
@[reducible] def Jk.inc (k : Jk) : Jk := ⟨k.os, k.n + 1⟩
def Jk.add (k m : Jk) : Jk := ⟨k.os ++ m.os, m.n⟩
/-- The world w with the blocks of k behind its own; so many answers have been drawn as k says. -/
def World.jk (w : World) (k : Jk) : World := { w with heap := w.heap ++ k.os, drawn := k.n }

/-- The size of a world's heap, written out. -/
class Sz (w : World) (s : outParam Nat) : Prop where
  eq : w.heap.size = s
/-- The block n lies in the world w. -/
class Old (n : Nat) (w : World) : Prop where
  lt : n < w.heap.size

section
variable {w : World}
@[go_sem] theorem Jk.os_inc (k : Jk) : k.inc.os = k.os := rfl
@[go_sem] theorem World.size_jk (k : Jk) : (w.jk k).heap.size = w.heap.size + k.os.size := by simp [World.jk]
theorem World.block_jk (k : Jk) (i : Nat) (h : i < w.heap.size) : (w.jk k).heap[i]? = w.heap[i]? := by
  simp [World.jk, Array.getElem?_append, h]
theorem World.cell?_jk_lt (k : Jk) (b i : Nat) (h : b < w.heap.size) : (w.jk k).cell? ⟨b, i, none⟩ = w.cell? ⟨b, i, none⟩ :=
  World.cell?_of_block (w := w) (a := ⟨b, i, none⟩) (World.block_jk k b h)
theorem World.frozen?_jk_lt (k : Jk) (b i : Nat) (h : b < w.heap.size) : (w.jk k).frozen? ⟨b, i, none⟩ = w.frozen? ⟨b, i, none⟩ :=
  World.frozen?_of_block (w := w) (a := ⟨b, i, none⟩) (World.block_jk k b h)
theorem World.setCell_jk_lt (k : Jk) (b i : Nat) (v : Value) (h : b < w.heap.size) : (w.jk k).setCell ⟨b, i, none⟩ v = (w.setCell ⟨b, i, none⟩ v).jk k := by
  unfold World.setCell World.jk
  congr 1
  apply Array.ext_getElem?
  intro j
  simp only [Array.getElem?_modify, Array.getElem?_append, Array.size_modify]
  by_cases hj : j < w.heap.size
  · simp [hj]
  · have : ¬ b = j := by omega
    simp [hj, this]
@[go_sem] theorem World.drew_jk (k : Jk) : (w.jk k).drew = w.jk k.inc := rfl
@[go_sem] theorem World.jk_drew (k : Jk) : w.drew.jk k = w.jk k := rfl
theorem World.jk_jk (k m : Jk) : (w.jk k).jk m = w.jk (k.add m) := by
  show World.mk _ _ _ _ _ = World.mk _ _ _ _ _
  congr 1
  simp [World.jk, Jk.add, Array.append_assoc]

instance (priority := low) Sz.base : Sz w w.heap.size := ⟨rfl⟩
instance Sz.alloc {s : Nat} (o : Obj) [h : Sz w s] : Sz (w.alloc o) (s + 1) := ⟨by simp [h.eq]⟩
instance Sz.jk {s : Nat} (k : Jk) [h : Sz w s] : Sz (w.jk k) (s + k.os.size) := ⟨by simp [World.size_jk, h.eq]⟩
instance Sz.drew {s : Nat} [h : Sz w s] : Sz w.drew s := ⟨h.eq⟩
instance Old.here {n : Nat} (o : Obj) [e : Sz w n] : Old n (w.alloc o) := ⟨by simp [e.eq]⟩
instance Old.alloc {n : Nat} (o : Obj) [h : Old n w] : Old n (w.alloc o) := ⟨by have := h.lt; simp; omega⟩
instance Old.jk {n : Nat} (k : Jk) [h : Old n w] : Old n (w.jk k) := ⟨by have := h.lt; simp [World.size_jk]; omega⟩
instance Old.drew {n : Nat} [h : Old n w] : Old n w.drew := ⟨h.lt⟩
instance Old.setCell {n : Nat} (p : Addr) (v : Value) [h : Old n w] : Old n (w.setCell p v) := ⟨by simpa using h.lt⟩
@[go_sem high] theorem World.cell?_alloc_old' (o : Obj) (n i : Nat) [h : Old n w] : (w.alloc o).cell? ⟨n, i, none⟩ = w.cell? ⟨n, i, none⟩ := World.cell?_alloc_past o n i h.lt
@[go_sem high] theorem World.frozen?_alloc_old' (o : Obj) (n i : Nat) [h : Old n w] : (w.alloc o).frozen? ⟨n, i, none⟩ = w.frozen? ⟨n, i, none⟩ := World.frozen?_alloc_past o n i h.lt
@[go_sem high] theorem World.setCell_alloc_old' (o : Obj) (n i : Nat) (v : Value) [h : Old n w] : (w.alloc o).setCell ⟨n, i, none⟩ v = (w.setCell ⟨n, i, none⟩ v).alloc o := World.setCell_alloc_past o n i v h.lt
@[go_sem] theorem World.cell?_jk (k : Jk) (n i : Nat) [h : Old n w] : (w.jk k).cell? ⟨n, i, none⟩ = w.cell? ⟨n, i, none⟩ := World.cell?_jk_lt k n i h.lt
@[go_sem] theorem World.frozen?_jk (k : Jk) (n i : Nat) [h : Old n w] : (w.jk k).frozen? ⟨n, i, none⟩ = w.frozen? ⟨n, i, none⟩ := World.frozen?_jk_lt k n i h.lt
@[go_sem] theorem World.setCell_jk (k : Jk) (n i : Nat) (v : Value) [h : Old n w] : (w.jk k).setCell ⟨n, i, none⟩ v = (w.setCell ⟨n, i, none⟩ v).jk k := World.setCell_jk_lt k n i v h.lt
end

/-- w' is w with some new blocks and some draws. -/
def Q (w w' : World) : Prop := ∃ k : Jk, w' = w.jk k
theorem Q.refl (w : World) : Q w w := ⟨⟨#[], w.drawn⟩, by simp [World.jk]⟩
theorem Q.of_below {w w' : World} (h : Below w.heap.size w w') : Q w w' := by
  refine ⟨⟨w'.heap.extract w.heap.size, w'.drawn⟩, ?_⟩
  have e : w'.heap = w.heap ++ w'.heap.extract w.heap.size := by
    apply Array.ext_getElem?
    intro i
    rw [Array.getElem?_append]
    by_cases hi : i < w.heap.size
    · rw [if_pos hi]; exact h.block i hi
    · rw [if_neg hi, Array.getElem?_extract]
      by_cases hj : i < w'.heap.size
      · rw [if_pos (by omega)]
        congr 1
        omega
      · rw [if_neg (by omega), Array.getElem?_eq_none (by omega)]
  show World.mk w'.heap w'.tape w'.drawn w'.os w'.output = World.mk _ w.tape w'.drawn w.os w.output
  rw [← e, h.tape, h.os, h.output]
theorem Q.of_eq {w w' : World} (h : w = w') : Q w w' := h ▸ Q.refl w
theorem Q.jk {a w : World} (h : Q a w) (k : Jk) : Q a (w.jk k) := by
  obtain ⟨m, rfl⟩ := h
  exact ⟨_, World.jk_jk m k⟩
theorem Q.trans {a b c : World} (h : Q a b) (h' : Q b c) : Q a c := by
  obtain ⟨k, rfl⟩ := h'
  exact h.jk k
theorem Q.alloc {a w : World} (h : Q a w) (o : Obj) : Q a (w.alloc o) := by
  refine h.trans ⟨⟨#[o], w.drawn⟩, ?_⟩
  unfold World.jk World.alloc
  simp
theorem Q.drew {a w : World} (h : Q a w) : Q a w.drew := h.trans ⟨⟨#[], w.drawn + 1⟩, by show World.mk w.heap w.tape (w.drawn + 1) w.os w.output = World.mk (w.heap ++ #[]) w.tape (w.drawn + 1) w.os w.output; simp⟩
theorem Q.drewN {a w : World} (h : Q a w) (n : Nat) : Q a (w.drewN n) := h.trans ⟨⟨#[], w.drawn + n⟩, by simp [World.jk, World.drewN]⟩
theorem Q.below {w w' : World} (h : Q w w') : Below w.heap.size w w' := by
  obtain ⟨k, rfl⟩ := h
  exact ⟨rfl, rfl, rfl, by rw [World.size_jk]; omega, fun i hi => World.block_jk k i hi⟩
theorem Q.setCell {a w : World} (h : Q a w) {b i : Nat} (hb : a.heap.size ≤ b) (v : Value) : Q a (w.setCell ⟨b, i, none⟩ v) := by
  obtain ⟨k, rfl⟩ := h
  refine ⟨⟨((a.jk k).setCell ⟨b, i, none⟩ v).heap.extract a.heap.size, k.n⟩, ?_⟩
  unfold World.jk World.setCell
  congr 1
  apply Array.ext_getElem?
  intro j
  simp only [Array.getElem?_modify, Array.getElem?_append, Array.size_modify, Array.getElem?_extract, Array.size_append]
  by_cases hj : j < a.heap.size
  · have : ¬ b = j := by omega
    simp [hj, this]
  · simp only [hj, if_false]
    by_cases hk : j - a.heap.size < k.os.size
    · have e2 : a.heap.size + (j - a.heap.size) = j := by omega
      have e4 : ¬ k.os.size ≤ j - a.heap.size := by omega
      simp [e2, hj, e4]
    · have e3 : k.os[j - a.heap.size]? = none := Array.getElem?_eq_none (by omega)
      simp [e3]

/-- A callee's contract, met in a world of the class. -/
theorem Calls.jk_of {P : Program} {f : FuncId} {args : Array Value} {w : World} {k : Jk} {v : Value}
    (h : Calls P f args (w.jk k) fun e w' => e = .returned v ∧ Q (w.jk k) w') : Calls P f args (w.jk k) fun e w'' => e = .returned v ∧ ∃ m, w'' = w.jk m :=
  h.mono fun _ _ ⟨he, m, hm⟩ => ⟨he, k.add m, by rw [hm, World.jk_jk]⟩
theorem Calls.jk_of_same {P : Program} {f : FuncId} {args : Array Value} {w : World} {k : Jk} {v : Value}
    (h : Calls P f args (w.jk k) fun e w' => e = .returned v ∧ w.jk k = w') : Calls P f args (w.jk k) fun e w'' => e = .returned v ∧ ∃ m, w'' = w.jk m :=
  h.mono fun _ _ ⟨he, hm⟩ => ⟨he, k, hm.symm⟩

/-- A region that draws its order, whose operations read and whose callees make new blocks at most: one walk in the order of the text. -/
theorem wp_region_jk {P : Program} {id : Nat} {R : Exit → Act → World → Prop} {a : Act} {w : World} {l : List Oper} (hm : P.follows .mixedOrders = true) (hB : Region.lexB .any l.toArray = true)
    (h : wpQuiet P l.toArray (fun w' => ∃ k, w' = w.jk k) (fun a' => ∀ w', (∃ k, w' = w.jk k) → R .normal a' w') l a) : (Code.region id l.toArray true).wp P R a w :=
  wp_region_quiet (C := fun w' => ∃ k, w' = w.jk k) hm hB ⟨⟨#[], w.drawn + 1⟩, by simp [World.jk]⟩ (by simpa using h)
end Go
/- Whole blocks: what lies in a block of a world that is written out; great rows are read and written whole. -/
namespace Go
open Go.RowKit
/-- Block n of the world w is o. -/
class Blk (w : World) (n : Nat) (o : outParam Obj) : Prop where
  eq : w.heap[n]? = some o
/-- The world with another block n. -/
def World.setBlk (w : World) (n : Nat) (o : Obj) : World := { w with heap := w.heap.setIfInBounds n o }
section
variable {w : World} {n : Nat} {o : Obj}
instance Blk.here (o : Obj) [e : Sz w n] : Blk (w.alloc o) n o := ⟨by have := e.eq; subst this; exact heap_alloc_new w o⟩
instance Blk.alloc (o' : Obj) [h : Blk w n o] : Blk (w.alloc o') n o := ⟨by
  rw [heap_alloc_old w o' (Array.getElem?_eq_some_iff.1 h.eq).1]; exact h.eq⟩
instance Blk.jk (k : Jk) [h : Blk w n o] : Blk (w.jk k) n o := ⟨by
  rw [World.block_jk k n (Array.getElem?_eq_some_iff.1 h.eq).1]; exact h.eq⟩
instance Blk.drew [h : Blk w n o] : Blk w.drew n o := ⟨h.eq⟩
instance Old.blk {w : World} {n : Nat} (o' : Obj) (m : Nat) [h : Old n w] : Old n (w.setBlk m o') := ⟨by have := h.lt; simpa [World.setBlk] using this⟩
instance Sz.blk {w : World} {s : Nat} (o' : Obj) (m : Nat) [h : Sz w s] : Sz (w.setBlk m o') s := ⟨by have := h.eq; simpa [World.setBlk] using this⟩
@[go_sem high] theorem World.setBlk_here (o o' : Obj) [e : Sz w n] : (w.alloc o').setBlk n o = w.alloc o := by
  have := e.eq
  subst this
  show World.mk _ _ _ _ _ = World.mk _ _ _ _ _
  congr 1
  show (w.heap.push o').setIfInBounds w.heap.size o = w.heap.push o
  apply Array.ext_getElem?
  intro j
  simp only [Array.getElem?_setIfInBounds, Array.getElem?_push, Array.size_push]
  by_cases hj : w.heap.size = j
  · subst hj
    simp
  · have : ¬ j = w.heap.size := fun e => hj e.symm
    simp [hj, this]
@[go_sem] theorem World.setBlk_alloc (o o' : Obj) [h : Old n w] : (w.alloc o').setBlk n o = (w.setBlk n o).alloc o' := by
  have := h.lt
  show World.mk _ _ _ _ _ = World.mk _ _ _ _ _
  congr 1
  simp only [World.alloc, World.setBlk]
  apply Array.ext_getElem?
  intro j
  simp only [Array.getElem?_setIfInBounds, Array.getElem?_push, Array.size_push, Array.size_setIfInBounds]
  by_cases hn : n = j
  · subst hn
    have h1 : ¬ n = w.heap.size := by omega
    have h2 : n < w.heap.size + 1 := by omega
    simp [h1, h2, this]
  · simp [hn]
@[go_sem] theorem World.setBlk_jk (o : Obj) (k : Jk) [h : Old n w] : (w.jk k).setBlk n o = (w.setBlk n o).jk k := by
  have := h.lt
  show World.mk _ _ _ _ _ = World.mk _ _ _ _ _
  congr 1
  simp only [World.jk, World.setBlk]
  apply Array.ext_getElem?
  intro j
  simp only [Array.getElem?_setIfInBounds, Array.getElem?_append, Array.size_append, Array.size_setIfInBounds]
  by_cases hn : n = j
  · subst hn
    have h2 : n < w.heap.size + k.os.size := by omega
    simp [h2, this]
  · simp [hn]
@[go_sem] theorem World.setBlk_drew (o : Obj) : w.drew.setBlk n o = (w.setBlk n o).drew := rfl
end
theorem Q.setBlk {a w : World} (h : Q a w) {n : Nat} (hn : a.heap.size ≤ n) (o : Obj) : Q a (w.setBlk n o) := by
  have hb := h.below
  refine Q.of_below ⟨hb.os, hb.tape, hb.output, by simpa [World.setBlk] using hb.size, fun i hi => ?_⟩
  have : ¬ n = i := by omega
  simp only [World.setBlk, Array.getElem?_setIfInBounds, this, if_false]
  exact hb.block i hi
/-- Each value is one cell. -/
class OneC (v : Value) : Prop where
  eq : v.oneCell' = true
class Ones (cs : Array Value) : Prop where
  eq : cs.all (·.oneCell') = true
instance (k : IntKind) (n : Int) : OneC (.int k n) := ⟨rfl⟩
instance (b : Bool) : OneC (.bool b) := ⟨rfl⟩
instance (a : Option Addr) : OneC (.pointer a) := ⟨rfl⟩
instance (a : Option Addr) (n c : Nat) : OneC (.slice a n c) := ⟨rfl⟩
instance (b : ByteArray) : OneC (.string b) := ⟨rfl⟩
instance : Ones (List.toArray []) := ⟨by simp⟩
instance (v : Value) (l : List Value) [h : OneC v] [h' : Ones l.toArray] : Ones (List.toArray (v :: l)) := ⟨by
  have h2 := h'.eq
  simp only [List.all_toArray] at h2 ⊢
  simp only [List.all_cons, h.eq, h2, Bool.and_true]⟩
/-- Loads and stores that are not opened cell by cell. -/
def bigLoad (t : TypeId) (a : Addr) : Sem Value := loadVar t a
def bigStore (t : TypeId) (a : Addr) (v : Value) : Sem Unit := storeVar t a v
theorem run_bigLoad {P : Program} {w : World} {n : Nat} {cs : Array Value} {t ty : TypeId} {fr : Nat × Nat} {d : TypeDesc} [h : Blk w n (.cells cs t fr)]
    (hu : P.underlying ty = some d) (hd : (match d with | .struct _ | .array _ _ => true | _ => false) = true) (hi : (P.info? ty).map (·.size) = some cs.size) :
    (bigLoad ty ⟨n, 0, none⟩).run P w = .ok (.agg cs) w := run_loadVar_row w n t ty cs fr d h.eq hu hd hi
/-- A row and another result. -/
theorem results_blk2 {P : Program} {fn : Func} {tmps : Array Value} {p u : Tmp} {w : World} {n : Nat} {cs : Array Value} {t ty : TypeId} {fr : Nat × Nat} {d : TypeDesc} {v2 : Value} (h : fn.results = #[.cell p ty, .tmp u])
    (hp : tmps.getD p undef = .pointer (some ⟨n, 0, none⟩)) (h2 : tmps.getD u undef = v2) [hb : Blk w n (.cells cs t fr)]
    (hu : P.underlying ty = some d) (hd : (match d with | .struct _ | .array _ _ => true | _ => false) = true) (hi : (P.info? ty).map (·.size) = some cs.size) :
    (results fn tmps).run P w = .ok (.tuple #[.agg cs, v2]) w := by
  rw [results_cell_tmp h, hp, h2]
  have := run_loadVar_row (P := P) w n t ty cs fr d hb.eq hu hd hi
  simp [asAddr, this]
theorem results_blk1 {P : Program} {fn : Func} {tmps : Array Value} {p : Tmp} {w : World} {n : Nat} {cs : Array Value} {t ty : TypeId} {fr : Nat × Nat} {d : TypeDesc} (h : fn.results = #[.cell p ty])
    (hp : tmps.getD p undef = .pointer (some ⟨n, 0, none⟩)) [hb : Blk w n (.cells cs t fr)]
    (hu : P.underlying ty = some d) (hd : (match d with | .struct _ | .array _ _ => true | _ => false) = true) (hi : (P.info? ty).map (·.size) = some cs.size) :
    (results fn tmps).run P w = .ok (.agg cs) w := results_cell_row h tmps w n t cs fr d hp hb.eq hu hd hi
theorem run_bigStore {P : Program} {w : World} {n : Nat} {cs cs' : Array Value} {t ty : TypeId} [h : Blk w n (.cells cs t (0, 0))]
    (hi : (P.info? ty).map (·.size) = some cs'.size) (hs : cs.size = cs'.size) [h1 : Ones cs'] :
    (bigStore ty ⟨n, 0, none⟩ (.agg cs')).run P w = .ok () (w.setBlk n (.cells cs' t)) := by
  have := run_storeVar_row (P := P) w n t ty cs cs' h.eq hi hs h1.eq
  unfold bigStore
  rw [this]
  congr 1
  unfold World.setRow World.setBlk
  have hlt := (Array.getElem?_eq_some_iff.1 h.eq)
  obtain ⟨hlt, he⟩ := hlt
  congr 1
  apply Array.ext_getElem?
  intro j
  by_cases hj : n = j
  · subst hj
    rw [Array.getElem?_modify, if_pos rfl, Array.getElem?_eq_getElem hlt, he, Array.getElem?_setIfInBounds, if_pos rfl, if_pos hlt]
    rfl
  · simp [Array.getElem?_modify, hj]
end Go
/- append onto slices that the call has made, in the words of Q. -/
namespace Go
open Go.RowKit
/-- Two slices do not share their block. -/
def Apart (v u : Value) : Prop := ∀ g, v.ownBlock = some g → u.ownBlock ≠ some g
theorem Apart.symm {v u : Value} (h : Apart v u) : Apart u v := fun g hg hv => h g hv hg
theorem Apart.nil (u : Value) : Apart (.slice none 0 0) u := fun g hg => by simp [Value.ownBlock] at hg
theorem Apart.nil' (u : Value) : Apart u (.slice none 0 0) := (Apart.nil u).symm
/-- What was there before an append to v, apart from v, is there behind it. -/
def Grown (base : Nat) (v v' : Value) (w w' : World) : Prop :=
  ∀ (e : TypeId) (size : Nat) (u : Value) (n : Nat) (xs : List Value), w.ownsRow base e size u n xs → Apart v u → w'.ownsRow base e size u n xs ∧ Apart v' u
theorem ownsRow_q {w w' : World} {base : Nat} {e : TypeId} {size : Nat} {u : Value} {n : Nat} {xs : List Value} (h : w.ownsRow base e size u n xs) (hq : Q w w') : w'.ownsRow base e size u n xs := by
  refine h.kept (row := none) ?_ (by cases u.ownBlock <;> simp)
  have hb := hq.below
  exact ⟨hb.os, hb.tape, hb.output, hb.size, fun k hk _ => hb.block k hk⟩
theorem grown_Q {W0 w w' : World} {row : Option Nat} (h : Q W0 w) (hg : w.grownBy w' row) (hr : ∀ g, row = some g → W0.heap.size ≤ g) : Q W0 w' := by
  have hb := h.below
  refine Q.of_below ⟨hg.os.trans hb.os, hg.tape.trans hb.tape, hg.output.trans hb.output, Nat.le_trans hb.size hg.size, fun k hk => ?_⟩
  rw [hg.block k (Nat.lt_of_lt_of_le hk hb.size) (fun e => by have := hr k e.symm; omega)]
  exact hb.block k hk
theorem wpList_app {P : Program} {ops : Array Oper} {rest : List Oper} {o : Oper} {a : Act} {w : World} {Q' : Exit → Act → World → Prop} (hgd : o.guard = none) (s x : Operand) (t : TypeId)
    (ho : o.op = .call { callee := .builtin .append, args := #[s, x], argTypes := #[t, t] })
    (W0 : World) (e : TypeId) (i : TypeInfo) (z : Value) (size bytes : Nat) (ht : P.underlying t = some (.slice e)) (hi : P.info? e = some i) (hz : i.zero = some z)
    (hsize : i.size = size) (hby : i.bytes = bytes) (hzs : z.cells.size = size) (hsz : 0 < size)
    (v : Value) (n : Nat) (xs : List Value) (hs : a.eval s = v) (hown : w.ownsRow W0.heap.size e size v n xs)
    (ad : Addr) (m c : Nat) (news : List Value) (hx : a.eval x = .slice (some ad) m c) (hl : news.length = m * size) (hnews : ∀ j u, news[j]? = some u → w.cell? (ad.add j) = some u) (h1 : ∀ u ∈ news, u.oneCell' = true)
    (h63 : n + m ≤ maxLen) (hbytes : (n + m) * bytes ≤ 140737488355328) (hQ : Q W0 w)
    (h : ∀ v' kk, (W0.jk kk).ownsRow W0.heap.size e size v' (n + m) (xs ++ news) → Grown W0.heap.size v v' w (W0.jk kk) → wpList P ops Q' rest (a.put o.dst v') (W0.jk kk)) : wpList P ops Q' (o :: rest) a w := by
  refine wpList_append_own_at w hgd s x t ho W0.heap.size e i z size bytes ht hi hz hsize hby hzs hsz v n xs hs hown ad m c news hx hl hnews h1 h63 hbytes hQ.below.size ?_
  intro v' w' hown' hgrow _ hat
  have hq := grown_Q hQ hgrow fun g hg => (hown.lt g hg).1
  obtain ⟨kk, rfl⟩ := hq
  refine h v' kk hown' fun e2 size2 u n2 xs2 hu hap => ⟨hu.kept hgrow ?_, fun g hg hug => ?_⟩
  · cases hub : u.ownBlock with
    | none => exact .inl rfl
    | some g => exact .inr fun e3 => hap g e3.symm hub
  · rcases hat with hat | hat
    · exact hap g (hat ▸ hg) hug
    · rw [hat] at hg
      have := (hu.lt g hug).2
      have := Option.some.inj hg
      omega
end Go
namespace Go.Proofs.YtfdpnephjpcnbaaDoor
open Go.RowKit
theorem infoInt : ∃ i, Tryd.prog.info? 3 = some i ∧ i.zero = some (.int .i64 0) ∧ i.size = 1 ∧ i.bytes = 8 := by
  have h : (Tryd.prog.info? 3).map (fun i => (i.zero, i.size, i.bytes)) = some (some (.int .i64 0), 1, 8) := by kernel_rfl
  cases hi : Tryd.prog.info? 3 with
  | none => rw [hi] at h; cases h
  | some i =>
    rw [hi] at h
    simp only [Option.map_some, Option.some.injEq, Prod.mk.injEq] at h
    exact ⟨i, rfl, h.1, h.2.1, h.2.2⟩
/-- The slice v holds the numbers zs, in a block behind W0's. -/
def RowI (W0 w : World) (v : Value) (zs : List Int) : Prop := w.ownsRow W0.heap.size 3 1 v zs.length (zs.map (Value.int .i64))
theorem RowI.nil (W0 w : World) : RowI W0 w (.slice none 0 0) [] := World.ownsRow_nil _ _ _ _
theorem RowI.q {W0 w w' : World} {v : Value} {zs : List Int} (h : RowI W0 w v zs) (hq : Q w w') : RowI W0 w' v zs := ownsRow_q h hq
theorem RowI.grown {W0 w w' : World} {v v' u : Value} {zs : List Int} (h : RowI W0 w u zs) (hg : Grown W0.heap.size v v' w w') (ha : Apart v u) : RowI W0 w' u zs ∧ Apart v' u := hg _ _ _ _ _ h ha
theorem wpList_app_int {ops : Array Oper} {rest : List Oper} {o : Oper} {a : Act} {w : World} {Q' : Exit → Act → World → Prop} (hgd : o.guard = none) (s x : Operand)
    (ho : o.op = .call { callee := .builtin .append, args := #[s, x], argTypes := #[26, 26] }) (W0 : World) (v : Value) (zs : List Int) (z : Int) (g : Nat)
    (hs : a.eval s = v) (hx : a.eval x = .slice (some ⟨g, 0, none⟩) 1 1) (hown : RowI W0 w v zs) (hg : w.cell? ⟨g, 0, none⟩ = some (.int .i64 z)) (hlen : zs.length < 1000000) (hQ : Q W0 w)
    (h : ∀ v' kk, RowI W0 (W0.jk kk) v' (zs ++ [z]) → Grown W0.heap.size v v' w (W0.jk kk) → wpList Tryd.prog ops Q' rest (a.put o.dst v') (W0.jk kk)) : wpList Tryd.prog ops Q' (o :: rest) a w := by
  obtain ⟨i, hi, hz, hs1, hb⟩ := infoInt
  refine wpList_app hgd s x 26 ho W0 3 i (.int .i64 0) 1 8 Tryd.underlying26 hi hz hs1 hb rfl (by decide) v _ _ hs hown ⟨g, 0, none⟩ 1 1 [.int .i64 z] hx rfl ?_ ?_ (by unfold maxLen; omega) (by omega) hQ ?_
  · intro j u hj
    match j, hj with
    | 0, hj => simp at hj; subst hj; simpa [Addr.add] using hg
  · intro u hu
    simp at hu
    subst hu
    rfl
  · intro v' kk h1 h2
    refine h v' kk ?_ h2
    unfold RowI
    simpa using h1
/-- A slice of n numbers. -/
theorem RowI.win {W0 w : World} {v : Value} {zs : List Int} (h : RowI W0 w v zs) (hn : zs ≠ []) : ∃ g c, v = .slice (some ⟨g, 0, none⟩) zs.length c ∧ W0.heap.size ≤ g ∧ ∀ k, k < zs.length → w.cell? ⟨g, k, none⟩ = some (.int .i64 (zs.getD k 0)) := by
  have hl : zs.length ≠ 0 := fun e => hn (List.eq_nil_of_length_eq_zero e)
  have hlt := h
  rcases h.2 with ⟨_, h0⟩ | ⟨g, cap, cur, rfl, hb, hg, hc, _, hcs, htake⟩
  · exact absurd h0 hl
  · refine ⟨g, cap, rfl, hb, fun k hk => ?_⟩
    have := hlt.cells (g := g) rfl k (.int .i64 (zs.getD k 0)) (by simp [List.getD, hk])
    have e : (⟨g, 0, none⟩ : Addr).add k = ⟨g, k, none⟩ := by unfold Addr.add; split <;> simp_all
    rw [e] at this
    exact this
end Go.Proofs.YtfdpnephjpcnbaaDoor
namespace Go
open Go.RowKit
/-- The slice A, n, c of elements of 'size' cells holds the cells vs. -/
def RdV (w : World) (A : Option Addr) (n c size : Nat) (vs : List Value) : Prop :=
  vs.length = n * size ∧ n ≤ c ∧ (0 < n → ∃ g o, A = some ⟨g, o, none⟩ ∧ g < w.heap.size ∧ ∀ i u, vs[i]? = some u → w.cell? ⟨g, o + i, none⟩ = some u) ∧ (A = none → c = 0)
theorem RdV.q {w w' : World} {A : Option Addr} {n c size : Nat} {vs : List Value} (h : RdV w A n c size vs) (hq : Q w w') : RdV w' A n c size vs := by
  refine ⟨h.1, h.2.1, fun hn => ?_, h.2.2.2⟩
  obtain ⟨g, o, rfl, hg, hc⟩ := h.2.2.1 hn
  have hb := hq.below
  exact ⟨g, o, rfl, Nat.lt_of_lt_of_le hg hb.size, fun i u hi => (hb.cell (p := ⟨g, o + i, none⟩) hg).trans (hc i u hi)⟩
theorem RdV.nil (w : World) (size : Nat) : RdV w none 0 0 size [] := ⟨by simp, Nat.zero_le _, fun h => absurd h (by omega), fun _ => rfl⟩
theorem RdV.nil' (w : World) (size : Nat) (ad : Addr) (c : Nat) : RdV w (some ad) 0 c size [] := ⟨by simp, Nat.zero_le _, fun h => absurd h (by omega), fun h => by cases h⟩
theorem RdV.at_ {w : World} {A : Option Addr} {n c size : Nat} {vs : List Value} (h : RdV w A n c size vs) (hn : 0 < n) : ∃ g o, A = some ⟨g, o, none⟩ ∧ Old g w ∧ Hid (∀ i u, vs[i]? = some u → w.cell? ⟨g, o + i, none⟩ = some u) := by
  obtain ⟨g, o, e, hg, hc⟩ := h.2.2.1 hn
  exact ⟨g, o, e, ⟨hg⟩, Lib.hid hc⟩
/-- A part of a slice. -/
theorem RdV.part {w : World} {g o n c size : Nat} {vs : List Value} (h : RdV w (some ⟨g, o, none⟩) n c size vs) (lo hi c' : Nat) (h1 : lo ≤ hi) (h2 : hi ≤ n) (h3 : hi - lo ≤ c') :
    RdV w (some ⟨g, o + lo * size, none⟩) (hi - lo) c' size ((vs.drop (lo * size)).take ((hi - lo) * size)) := by
  have hmul : lo * size + (hi - lo) * size ≤ n * size := by rw [← Nat.add_mul]; exact Nat.mul_le_mul_right _ (by omega)
  refine ⟨by rw [List.length_take, List.length_drop, h.1]; omega, h3, fun hn => ?_, fun e => by cases e⟩
  obtain ⟨g', o', e, hg, hc⟩ := h.2.2.1 (by omega)
  cases e
  refine ⟨g, _, rfl, hg, fun i u hi => ?_⟩
  rw [List.getElem?_take] at hi
  split at hi
  · rw [List.getElem?_drop] at hi
    have := hc _ u hi
    rwa [show o + lo * size + i = o + (lo * size + i) by omega]
  · cases hi
/-- What lies in new blocks is not touched by a store into an old one. -/
theorem RdV.swap {W W' : World} {k : Jk} {A : Option Addr} {n c size : Nat} {vs : List Value} (hs : W.heap.size = W'.heap.size) (h : RdV (W.jk k) A n c size vs) (hf : ∀ ad, A = some ad → W.heap.size ≤ ad.block) : RdV (W'.jk k) A n c size vs := by
  refine ⟨h.1, h.2.1, fun hn => ?_, h.2.2.2⟩
  obtain ⟨g, o, rfl, hg, hc⟩ := h.2.2.1 hn
  have hge : W.heap.size ≤ g := hf ⟨g, o, .none⟩ rfl
  refine ⟨g, o, rfl, by rw [World.size_jk] at *; omega, fun i u hi => ?_⟩
  rw [← hc i u hi]
  refine World.cell?_of_block (w := W.jk k) (a := ⟨g, o + i, .none⟩) ?_
  show (W'.jk k).heap[g]? = (W.jk k).heap[g]?
  simp only [World.jk, Array.getElem?_append]
  rw [if_neg (by omega), if_neg (by omega), hs]
/-- A row that the call has made reads as its cells. -/
theorem rdv_of_own {w : World} {base size n : Nat} {e : TypeId} {v : Value} {vs : List Value} (h : w.ownsRow base e size v n vs) (hl : vs.length = n * size) : ∃ A c, v = .slice A n c ∧ RdV w A n c size vs := by
  have h' := h
  rcases h.2 with ⟨rfl, h0⟩ | ⟨g, cap, cur, rfl, hb, hg, hc, _, hcs, htake⟩
  · obtain rfl : n = 0 := h0
    have : vs = [] := List.eq_nil_of_length_eq_zero (by rw [hl]; simp)
    subst this
    exact ⟨none, 0, rfl, RdV.nil w size⟩
  · refine ⟨_, cap, rfl, hl, hc, fun _ => ⟨g, 0, rfl, (h'.lt g rfl).2, fun i u hi => ?_⟩, fun e => by cases e⟩
    have := h'.cells (g := g) rfl i u hi
    have e : (⟨g, 0, none⟩ : Addr).add i = ⟨g, 0 + i, none⟩ := by unfold Addr.add; split <;> simp_all
    rw [e] at this
    exact this
end Go
