
/- Worlds under a name, in which some blocks are known. -/
import Derived.WalkKit
import Derived.WalkSpells
import Derived.WalkLawsBesides
import Derived.Handy
import Derived.BigQuiet
import Derived.Lib.Hide
import Derived.Deep.MidRow
import Derived.Laws.Tables
import Derived.Laws.ResultCell
import Derived.Test.YtcjflafjmdfanaaGreatDoorRows
import Derived.Maps.AppendAt
import Derived.Deep.RegionLaw
import Derived.Laws.MakeOwn
import Derived.IntWalk
import Derived.Laws.BitsAllLaws
import Derived.StillTail
import Derived.Deep.RegionHeld3
import Derived.Deep.DrawnRows
import Derived.StillTailTactics
import Derived.Deep.DeepCutAuto
set_option linter.unusedSimpArgs false
set_option linter.unusedVariables false
/- Helper laws, of no program: a world with new blocks behind it and some draws ('World.jk'), and regions that read and call such functions. -/
namespace Go
open Go.RowKit

/-- Some new blocks and some draws. -/
structure Jk where
 os : Array Obj
 n : Nat
instance : Inhabited Jk := ⟨⟨#[], 0⟩⟩
@[reducible] def Jk.inc (k : Jk) : Jk := ⟨k.os, k.n + 1⟩
def Jk.add (k m : Jk) : Jk := ⟨k.os ++ m.os, m.n⟩
/-- The world w with the blocks of k behind its own; so many answers have been drawn as k says. -/
def World.jk (w : World) (k : Jk) : World := { w with heap := w.heap ++ k.os, drawn := k.n }

/-- The size of a world's heap, written out. -/
class Sz (w : World) (s : outParam Nat) : Prop where
 eq : w.heap.size = s
/-- The block n lies in the world w. -/
class Old (n : Nat) (w : World) : Prop where
 lt : n < w.heap.size

section
variable {w : World}
@[go_sem] theorem Jk.os_inc (k : Jk) : k.inc.os = k.os := rfl
@[go_sem] theorem World.size_jk (k : Jk) : (w.jk k).heap.size = w.heap.size + k.os.size := by simp [World.jk]
theorem World.block_jk (k : Jk) (i : Nat) (h : i < w.heap.size) : (w.jk k).heap[i]? = w.heap[i]? := by
 simp [World.jk, Array.getElem?_append, h]
theorem World.cell?_jk_lt (k : Jk) (b i : Nat) (h : b < w.heap.size) : (w.jk k).cell? ⟨b, i, none⟩ = w.cell? ⟨b, i, none⟩ :=
 World.cell?_of_block (w := w) (a := ⟨b, i, none⟩) (World.block_jk k b h)
theorem World.frozen?_jk_lt (k : Jk) (b i : Nat) (h : b < w.heap.size) : (w.jk k).frozen? ⟨b, i, none⟩ = w.frozen? ⟨b, i, none⟩ :=
 World.frozen?_of_block (w := w) (a := ⟨b, i, none⟩) (World.block_jk k b h)
theorem World.setCell_jk_lt (k : Jk) (b i : Nat) (v : Value) (h : b < w.heap.size) : (w.jk k).setCell ⟨b, i, none⟩ v = (w.setCell ⟨b, i, none⟩ v).jk k := by
 unfold World.setCell World.jk
 congr 1
 apply Array.ext_getElem?
 intro j
 simp only [Array.getElem?_modify, Array.getElem?_append, Array.size_modify]
 by_cases hj : j < w.heap.size
 ·simp [hj]
 ·have : ¬ b = j := by omega
  simp [hj, this]
@[go_sem] theorem World.drew_jk (k : Jk) : (w.jk k).drew = w.jk k.inc := rfl
@[go_sem] theorem World.jk_drew (k : Jk) : w.drew.jk k = w.jk k := rfl
theorem World.jk_jk (k m : Jk) : (w.jk k).jk m = w.jk (k.add m) := by
 show World.mk _ _ _ _ _ = World.mk _ _ _ _ _
 congr 1
 simp [World.jk, Jk.add, Array.append_assoc]

instance (priority := low) Sz.base : Sz w w.heap.size := ⟨rfl⟩
instance Sz.alloc {s : Nat} (o : Obj) [h : Sz w s] : Sz (w.alloc o) (s + 1) := ⟨by simp [h.eq]⟩
instance Sz.jk {s : Nat} (k : Jk) [h : Sz w s] : Sz (w.jk k) (s + k.os.size) := ⟨by simp [World.size_jk, h.eq]⟩
instance Sz.drew {s : Nat} [h : Sz w s] : Sz w.drew s := ⟨h.eq⟩
instance Old.here {n : Nat} (o : Obj) [e : Sz w n] : Old n (w.alloc o) := ⟨by simp [e.eq]⟩
instance Old.alloc {n : Nat} (o : Obj) [h : Old n w] : Old n (w.alloc o) := ⟨by have := h.lt; simp; omega⟩
instance Old.jk {n : Nat} (k : Jk) [h : Old n w] : Old n (w.jk k) := ⟨by have := h.lt; simp [World.size_jk]; omega⟩
instance Old.drew {n : Nat} [h : Old n w] : Old n w.drew := ⟨h.lt⟩
instance Old.setCell {n : Nat} (p : Addr) (v : Value) [h : Old n w] : Old n (w.setCell p v) := ⟨by simpa using h.lt⟩
@[go_sem high] theorem World.cell?_alloc_old' (o : Obj) (n i : Nat) [h : Old n w] : (w.alloc o).cell? ⟨n, i, none⟩ = w.cell? ⟨n, i, none⟩ := World.cell?_alloc_past o n i h.lt
@[go_sem high] theorem World.frozen?_alloc_old' (o : Obj) (n i : Nat) [h : Old n w] : (w.alloc o).frozen? ⟨n, i, none⟩ = w.frozen? ⟨n, i, none⟩ := World.frozen?_alloc_past o n i h.lt
@[go_sem high] theorem World.setCell_alloc_old' (o : Obj) (n i : Nat) (v : Value) [h : Old n w] : (w.alloc o).setCell ⟨n, i, none⟩ v = (w.setCell ⟨n, i, none⟩ v).alloc o := World.setCell_alloc_past o n i v h.lt
@[go_sem] theorem World.cell?_jk (k : Jk) (n i : Nat) [h : Old n w] : (w.jk k).cell? ⟨n, i, none⟩ = w.cell? ⟨n, i, none⟩ := World.cell?_jk_lt k n i h.lt
@[go_sem] theorem World.frozen?_jk (k : Jk) (n i : Nat) [h : Old n w] : (w.jk k).frozen? ⟨n, i, none⟩ = w.frozen? ⟨n, i, none⟩ := World.frozen?_jk_lt k n i h.lt
@[go_sem] theorem World.setCell_jk (k : Jk) (n i : Nat) (v : Value) [h : Old n w] : (w.jk k).setCell ⟨n, i, none⟩ v = (w.setCell ⟨n, i, none⟩ v).jk k := World.setCell_jk_lt k n i v h.lt
end

/-- w' is w with some new blocks and some draws. -/
def Q (w w' : World) : Prop := ∃ k : Jk, w' = w.jk k
theorem Q.refl (w : World) : Q w w := ⟨⟨#[], w.drawn⟩, by simp [World.jk]⟩
theorem Q.of_below {w w' : World} (h : Below w.heap.size w w') : Q w w' := by
 refine ⟨⟨w'.heap.extract w.heap.size, w'.drawn⟩, ?_⟩
 have e : w'.heap = w.heap ++ w'.heap.extract w.heap.size := by
  apply Array.ext_getElem?
  intro i
  rw [Array.getElem?_append]
  by_cases hi : i < w.heap.size
  ·rw [if_pos hi]; exact h.block i hi
  ·rw [if_neg hi, Array.getElem?_extract]
   by_cases hj : i < w'.heap.size
   ·rw [if_pos (by omega)]
    congr 1
    omega
   ·rw [if_neg (by omega), Array.getElem?_eq_none (by omega)]
 show World.mk w'.heap w'.tape w'.drawn w'.os w'.output = World.mk _ w.tape w'.drawn w.os w.output
 rw [← e, h.tape, h.os, h.output]
theorem Q.jk {a w : World} (h : Q a w) (k : Jk) : Q a (w.jk k) := by
 obtain ⟨m, rfl⟩ := h
 exact ⟨_, World.jk_jk m k⟩
theorem Q.trans {a b c : World} (h : Q a b) (h' : Q b c) : Q a c := by
 obtain ⟨k, rfl⟩ := h'
 exact h.jk k
theorem Q.alloc {a w : World} (h : Q a w) (o : Obj) : Q a (w.alloc o) := by
 refine h.trans ⟨⟨#[o], w.drawn⟩, ?_⟩
 unfold World.jk World.alloc
 simp
theorem Q.drew {a w : World} (h : Q a w) : Q a w.drew := h.trans ⟨⟨#[], w.drawn + 1⟩, by show World.mk w.heap w.tape (w.drawn + 1) w.os w.output = World.mk (w.heap ++ #[]) w.tape (w.drawn + 1) w.os w.output; simp⟩
theorem Q.below {w w' : World} (h : Q w w') : Below w.heap.size w w' := by
 obtain ⟨k, rfl⟩ := h
 exact ⟨rfl, rfl, rfl, by rw [World.size_jk]; omega, fun i hi => World.block_jk k i hi⟩
theorem Q.setCell {a w : World} (h : Q a w) {b i : Nat} (hb : a.heap.size ≤ b) (v : Value) : Q a (w.setCell ⟨b, i, none⟩ v) := by
 obtain ⟨k, rfl⟩ := h
 refine ⟨⟨((a.jk k).setCell ⟨b, i, none⟩ v).heap.extract a.heap.size, k.n⟩, ?_⟩
 unfold World.jk World.setCell
 congr 1
 apply Array.ext_getElem?
 intro j
 simp only [Array.getElem?_modify, Array.getElem?_append, Array.size_modify, Array.getElem?_extract, Array.size_append]
 by_cases hj : j < a.heap.size
 ·have : ¬ b = j := by omega
  simp [hj, this]
 ·simp only [hj, if_false]
  by_cases hk : j - a.heap.size < k.os.size
  ·have e2 : a.heap.size + (j - a.heap.size) = j := by omega
   have e4 : ¬ k.os.size ≤ j - a.heap.size := by omega
   simp [e2, hj, e4]
  ·have e3 : k.os[j - a.heap.size]? = none := Array.getElem?_eq_none (by omega)
   simp [e3]

/-- A callee's contract, met in a world of the class. -/
theorem Calls.jk_of {P : Program} {f : FuncId} {args : Array Value} {w : World} {k : Jk} {v : Value}
  (h : Calls P f args (w.jk k) fun e w' => e = .returned v ∧ Q (w.jk k) w') : Calls P f args (w.jk k) fun e w'' => e = .returned v ∧ ∃ m, w'' = w.jk m :=
 h.mono fun _ _ ⟨he, m, hm⟩ => ⟨he, k.add m, by rw [hm, World.jk_jk]⟩
theorem Calls.jk_of_same {P : Program} {f : FuncId} {args : Array Value} {w : World} {k : Jk} {v : Value}
  (h : Calls P f args (w.jk k) fun e w' => e = .returned v ∧ w.jk k = w') : Calls P f args (w.jk k) fun e w'' => e = .returned v ∧ ∃ m, w'' = w.jk m :=
 h.mono fun _ _ ⟨he, hm⟩ => ⟨he, k, hm.symm⟩

/-- A region that draws its order, whose operations read and whose callees make new blocks at most: one walk in the order of the text. -/
theorem wp_region_jk {P : Program} {id : Nat} {R : Exit → Act → World → Prop} {a : Act} {w : World} {l : List Oper} (hm : P.follows .mixedOrders = true) (hB : Region.lexB .any l.toArray = true)
  (h : wpQuiet P l.toArray (fun w' => ∃ k, w' = w.jk k) (fun a' => ∀ w', (∃ k, w' = w.jk k) → R .normal a' w') l a) : (Code.region id l.toArray true).wp P R a w :=
 wp_region_quiet (C := fun w' => ∃ k, w' = w.jk k) hm hB ⟨⟨#[], w.drawn + 1⟩, by simp [World.jk]⟩ (by simpa using h)
end Go
/- Whole blocks: what lies in a block of a world that is written out; great rows are read and written whole. -/
namespace Go
open Go.RowKit
/-- Block n of the world w is o. -/
class Blk (w : World) (n : Nat) (o : outParam Obj) : Prop where
 eq : w.heap[n]? = some o
/-- The world with another block n. -/
def World.setBlk (w : World) (n : Nat) (o : Obj) : World := { w with heap := w.heap.setIfInBounds n o }
section
variable {w : World} {n : Nat} {o : Obj}
instance Blk.here (o : Obj) [e : Sz w n] : Blk (w.alloc o) n o := ⟨by have := e.eq; subst this; exact heap_alloc_new w o⟩
instance Blk.alloc (o' : Obj) [h : Blk w n o] : Blk (w.alloc o') n o := ⟨by
 rw [heap_alloc_old w o' (Array.getElem?_eq_some_iff.1 h.eq).1]; exact h.eq⟩
instance Blk.jk (k : Jk) [h : Blk w n o] : Blk (w.jk k) n o := ⟨by
 rw [World.block_jk k n (Array.getElem?_eq_some_iff.1 h.eq).1]; exact h.eq⟩
instance Blk.drew [h : Blk w n o] : Blk w.drew n o := ⟨h.eq⟩
instance Old.blk {w : World} {n : Nat} (o' : Obj) (m : Nat) [h : Old n w] : Old n (w.setBlk m o') := ⟨by have := h.lt; simpa [World.setBlk] using this⟩
instance Sz.blk {w : World} {s : Nat} (o' : Obj) (m : Nat) [h : Sz w s] : Sz (w.setBlk m o') s := ⟨by have := h.eq; simpa [World.setBlk] using this⟩
@[go_sem high] theorem World.setBlk_here (o o' : Obj) [e : Sz w n] : (w.alloc o').setBlk n o = w.alloc o := by
 have := e.eq
 subst this
 show World.mk _ _ _ _ _ = World.mk _ _ _ _ _
 congr 1
 show (w.heap.push o').setIfInBounds w.heap.size o = w.heap.push o
 apply Array.ext_getElem?
 intro j
 simp only [Array.getElem?_setIfInBounds, Array.getElem?_push, Array.size_push]
 by_cases hj : w.heap.size = j
 ·subst hj
  simp
 ·have : ¬ j = w.heap.size := fun e => hj e.symm
  simp [hj, this]
@[go_sem] theorem World.setBlk_alloc (o o' : Obj) [h : Old n w] : (w.alloc o').setBlk n o = (w.setBlk n o).alloc o' := by
 have := h.lt
 show World.mk _ _ _ _ _ = World.mk _ _ _ _ _
 congr 1
 simp only [World.alloc, World.setBlk]
 apply Array.ext_getElem?
 intro j
 simp only [Array.getElem?_setIfInBounds, Array.getElem?_push, Array.size_push, Array.size_setIfInBounds]
 by_cases hn : n = j
 ·subst hn
  have h1 : ¬ n = w.heap.size := by omega
  have h2 : n < w.heap.size + 1 := by omega
  simp [h1, h2, this]
 ·simp [hn]
@[go_sem] theorem World.setBlk_jk (o : Obj) (k : Jk) [h : Old n w] : (w.jk k).setBlk n o = (w.setBlk n o).jk k := by
 have := h.lt
 show World.mk _ _ _ _ _ = World.mk _ _ _ _ _
 congr 1
 simp only [World.jk, World.setBlk]
 apply Array.ext_getElem?
 intro j
 simp only [Array.getElem?_setIfInBounds, Array.getElem?_append, Array.size_append, Array.size_setIfInBounds]
 by_cases hn : n = j
 ·subst hn
  have h2 : n < w.heap.size + k.os.size := by omega
  simp [h2, this]
 ·simp [hn]
@[go_sem] theorem World.setBlk_drew (o : Obj) : w.drew.setBlk n o = (w.setBlk n o).drew := rfl
end
theorem Q.setBlk {a w : World} (h : Q a w) {n : Nat} (hn : a.heap.size ≤ n) (o : Obj) : Q a (w.setBlk n o) := by
 have hb := h.below
 refine Q.of_below ⟨hb.os, hb.tape, hb.output, by simpa [World.setBlk] using hb.size, fun i hi => ?_⟩
 have : ¬ n = i := by omega
 simp only [World.setBlk, Array.getElem?_setIfInBounds, this, if_false]
 exact hb.block i hi
/-- Each value is one cell. -/
class OneC (v : Value) : Prop where
 eq : v.oneCell' = true
class Ones (cs : Array Value) : Prop where
 eq : cs.all (·.oneCell') = true
instance (k : IntKind) (n : Int) : OneC (.int k n) := ⟨rfl⟩
instance (b : Bool) : OneC (.bool b) := ⟨rfl⟩
instance (a : Option Addr) : OneC (.pointer a) := ⟨rfl⟩
instance (a : Option Addr) (n c : Nat) : OneC (.slice a n c) := ⟨rfl⟩
instance (b : ByteArray) : OneC (.string b) := ⟨rfl⟩
instance : Ones (List.toArray []) := ⟨by simp⟩
instance (v : Value) (l : List Value) [h : OneC v] [h' : Ones l.toArray] : Ones (List.toArray (v :: l)) := ⟨by
 have h2 := h'.eq
 simp only [List.all_toArray] at h2 ⊢
 simp only [List.all_cons, h.eq, h2, Bool.and_true]⟩
/-- Loads and stores that are not opened cell by cell. -/
def bigLoad (t : TypeId) (a : Addr) : Sem Value := loadVar t a
def bigStore (t : TypeId) (a : Addr) (v : Value) : Sem Unit := storeVar t a v
theorem run_bigLoad {P : Program} {w : World} {n : Nat} {cs : Array Value} {t ty : TypeId} {fr : Nat × Nat} {d : TypeDesc} [h : Blk w n (.cells cs t fr)]
  (hu : P.underlying ty = some d) (hd : (match d with | .struct _ | .array _ _ => true | _ => false) = true) (hi : (P.info? ty).map (·.size) = some cs.size) :
  (bigLoad ty ⟨n, 0, none⟩).run P w = .ok (.agg cs) w := run_loadVar_row w n t ty cs fr d h.eq hu hd hi
theorem results_blk1 {P : Program} {fn : Func} {tmps : Array Value} {p : Tmp} {w : World} {n : Nat} {cs : Array Value} {t ty : TypeId} {fr : Nat × Nat} {d : TypeDesc} (h : fn.results = #[.cell p ty])
  (hp : tmps.getD p undef = .pointer (some ⟨n, 0, none⟩)) [hb : Blk w n (.cells cs t fr)]
  (hu : P.underlying ty = some d) (hd : (match d with | .struct _ | .array _ _ => true | _ => false) = true) (hi : (P.info? ty).map (·.size) = some cs.size) :
  (results fn tmps).run P w = .ok (.agg cs) w := results_cell_row h tmps w n t cs fr d hp hb.eq hu hd hi
theorem run_bigStore {P : Program} {w : World} {n : Nat} {cs cs' : Array Value} {t ty : TypeId} [h : Blk w n (.cells cs t (0, 0))]
  (hi : (P.info? ty).map (·.size) = some cs'.size) (hs : cs.size = cs'.size) [h1 : Ones cs'] :
  (bigStore ty ⟨n, 0, none⟩ (.agg cs')).run P w = .ok () (w.setBlk n (.cells cs' t)) := by
 have := run_storeVar_row (P := P) w n t ty cs cs' h.eq hi hs h1.eq
 unfold bigStore
 rw [this]
 congr 1
 unfold World.setRow World.setBlk
 have hlt := (Array.getElem?_eq_some_iff.1 h.eq)
 obtain ⟨hlt, he⟩ := hlt
 congr 1
 apply Array.ext_getElem?
 intro j
 by_cases hj : n = j
 ·subst hj
  rw [Array.getElem?_modify, if_pos rfl, Array.getElem?_eq_getElem hlt, he, Array.getElem?_setIfInBounds, if_pos rfl, if_pos hlt]
  rfl
 ·simp [Array.getElem?_modify, hj]
end Go
/- append onto slices that the call has made, in the words of Q. -/
namespace Go
open Go.RowKit
/-- Two slices do not share their block. -/
def Apart (v u : Value) : Prop := ∀ g, v.ownBlock = some g → u.ownBlock ≠ some g
theorem Apart.symm {v u : Value} (h : Apart v u) : Apart u v := fun g hg hv => h g hv hg
theorem Apart.nil (u : Value) : Apart (.slice none 0 0) u := fun g hg => by simp [Value.ownBlock] at hg
theorem Apart.nil' (u : Value) : Apart u (.slice none 0 0) := (Apart.nil u).symm
/-- What was there before an append to v, apart from v, is there behind it. -/
def Grown (base : Nat) (v v' : Value) (w w' : World) : Prop :=
 ∀ (e : TypeId) (size : Nat) (u : Value) (n : Nat) (xs : List Value), w.ownsRow base e size u n xs → Apart v u → w'.ownsRow base e size u n xs ∧ Apart v' u
theorem ownsRow_q {w w' : World} {base : Nat} {e : TypeId} {size : Nat} {u : Value} {n : Nat} {xs : List Value} (h : w.ownsRow base e size u n xs) (hq : Q w w') : w'.ownsRow base e size u n xs := by
 refine h.kept (row := none) ?_ (by cases u.ownBlock <;> simp)
 have hb := hq.below
 exact ⟨hb.os, hb.tape, hb.output, hb.size, fun k hk _ => hb.block k hk⟩
theorem grown_Q {W0 w w' : World} {row : Option Nat} (h : Q W0 w) (hg : w.grownBy w' row) (hr : ∀ g, row = some g → W0.heap.size ≤ g) : Q W0 w' := by
 have hb := h.below
 refine Q.of_below ⟨hg.os.trans hb.os, hg.tape.trans hb.tape, hg.output.trans hb.output, Nat.le_trans hb.size hg.size, fun k hk => ?_⟩
 rw [hg.block k (Nat.lt_of_lt_of_le hk hb.size) (fun e => by have := hr k e.symm; omega)]
 exact hb.block k hk
theorem wpList_app {P : Program} {ops : Array Oper} {rest : List Oper} {o : Oper} {a : Act} {w : World} {Q' : Exit → Act → World → Prop} (hgd : o.guard = none) (s x : Operand) (t : TypeId)
  (ho : o.op = .call { callee := .builtin .append, args := #[s, x], argTypes := #[t, t] })
  (W0 : World) (e : TypeId) (i : TypeInfo) (z : Value) (size bytes : Nat) (ht : P.underlying t = some (.slice e)) (hi : P.info? e = some i) (hz : i.zero = some z)
  (hsize : i.size = size) (hby : i.bytes = bytes) (hzs : z.cells.size = size) (hsz : 0 < size)
  (v : Value) (n : Nat) (xs : List Value) (hs : a.eval s = v) (hown : w.ownsRow W0.heap.size e size v n xs)
  (ad : Addr) (m c : Nat) (news : List Value) (hx : a.eval x = .slice (some ad) m c) (hl : news.length = m * size) (hnews : ∀ j u, news[j]? = some u → w.cell? (ad.add j) = some u) (h1 : ∀ u ∈ news, u.oneCell' = true)
  (h63 : n + m ≤ maxLen) (hbytes : (n + m) * bytes ≤ 140737488355328) (hQ : Q W0 w)
  (h : ∀ v' kk, (W0.jk kk).ownsRow W0.heap.size e size v' (n + m) (xs ++ news) → Grown W0.heap.size v v' w (W0.jk kk) → wpList P ops Q' rest (a.put o.dst v') (W0.jk kk)) : wpList P ops Q' (o :: rest) a w := by
 refine wpList_append_own_at w hgd s x t ho W0.heap.size e i z size bytes ht hi hz hsize hby hzs hsz v n xs hs hown ad m c news hx hl hnews h1 h63 hbytes hQ.below.size ?_
 intro v' w' hown' hgrow _ hat
 have hq := grown_Q hQ hgrow fun g hg => (hown.lt g hg).1
 obtain ⟨kk, rfl⟩ := hq
 refine h v' kk hown' fun e2 size2 u n2 xs2 hu hap => ⟨hu.kept hgrow ?_, fun g hg hug => ?_⟩
 ·cases hub : u.ownBlock with
  | none => exact .inl rfl
  | some g => exact .inr fun e3 => hap g e3.symm hub
 ·rcases hat with hat | hat
  ·exact hap g (hat ▸ hg) hug
  ·rw [hat] at hg
   have := (hu.lt g hug).2
   have := Option.some.inj hg
   omega
end Go
namespace Go.Proofs.YtcjflafjmdfanaaGreatDoor
open Go.RowKit
theorem infoInt : ∃ i, Tryz.prog.info? 3 = some i ∧ i.zero = some (.int .i64 0) ∧ i.size = 1 ∧ i.bytes = 8 := by
 have h : (Tryz.prog.info? 3).map (fun i => (i.zero, i.size, i.bytes)) = some (some (.int .i64 0), 1, 8) := by kernel_rfl
 cases hi : Tryz.prog.info? 3 with
 | none => rw [hi] at h; cases h
 | some i =>
  rw [hi] at h
  simp only [Option.map_some, Option.some.injEq, Prod.mk.injEq] at h
  exact ⟨i, rfl, h.1, h.2.1, h.2.2⟩
/-- The slice v holds the numbers zs, in a block behind W0's. -/
def RowI (W0 w : World) (v : Value) (zs : List Int) : Prop := w.ownsRow W0.heap.size 3 1 v zs.length (zs.map (Value.int .i64))
theorem RowI.nil (W0 w : World) : RowI W0 w (.slice none 0 0) [] := World.ownsRow_nil _ _ _ _
theorem RowI.q {W0 w w' : World} {v : Value} {zs : List Int} (h : RowI W0 w v zs) (hq : Q w w') : RowI W0 w' v zs := ownsRow_q h hq
theorem RowI.grown {W0 w w' : World} {v v' u : Value} {zs : List Int} (h : RowI W0 w u zs) (hg : Grown W0.heap.size v v' w w') (ha : Apart v u) : RowI W0 w' u zs ∧ Apart v' u := hg _ _ _ _ _ h ha
theorem wpList_app_int {ops : Array Oper} {rest : List Oper} {o : Oper} {a : Act} {w : World} {Q' : Exit → Act → World → Prop} (hgd : o.guard = none) (s x : Operand)
  (ho : o.op = .call { callee := .builtin .append, args := #[s, x], argTypes := #[61, 61] }) (W0 : World) (v : Value) (zs : List Int) (z : Int) (g : Nat)
  (hs : a.eval s = v) (hx : a.eval x = .slice (some ⟨g, 0, none⟩) 1 1) (hown : RowI W0 w v zs) (hg : w.cell? ⟨g, 0, none⟩ = some (.int .i64 z)) (hlen : zs.length < 1000000) (hQ : Q W0 w)
  (h : ∀ v' kk, RowI W0 (W0.jk kk) v' (zs ++ [z]) → Grown W0.heap.size v v' w (W0.jk kk) → wpList Tryz.prog ops Q' rest (a.put o.dst v') (W0.jk kk)) : wpList Tryz.prog ops Q' (o :: rest) a w := by
 obtain ⟨i, hi, hz, hs1, hb⟩ := infoInt
 refine wpList_app hgd s x 61 ho W0 3 i (.int .i64 0) 1 8 Tryz.underlying61 hi hz hs1 hb rfl (by decide) v _ _ hs hown ⟨g, 0, none⟩ 1 1 [.int .i64 z] hx rfl ?_ ?_ (by unfold maxLen; omega) (by omega) hQ ?_
 ·intro j u hj
  match j, hj with
  | 0, hj => simp at hj; subst hj; simpa [Addr.add] using hg
 ·intro u hu
  simp at hu
  subst hu
  rfl
 ·intro v' kk h1 h2
  refine h v' kk ?_ h2
  unfold RowI
  simpa using h1
/-- A slice of n numbers. -/
theorem RowI.win {W0 w : World} {v : Value} {zs : List Int} (h : RowI W0 w v zs) (hn : zs ≠ []) : ∃ g c, v = .slice (some ⟨g, 0, none⟩) zs.length c ∧ W0.heap.size ≤ g ∧ ∀ k, k < zs.length → w.cell? ⟨g, k, none⟩ = some (.int .i64 (zs.getD k 0)) := by
 have hl : zs.length ≠ 0 := fun e => hn (List.eq_nil_of_length_eq_zero e)
 have hlt := h
 rcases h.2 with ⟨_, h0⟩ | ⟨g, cap, cur, rfl, hb, hg, hc, _, hcs, htake⟩
 ·exact absurd h0 hl
 ·refine ⟨g, cap, rfl, hb, fun k hk => ?_⟩
  have := hlt.cells (g := g) rfl k (.int .i64 (zs.getD k 0)) (by simp [List.getD, hk])
  have e : (⟨g, 0, none⟩ : Addr).add k = ⟨g, k, none⟩ := by unfold Addr.add; split <;> simp_all
  rw [e] at this
  exact this
end Go.Proofs.YtcjflafjmdfanaaGreatDoor
/- Slices of whatever elements, as they lie in memory: the cells one behind the other. -/
namespace Go
open Go.RowKit
/-- The slice A, n, c of elements of 'size' cells holds the cells vs. -/
def RdV (w : World) (A : Option Addr) (n c size : Nat) (vs : List Value) : Prop :=
 vs.length = n * size ∧ n ≤ c ∧ (0 < n → ∃ g o, A = some ⟨g, o, none⟩ ∧ g < w.heap.size ∧ ∀ i u, vs[i]? = some u → w.cell? ⟨g, o + i, none⟩ = some u) ∧ (A = none → c = 0)
theorem RdV.q {w w' : World} {A : Option Addr} {n c size : Nat} {vs : List Value} (h : RdV w A n c size vs) (hq : Q w w') : RdV w' A n c size vs := by
 refine ⟨h.1, h.2.1, fun hn => ?_, h.2.2.2⟩
 obtain ⟨g, o, rfl, hg, hc⟩ := h.2.2.1 hn
 have hb := hq.below
 exact ⟨g, o, rfl, Nat.lt_of_lt_of_le hg hb.size, fun i u hi => (hb.cell (p := ⟨g, o + i, none⟩) hg).trans (hc i u hi)⟩
theorem RdV.nil (w : World) (size : Nat) : RdV w none 0 0 size [] := ⟨by simp, Nat.zero_le _, fun h => absurd h (by omega), fun _ => rfl⟩
theorem RdV.nil' (w : World) (size : Nat) (ad : Addr) (c : Nat) : RdV w (some ad) 0 c size [] := ⟨by simp, Nat.zero_le _, fun h => absurd h (by omega), fun h => by cases h⟩
theorem RdV.at_ {w : World} {A : Option Addr} {n c size : Nat} {vs : List Value} (h : RdV w A n c size vs) (hn : 0 < n) : ∃ g o, A = some ⟨g, o, none⟩ ∧ Old g w ∧ Hid (∀ i u, vs[i]? = some u → w.cell? ⟨g, o + i, none⟩ = some u) := by
 obtain ⟨g, o, e, hg, hc⟩ := h.2.2.1 hn
 exact ⟨g, o, e, ⟨hg⟩, Lib.hid hc⟩
/-- A part of a slice. -/
theorem RdV.part {w : World} {g o n c size : Nat} {vs : List Value} (h : RdV w (some ⟨g, o, none⟩) n c size vs) (lo hi c' : Nat) (h1 : lo ≤ hi) (h2 : hi ≤ n) (h3 : hi - lo ≤ c') :
  RdV w (some ⟨g, o + lo * size, none⟩) (hi - lo) c' size ((vs.drop (lo * size)).take ((hi - lo) * size)) := by
 have hmul : lo * size + (hi - lo) * size ≤ n * size := by rw [← Nat.add_mul]; exact Nat.mul_le_mul_right _ (by omega)
 refine ⟨by rw [List.length_take, List.length_drop, h.1]; omega, h3, fun hn => ?_, fun e => by cases e⟩
 obtain ⟨g', o', e, hg, hc⟩ := h.2.2.1 (by omega)
 cases e
 refine ⟨g, _, rfl, hg, fun i u hi => ?_⟩
 rw [List.getElem?_take] at hi
 split at hi
 ·rw [List.getElem?_drop] at hi
  have := hc _ u hi
  rwa [show o + lo * size + i = o + (lo * size + i) by omega]
 ·cases hi
/-- What lies in new blocks is not touched by a store into an old one. -/
theorem RdV.swap {W W' : World} {k : Jk} {A : Option Addr} {n c size : Nat} {vs : List Value} (hs : W.heap.size = W'.heap.size) (h : RdV (W.jk k) A n c size vs) (hf : ∀ ad, A = some ad → W.heap.size ≤ ad.block) : RdV (W'.jk k) A n c size vs := by
 refine ⟨h.1, h.2.1, fun hn => ?_, h.2.2.2⟩
 obtain ⟨g, o, rfl, hg, hc⟩ := h.2.2.1 hn
 have hge : W.heap.size ≤ g := hf ⟨g, o, .none⟩ rfl
 refine ⟨g, o, rfl, by rw [World.size_jk] at *; omega, fun i u hi => ?_⟩
 rw [← hc i u hi]
 refine World.cell?_of_block (w := W.jk k) (a := ⟨g, o + i, .none⟩) ?_
 show (W'.jk k).heap[g]? = (W.jk k).heap[g]?
 simp only [World.jk, Array.getElem?_append]
 rw [if_neg (by omega), if_neg (by omega), hs]
/-- A row that the call has made reads as its cells. -/
theorem rdv_of_own {w : World} {base size n : Nat} {e : TypeId} {v : Value} {vs : List Value} (h : w.ownsRow base e size v n vs) (hl : vs.length = n * size) : ∃ A c, v = .slice A n c ∧ RdV w A n c size vs := by
 have h' := h
 rcases h.2 with ⟨rfl, h0⟩ | ⟨g, cap, cur, rfl, hb, hg, hc, _, hcs, htake⟩
 ·obtain rfl : n = 0 := h0
  have : vs = [] := List.eq_nil_of_length_eq_zero (by rw [hl]; simp)
  subst this
  exact ⟨none, 0, rfl, RdV.nil w size⟩
 ·refine ⟨_, cap, rfl, hl, hc, fun _ => ⟨g, 0, rfl, (h'.lt g rfl).2, fun i u hi => ?_⟩, fun e => by cases e⟩
  have := h'.cells (g := g) rfl i u hi
  have e : (⟨g, 0, none⟩ : Addr).add i = ⟨g, 0 + i, none⟩ := by unfold Addr.add; split <;> simp_all
  rw [e] at this
  exact this
end Go
/- The plain arithmetic of the cyclotomic ring: numbers with four coefficients, with the errors of the program. No program in sight. -/
namespace Go.Sub

/-- A number of the ring. -/
structure Cy where
 a : Int
 b : Int
 c : Int
 d : Int
theorem Cy.ext' {x y : Cy} (h1 : x.a = y.a) (h2 : x.b = y.b) (h3 : x.c = y.c) (h4 : x.d = y.d) : x = y := by
 cases x; cases y; simp_all
/-- A number and an error. -/
structure R4 where
 v : Cy
 e : Int
/-- Surds. -/
structure Su where
 a : Int
 b : Int
structure R2 where
 v : Su
 e : Int
def brkB (l n : Int) : Bool := decide (n < -l) || decide (l < n)
def wiB (x : Cy) (l : Int) : Bool := !(brkB l x.a) && !(brkB l x.b) && !(brkB l x.c) && !(brkB l x.d)
def Cy.In (x : Cy) (l : Int) : Prop := -l ≤ x.a ∧ x.a ≤ l ∧ -l ≤ x.b ∧ x.b ≤ l ∧ -l ≤ x.c ∧ x.c ≤ l ∧ -l ≤ x.d ∧ x.d ≤ l
theorem wiB_iff (x : Cy) (l : Int) : wiB x l = true ↔ x.In l := by
 simp only [wiB, brkB, Cy.In, Bool.and_eq_true, Bool.not_eq_true', Bool.or_eq_false_iff, decide_eq_false_iff_not]
 omega
theorem wiB_of {x : Cy} {l : Int} (h : x.In l) : wiB x l = true := (wiB_iff x l).2 h
theorem wiB_in {x : Cy} {l : Int} (h : wiB x l = true) : x.In l := (wiB_iff x l).1 h
theorem Cy.In.mono {x : Cy} {l m : Int} (h : x.In l) (hm : l ≤ m) : x.In m := by unfold Cy.In at *; omega
def zeroC : Cy := ⟨0, 0, 0, 0⟩
def limR (x : Cy) : R4 := if wiB x 576460752303423488 then ⟨x, 0⟩ else ⟨zeroC, 2⟩
def Cy.add (x y : Cy) : Cy := ⟨x.a + y.a, x.b + y.b, x.c + y.c, x.d + y.d⟩
def Cy.sub (x y : Cy) : Cy := ⟨x.a - y.a, x.b - y.b, x.c - y.c, x.d - y.d⟩
def Cy.neg (x : Cy) : Cy := ⟨-x.a, -x.b, -x.c, -x.d⟩
def Cy.smul (k : Int) (x : Cy) : Cy := ⟨k * x.a, k * x.b, k * x.c, k * x.d⟩
def Cy.mul (x y : Cy) : Cy :=
  ⟨x.a*y.a - (x.b*y.d + x.c*y.c + x.d*y.b) - x.d*y.d, x.a*y.b + x.b*y.a - (x.c*y.d + x.d*y.c),
   x.a*y.c + x.b*y.b + x.c*y.a + (x.b*y.d + x.c*y.c + x.d*y.b), x.a*y.d + x.b*y.c + x.c*y.b + x.d*y.a + (x.c*y.d + x.d*y.c)⟩
def Cy.conj (x : Cy) : Cy := ⟨x.a + x.c, x.b, -x.c, -x.b - x.d⟩
/-- Times z. -/
def Cy.z (x : Cy) : Cy := ⟨-x.d, x.a, x.b + x.d, x.c⟩
/-- Times z^k. -/
def Cy.tn (x : Cy) : Nat → Cy
 | 0 => x
 | 1 => ⟨-x.d, x.a, x.b + x.d, x.c⟩
 | 2 => ⟨-x.c, -x.d, x.a + x.c, x.b + x.d⟩
 | 3 => ⟨-x.b - x.d, -x.c, x.b, x.a + x.c⟩
 | 4 => ⟨-x.a - x.c, -x.b - x.d, x.a, x.b⟩
 | 5 => ⟨-x.b, -x.a - x.c, -x.d, x.a⟩
 | 6 => ⟨-x.a, -x.b, -x.c, -x.d⟩
 | 7 => ⟨x.d, -x.a, -x.b - x.d, -x.c⟩
 | 8 => ⟨x.c, x.d, -x.a - x.c, -x.b - x.d⟩
 | 9 => ⟨x.b + x.d, x.c, -x.b, -x.a - x.c⟩
 | 10 => ⟨x.a + x.c, x.b + x.d, -x.a, -x.b⟩
 | 11 => ⟨x.b, x.a + x.c, x.d, -x.a⟩
 | _ => x
def Cy.turn (x : Cy) (k : Int) : Cy := x.tn (k % 12).toNat
def rootC (k : Int) : Cy := (Cy.mk 1 0 0 0).tn (k % 12).toNat
def addR (x y : Cy) : R4 := if wiB x 576460752303423488 && wiB y 576460752303423488 then limR (x.add y) else ⟨zeroC, 1⟩
def subR (x y : Cy) : R4 := if wiB x 576460752303423488 && wiB y 576460752303423488 then limR (x.sub y) else ⟨zeroC, 1⟩
def mulR (x y : Cy) : R4 := if wiB x 268435456 && wiB y 268435456 then ⟨x.mul y, 0⟩ else ⟨zeroC, 1⟩
def turnR (x : Cy) (k : Int) : R4 := if wiB x 576460752303423488 then limR (x.turn k) else ⟨zeroC, 1⟩
def conjR (x : Cy) : R4 := if wiB x 576460752303423488 then limR x.conj else ⟨zeroC, 1⟩
def Cy.real (x : Cy) : Su := ⟨2 * x.a + x.c, x.b⟩
def Cy.imag (x : Cy) : Su := ⟨x.b + 2 * x.d, x.c⟩
def Cy.norm (x : Cy) : Su := ⟨x.a*x.a + x.b*x.b + x.c*x.c + x.d*x.d + x.a*x.c + x.b*x.d, x.a*x.b + x.b*x.c + x.c*x.d⟩
def realR (x : Cy) : R2 := if wiB x 144115188075855872 then ⟨x.real, 0⟩ else ⟨⟨0, 0⟩, 1⟩
def imagR (x : Cy) : R2 := if wiB x 144115188075855872 then ⟨x.imag, 0⟩ else ⟨⟨0, 0⟩, 1⟩
def normR (x : Cy) : R2 := if wiB x 268435456 then ⟨x.norm, 0⟩ else ⟨⟨0, 0⟩, 1⟩

theorem bd_mul {a b n m : Int} (h : -n ≤ a) (h' : a ≤ n) (k : -m ≤ b) (k' : b ≤ m) : -(n*m) ≤ a*b ∧ a*b ≤ n*m := by
 have hn : 0 ≤ n := by omega
 have hm : 0 ≤ m := by omega
 rcases Int.le_total 0 a with ha | ha
 ·rcases Int.le_total 0 b with hb | hb
  ·have h1 := Int.mul_le_mul h' k' hb hn
   have h2 := Int.mul_nonneg ha hb
   have h3 := Int.mul_nonneg hn hm
   omega
  ·have h1 := Int.mul_le_mul h' (show -b ≤ m by omega) (show 0 ≤ -b by omega) hn
   have h2 := Int.mul_nonneg ha (show 0 ≤ -b by omega)
   rw [Int.mul_neg] at h1 h2
   have h3 := Int.mul_nonneg hn hm
   omega
 ·rcases Int.le_total 0 b with hb | hb
  ·have h1 := Int.mul_le_mul (show -a ≤ n by omega) k' hb hn
   have h2 := Int.mul_nonneg (show 0 ≤ -a by omega) hb
   rw [Int.neg_mul] at h1 h2
   have h3 := Int.mul_nonneg hn hm
   omega
  ·have h1 := Int.mul_le_mul (show -a ≤ n by omega) (show -b ≤ m by omega) (show 0 ≤ -b by omega) hn
   have h2 := Int.mul_nonneg (show 0 ≤ -a by omega) (show 0 ≤ -b by omega)
   rw [Int.neg_mul_neg] at h1 h2
   have h3 := Int.mul_nonneg hn hm
   omega

/-- The sixteen products of two numbers lie in a range. -/
structure Prods (x y : Cy) (B : Int) : Prop where
 aa : -B ≤ x.a * y.a ∧ x.a * y.a ≤ B
 ab : -B ≤ x.a * y.b ∧ x.a * y.b ≤ B
 ac : -B ≤ x.a * y.c ∧ x.a * y.c ≤ B
 ad : -B ≤ x.a * y.d ∧ x.a * y.d ≤ B
 ba : -B ≤ x.b * y.a ∧ x.b * y.a ≤ B
 bb : -B ≤ x.b * y.b ∧ x.b * y.b ≤ B
 bc : -B ≤ x.b * y.c ∧ x.b * y.c ≤ B
 bd : -B ≤ x.b * y.d ∧ x.b * y.d ≤ B
 ca : -B ≤ x.c * y.a ∧ x.c * y.a ≤ B
 cb : -B ≤ x.c * y.b ∧ x.c * y.b ≤ B
 cc : -B ≤ x.c * y.c ∧ x.c * y.c ≤ B
 cd : -B ≤ x.c * y.d ∧ x.c * y.d ≤ B
 da : -B ≤ x.d * y.a ∧ x.d * y.a ≤ B
 db : -B ≤ x.d * y.b ∧ x.d * y.b ≤ B
 dc : -B ≤ x.d * y.c ∧ x.d * y.c ≤ B
 dd : -B ≤ x.d * y.d ∧ x.d * y.d ≤ B
theorem prods_of {x y : Cy} {n m : Int} (hx : x.In n) (hy : y.In m) : Prods x y (n * m) := by
 obtain ⟨h1, h2, h3, h4, h5, h6, h7, h8⟩ := hx
 obtain ⟨k1, k2, k3, k4, k5, k6, k7, k8⟩ := hy
 constructor <;> (apply bd_mul <;> assumption)
theorem dz_cases (k : Int) : k % 12 = 0 ∨ k % 12 = 1 ∨ k % 12 = 2 ∨ k % 12 = 3 ∨ k % 12 = 4 ∨ k % 12 = 5 ∨ k % 12 = 6 ∨ k % 12 = 7 ∨ k % 12 = 8 ∨ k % 12 = 9 ∨ k % 12 = 10 ∨ k % 12 = 11 := by omega
end Go.Sub
/- What the functions of package cyclo that the sums and products are built on return: broken, within, limited, dozen, minus. -/
namespace Go.Proofs.YtcjflafjmdfanaaGreatDoor
open Go.RowKit Go.Sub

set_option maxHeartbeats 400000 in
theorem broken_any (l n : Int) (w : World) (h0 : 0 ≤ l) (h1 : l ≤ 1000000000000000000) :
  Calls Tryz.prog 123 #[.int .i64 l, .int .i64 n] w fun e w' => e = .returned (.bool (brkB l n)) ∧ w = w' := by
 by_cases h : n < -l
 ·go_enter Tryz.func123, Tryz.ntmps123
  go_wp2
  go_ret
  simp [brkB, h]
 ·by_cases h2 : l < n
  all_goals
   go_enter Tryz.func123, Tryz.ntmps123
   go_wp2
   go_ret
   simp [brkB, h, h2]

set_option maxHeartbeats 400000 in
theorem within_any (a b c d l : Int) (w : World) (h0 : 0 ≤ l) (h1 : l ≤ 1000000000000000000) :
  Calls Tryz.prog 122 #[.agg #[.int .i64 a, .int .i64 b, .int .i64 c, .int .i64 d], .int .i64 l] w fun e w' => e = .returned (.bool (wiB ⟨a, b, c, d⟩ l)) ∧ Q w w' := by
 go_enter Tryz.func122, Tryz.ntmps122
 go_wp2
 refine wp_loop_rounds 5 ?_
 repeat any_goals (rw [rounds_succ]; go_wp2_with (go_at_call 123; refine (broken_any _ _ _ h0 h1).mono ?_; rintro e w' ⟨rfl, rfl⟩))
 all_goals go_ret
 all_goals (refine ⟨?_, (Q.refl _).alloc _⟩; simp [wiB, *]; done)

set_option maxHeartbeats 400000 in
theorem limited_any (a b c d : Int) (w : World) :
  Calls Tryz.prog 125 #[.agg #[.int .i64 a, .int .i64 b, .int .i64 c, .int .i64 d]] w fun e w' => e = .returned (.tuple #[.agg #[.int .i64 (limR ⟨a, b, c, d⟩).v.a, .int .i64 (limR ⟨a, b, c, d⟩).v.b, .int .i64 (limR ⟨a, b, c, d⟩).v.c, .int .i64 (limR ⟨a, b, c, d⟩).v.d], .int .i64 (limR ⟨a, b, c, d⟩).e]) ∧ Q w w' := by
 by_cases h : wiB ⟨a, b, c, d⟩ 576460752303423488 = true
 ·go_enter Tryz.func125, Tryz.ntmps125
  go_wp2_with (go_at_call 122; refine (within_any _ _ _ _ _ _ (by omega) (by omega)).mono ?_; rintro e w' ⟨rfl, k, rfl⟩)
  refine bodyPost_ret (v := .tuple #[.agg #[.int .i64 a, .int .i64 b, .int .i64 c, .int .i64 d], .int .i64 0]) (by simp [results, Tryz.results125, go_sem]) rfl ⟨by simp [limR, h], ?_⟩
  repeat' (first | exact Q.refl _ | refine Q.alloc ?_ _ | refine Q.jk ?_ _ | refine Q.drew ?_)
 ·have h : wiB ⟨a, b, c, d⟩ 576460752303423488 = false := by simpa using h
  go_enter Tryz.func125, Tryz.ntmps125
  go_wp2_with (go_at_call 122; refine (within_any _ _ _ _ _ _ (by omega) (by omega)).mono ?_; rintro e w' ⟨rfl, k, rfl⟩)
  refine bodyPost_ret (v := .tuple #[.agg #[.int .i64 0, .int .i64 0, .int .i64 0, .int .i64 0], .int .i64 2]) (by simp [results, Tryz.results125, go_sem]) rfl ⟨by simp [limR, h, zeroC], ?_⟩
  repeat' (first | exact Q.refl _ | refine Q.alloc ?_ _ | refine Q.jk ?_ _ | refine Q.drew ?_)

set_option maxHeartbeats 400000 in
theorem dozen_any (k : Int) (w : World) :
  Calls Tryz.prog 126 #[.int .i64 k] w fun e w' => e = .returned (.int .i64 (k % 12)) ∧ w = w' := by
 have e1 : k.tmod 12 = k % 12 ∨ k.tmod 12 = k % 12 - 12 := by
  rcases Int.le_total 0 k with h | h
  ·left; exact Int.tmod_eq_emod_of_nonneg h
  ·have := Int.tmod_eq_emod (a := k) (b := 12); split at this <;> omega
 have e2 : 0 ≤ k % 12 := by omega
 have e3 : k % 12 < 12 := by omega
 by_cases h : k.tmod 12 < 0
 ·have h3 : k.tmod 12 + 12 = k % 12 := by omega
  have h4 : -12 ≤ k.tmod 12 := by omega
  have H3 := Lib.hid h3
  clear e1 e2 e3 h3
  go_enter Tryz.func126, Tryz.ntmps126
  go_wp2
  go_ret
  exact ⟨by rw [← H3.out]; rfl, rfl⟩
 ·have h3 : k.tmod 12 = k % 12 := by omega
  have H3 := Lib.hid h3
  clear e1 e2 e3 h3
  go_enter Tryz.func126, Tryz.ntmps126
  go_wp2
  go_ret
  exact ⟨by rw [← H3.out]; rfl, rfl⟩

set_option maxHeartbeats 400000 in
theorem minus_any (a b c d : Int) (w : World) (h1 : -9223372036854775807 ≤ a) (h2 : a ≤ 9223372036854775807) (h3 : -9223372036854775807 ≤ b) (h4 : b ≤ 9223372036854775807)
  (h5 : -9223372036854775807 ≤ c) (h6 : c ≤ 9223372036854775807) (h7 : -9223372036854775807 ≤ d) (h8 : d ≤ 9223372036854775807) :
  Calls Tryz.prog 127 #[.agg #[.int .i64 a, .int .i64 b, .int .i64 c, .int .i64 d]] w fun e w' => e = .returned (.agg #[.int .i64 (-a), .int .i64 (-b), .int .i64 (-c), .int .i64 (-d)]) ∧ Q w w' := by
 go_enter Tryz.func127, Tryz.ntmps127
 go_wp2
 go_rounds 5
 refine bodyPost_ret (v := .agg #[.int .i64 (-a), .int .i64 (-b), .int .i64 (-c), .int .i64 (-d)]) (by simp [results, Tryz.results127, go_sem]) rfl ⟨rfl, ?_⟩
 repeat' (first | exact Q.refl _ | refine Q.alloc ?_ _ | refine Q.jk ?_ _ | refine Q.drew ?_)
end Go.Proofs.YtcjflafjmdfanaaGreatDoor
/- What the small functions return that the laws of the sample streams reach: within, between, Count, Check and has of a ring, take. -/
set_option linter.unusedVariables false
set_option linter.unusedSimpArgs false
namespace Go.Sub
end Go.Sub
namespace Go.Proofs.YtcjflafjmdfanaaGreatDoor
open Go.RowKit Go.Sub
end Go.Proofs.YtcjflafjmdfanaaGreatDoor
/- What Check of a frame returns for a frame in its ranges; pair. -/
set_option linter.unusedVariables false
set_option linter.unusedSimpArgs false
namespace Go.Sub
def InB (lo hi : Int) (l : List Int) : Prop := ∀ k, k < l.length → lo ≤ l.getD k 0 ∧ l.getD k 0 ≤ hi
end Go.Sub
namespace Go
open Go.RowKit
/-- The slice holds the numbers. -/
def RdN (w : World) (A : Option Addr) (n c : Nat) (k : IntKind) (l : List Int) : Prop := RdV w A n c 1 (l.map (Value.int k))
theorem RdN.q {w w' : World} {A : Option Addr} {n c : Nat} {k : IntKind} {l : List Int} (h : RdN w A n c k l) (hq : Q w w') : RdN w' A n c k l := RdV.q h hq
theorem RdN.len {w : World} {A : Option Addr} {n c : Nat} {k : IntKind} {l : List Int} (h : RdN w A n c k l) : l.length = n := by
 have := h.1
 simpa using this
theorem RdN.at_ {w : World} {A : Option Addr} {n c : Nat} {k : IntKind} {l : List Int} (h : RdN w A n c k l) (hn : 0 < n) : ∃ g o, A = some ⟨g, o, none⟩ ∧ Old g w ∧ Hid (∀ i, i < n → w.cell? ⟨g, o + i, none⟩ = some (Value.int k (l.getD i 0))) := by
 obtain ⟨g, o, e, ho, hc⟩ := RdV.at_ h hn
 refine ⟨g, o, e, ho, Lib.hid fun i hi => hc.out i _ ?_⟩
 have hl := h.len
 rw [List.getElem?_map, List.getD_eq_getElem?_getD, List.getElem?_eq_getElem (by omega)]
 rfl
end Go
namespace Go.Proofs.YtcjflafjmdfanaaGreatDoor
open Go.RowKit Go.Sub
end Go.Proofs.YtcjflafjmdfanaaGreatDoor
/- Rows of numbers of a kind as cells, and copy into a row that lies ahead of other new blocks. -/
set_option linter.unusedVariables false
set_option linter.unusedSimpArgs false
namespace Go.Sub
/-- The cells of numbers of a kind. -/
def cellsN (k : IntKind) (o : List Int) : Array Value := (o.map (Value.int k)).toArray
end Go.Sub
namespace Go
open Go.RowKit Go.Sub
theorem addr_add0 (b o j : Nat) : (⟨b, o, none⟩ : Addr).add j = ⟨b, o + j, none⟩ := by unfold Addr.add; split <;> simp_all
theorem one_ints (k : IntKind) (l : List Int) : ∀ v ∈ l.map (Value.int k), v.oneCell' = true := by
 intro v hv
 obtain ⟨x, _, rfl⟩ := List.mem_map.1 hv
 rfl
theorem World.jk_alloc (w : World) (kx : Jk) (o : Obj) : (w.jk kx).alloc o = w.jk ⟨kx.os.push o, kx.n⟩ := by
 unfold World.jk World.alloc
 simp
/-- The splice that a copy makes. -/
def splice (cur : List Int) (lo : Nat) (cs : List Int) : List Int := cur.take lo ++ cs ++ cur.drop (lo + cs.length)
end Go
namespace Go.Proofs.YtcjflafjmdfanaaGreatDoor
open Go.RowKit Go.Sub
end Go.Proofs.YtcjflafjmdfanaaGreatDoor
/- Bytes put together: two bytes as a number, a number of 16 bits with a sign. Plain. -/
set_option linter.unusedVariables false
namespace Go.Sub
open Go Go.RowKit
end Go.Sub
/- A region that draws its order: its first n operations read, or call functions that make new blocks at most, in whatever order; the others follow them one by one. One walk in the order of the text serves. -/
namespace Go
section
variable {P : Program} {md : Region.Mode} {ops : Array Oper} {C : World → Prop}

/-- f operations of the head, in whatever order, then L. -/
def HeadQ (P : Program) (md : Region.Mode) (ops : Array Oper) (C : World → Prop) (n : Nat) (L : Array Bool → Act → Prop) : Nat → Array Bool → Act → Prop
 | 0, listed, a => L listed a
 | f + 1, listed, a => Region.ready md ops listed ≠ [] ∧ ∀ i ∈ Region.ready md ops listed, i < n ∧ qOp P ops C i (HeadQ P md ops C n L f (listed.setIfInBounds i true)) a

theorem HeadQ.wpAny {n g : Nat} {L : Array Bool → Act → Prop} {R : Exit → Act → World → Prop} (hL : ∀ listed a w, C w → L listed a → wpAny P md ops R g listed a w) (f : Nat) :
  ∀ (listed : Array Bool) (a : Act) (w : World), C w → HeadQ P md ops C n L f listed a → wpAny P md ops R (f + g) listed a w := by
 induction f with
 | zero => intro listed a w hw h; rw [Nat.zero_add]; exact hL _ _ _ hw h
 | succ f ih =>
  intro listed a w hw h
  rw [Nat.succ_add]
  exact ⟨fun h0 => absurd h0 h.1, fun i hi => wpOp_of_qOp hw (fun a' w' hw' h' => ih _ a' w' hw' h') (h.2 i hi).2⟩

/-- No operation of the tail comes up while one of the head is open. -/
theorem head_only {n i j : Nat} {listed : Array Bool} (hs : Region.sinkB md ops n = true) (hc : Region.chainB md ops n = true) (hn : n < ops.size) (inv : HeadInv md ops n listed)
  (hin : i < n) (hi : i ∈ Region.ready md ops listed) (hj : j ∈ Region.ready md ops listed) : j < n :=
 Nat.lt_of_not_le fun h => tail_waits hs hc hn inv _ i rfl hin (mem_ready.1 hi).1 j h hj

/-- An operation of the head that may come up may be taken first. -/
theorem HeadQ.first {n i : Nat} {oi : Oper} {v : Value} {L : Array Bool → Act → Prop} (hi : ops[i]? = some oi) (hsel : Region.noSelect ops = true)
  (hs : Region.sinkB md ops n = true) (hc : Region.chainB md ops n = true) (hn : n < ops.size) (hin : i < n)
  (hdone : ∀ listed a, L listed a → ∀ j ∈ Region.ready md ops listed, n ≤ j) (f : Nat) :
  ∀ (listed : Array Bool) (a : Act), HeadInv md ops n listed →
   (∀ j oj, ops[j]? = some oj → j ≠ i → listed.getD j true = false → (∀ e ∈ oj.after, Region.binds md e = true → e.on ≠ i) → oi.apart ops oj = true) →
   i ∈ Region.ready md ops listed → YieldsIn P ops C oi v a →
   HeadQ P md ops C n L f (listed.setIfInBounds i true) (a.put oi.dst v) → HeadQ P md ops C n L (f + 1) listed a := by
 have hsel' := Region.noSelect_spec hsel
 induction f with
 | zero =>
  intro listed a inv _ hr hy H
  refine ⟨List.ne_nil_of_mem hr, fun j hj => ⟨head_only hs hc hn inv hin hr hj, ?_⟩⟩
  rcases Nat.decEq j i with hji | hji
  ·have h1 := hdone _ _ H j (ready_mono hj hji)
   have h2 := head_only hs hc hn inv hin hr hj
   omega
  ·subst hji; exact hy.qOp hi H
 | succ f ih =>
  intro listed a inv hfree hr hy H
  refine ⟨List.ne_nil_of_mem hr, fun j hj => ?_⟩
  have hjn := head_only hs hc hn inv hin hr hj
  refine ⟨hjn, ?_⟩
  rcases Nat.decEq j i with hji | hji
  ·obtain ⟨hjun, oj, hoj, hall⟩ := mem_ready.1 hj
   have hun := getD_both (mem_ready.1 hr).1
   have hnot : ∀ e ∈ oj.after, Region.binds md e = true → e.on ≠ i := by
    intro e he hb heq
    have := hall e he hb
    rw [heq, hun] at this
    cases this
   have step := qOp_put hoj (hfree j oj hoj hji hjun hnot) (fun cs b => hsel' i oi cs b hi) (fun cs b => hsel' j oj cs b hoj) hy ((H.2 j (ready_mono hj hji)).2)
   refine qOp_mono (fun a' h3 => ih _ a' (inv.set hj hjn) ?_ (ready_mono hr (Ne.symm hji)) h3.1 ?_) step
   ·intro k ok hk hki hunk hno
    refine hfree k ok hk hki ?_ hno
    rcases Nat.decEq j k with hjk | hjk
    ·rwa [getD_set_ne true hjk] at hunk
    ·subst hjk; exact hjun
   ·rw [Array.setIfInBounds_comm _ _ hji]; exact h3.2
  ·subst hji; exact hy.qOp hi H

/-- The head in the order of the text. -/
theorem HeadQ.lex {n g : Nat} {Lq : Act → Prop} (hsel : Region.noSelect ops = true) (hs : Region.sinkB md ops n = true) (hc : Region.chainB md ops n = true) (hn : n < ops.size) (l : List Oper) :
  ∀ (k : Nat) (listed : Array Bool) (a : Act), (∀ j, j < l.length → l[j]? = ops[k + j]?) → k + l.length = n → HeadInv md ops n listed →
  Region.lexHead md ops g l.length k listed = true → wpQuiet P ops C Lq l a →
  HeadQ P md ops C n (fun listed' a' => Region.seqB md ops g n listed' = true ∧ Lq a') l.length listed a := by
 induction l with
 | nil =>
  intro k listed a _ hk _ hB h
  obtain rfl : k = n := hk
  exact ⟨hB, h⟩
 | cons o l ih =>
  intro k listed a hl hk inv hB h
  rw [List.length_cons] at hk
  have h0 : ops[k]? = some o := (hl 0 (Nat.succ_pos _)).symm
  simp only [List.length_cons, Region.lexHead, Bool.and_eq_true] at hB
  obtain ⟨⟨hr, hf⟩, hB'⟩ := hB
  have hr' : k ∈ Region.ready md ops listed := List.contains_iff_mem.1 hr
  have hst : qOp P ops C k (wpQuiet P ops C Lq l) a := by unfold qOp; rw [h0]; exact h
  obtain ⟨v, hy, hK⟩ := yieldsIn_of_qOp h0 hst
  refine HeadQ.first h0 hsel hs hc hn (by omega) (fun _ _ hL => seqB_ready hL.1) _ _ _ inv (Region.free_spec h0 hf) hr' hy (ih (k + 1) _ _ ?_ (by omega) (inv.set hr' (by omega)) hB' hK)
  intro j hj
  have := hl (j + 1) (by rw [List.length_cons]; omega)
  rwa [List.getElem?_cons_succ, show k + (j + 1) = k + 1 + j by omega] at this

theorem wp_region_tail {id : Nat} {R : Exit → Act → World → Prop} {a : Act} {w : World} {l : List Oper} (n : Nat) (hm : P.follows .mixedOrders = true) (hB : Region.lexTailB .any l.toArray n = true)
  (h : wpQuiet P l.toArray (fun w' => ∃ k, w' = w.jk k) (fun a' => ∀ w', (∃ k, w' = w.jk k) → wpList P l.toArray R (l.drop n) a' w') (l.take n) a) : (Code.region id l.toArray true).wp P R a w := by
 simp only [Region.lexTailB, Bool.and_eq_true, decide_eq_true_eq] at hB
 obtain ⟨⟨⟨⟨hsel, hn⟩, hs⟩, hc⟩, hlex⟩ := hB
 have hn' : n < l.length := by simpa using hn
 have htl : (l.take n).length = n := by rw [List.length_take]; omega
 have inv0 : HeadInv .any l.toArray n (Array.replicate l.toArray.size false) :=
  ⟨by simp, fun j oj _ hl => (by rw [getD_replicate_false] at hl; cases hl), fun t _ ht => getD_in (by simpa using ht) (getD_replicate_false _ _)⟩
 have H := HeadQ.lex (C := fun w' => ∃ k, w' = w.jk k) (md := .any) (g := l.toArray.size - n) hsel hs hc hn (l.take n) 0 _ a (fun j hj => by
  rw [htl] at hj
  simp [hj]) (by omega) inv0 (by rw [htl]; exact hlex) h
 have K := HeadQ.wpAny (R := R) (g := l.toArray.size - n) (fun listed a' w' hw' hL => by
  have := wpAny_of_seq (md := .any) (Q' := R) (l.drop n) n listed a' w' (fun j => by simp [List.getElem?_drop]) (by simpa using hL.1) (hL.2 w' hw')
  simpa using this) _ _ _ { w with drawn := w.drawn + 1 } ⟨⟨#[], w.drawn + 1⟩, by simp [World.jk]⟩ H
 refine wp_region_any hm ?_
 rw [htl, show n + (l.toArray.size - n) = l.toArray.size by simp; omega] at K
 exact K
end
end Go
set_option linter.unusedVariables false
set_option linter.unusedSimpArgs false
namespace Go
open Go.RowKit Go.Sub
/-- Block b of w holds the cells cs. -/
def HB (w : World) (b : Nat) (cs : Array Value) (t : TypeId) : Prop := w.heap[b]? = some (.cells cs t)
theorem HB.lt {w : World} {b : Nat} {cs : Array Value} {t : TypeId} (h : HB w b cs t) : b < w.heap.size := (Array.getElem?_eq_some_iff.1 h).1
theorem HB.old {w : World} {b : Nat} {cs : Array Value} {t : TypeId} (h : HB w b cs t) : Old b w := ⟨h.lt⟩
theorem HB.cell {w : World} {b : Nat} {cs : Array Value} {t : TypeId} (h : HB w b cs t) (i : Nat) : w.cell? ⟨b, i, none⟩ = cs[i]? := cell_of_row _ _ _ cs _ (0, 0) h
theorem HB.soft {w : World} {b : Nat} {cs : Array Value} {t : TypeId} (h : HB w b cs t) (i : Nat) : w.frozen? ⟨b, i, none⟩ = false := by
 have h' : w.heap[b]? = some (.cells cs t) := h
 simp [World.frozen?, h']
theorem HB.q {w w' : World} {b : Nat} {cs : Array Value} {t : TypeId} (h : HB w b cs t) (hq : Q w w') : HB w' b cs t := (hq.below.block b h.lt).trans h
theorem HB.set {w : World} {b : Nat} {cs : Array Value} {t : TypeId} (h : HB w b cs t) (i : Nat) (v : Value) : HB (w.setCell ⟨b, i, none⟩ v) b (cs.setIfInBounds i v) t := by
 have h' : w.heap[b]? = some (.cells cs t) := h
 show (w.setCell ⟨b, i, none⟩ v).heap[b]? = _
 simp [World.setCell, Array.getElem?_modify, h']
theorem HB.other {w : World} {b c i : Nat} {v : Value} {cs : Array Value} {t : TypeId} (h : HB w c cs t) (hne : b ≠ c) : HB (w.setCell ⟨b, i, none⟩ v) c cs t := by
 have h' : w.heap[c]? = some (.cells cs t) := h
 show (w.setCell ⟨b, i, none⟩ v).heap[c]? = _
 simp [World.setCell, Array.getElem?_modify, h', hne]
theorem HB.new (w : World) (cs : Array Value) (t : TypeId) (b : Nat) (hb : b = w.heap.size) : HB (w.alloc (.cells cs t)) b cs t := by subst hb; exact heap_alloc_new w _
theorem HB.jk {w : World} {b : Nat} {cs : Array Value} {t : TypeId} (h : HB w b cs t) (k : Jk) : HB (w.jk k) b cs t := (World.block_jk k b h.lt).trans h
theorem HB.alloc {w : World} {b : Nat} {cs : Array Value} {t : TypeId} (h : HB w b cs t) (o : Obj) : HB (w.alloc o) b cs t := h.q (.alloc (.refl _) _)
theorem HB.drew {w : World} {b : Nat} {cs : Array Value} {t : TypeId} (h : HB w b cs t) : HB w.drew b cs t := h
theorem wp_world {P : Program} {c : Code} {R : Exit → Act → World → Prop} {a : Act} {w : World} (h : ∀ B, B = w → Code.wp P c R a B) : Code.wp P c R a w := h w rfl
end Go
