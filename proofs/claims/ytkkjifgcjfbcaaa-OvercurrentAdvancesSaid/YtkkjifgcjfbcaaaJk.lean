
/- Helper laws, of no program: a world with new blocks behind it and some draws ('World.jk'), and regions that read and call such functions. -/
import Derived.WalkKit
import Derived.WalkSpells
import Derived.WalkLawsBesides
import Derived.Handy
import Derived.BigQuiet
import Derived.Lib.Hide
namespace Go
open Go.RowKit

/-- Some new blocks and some draws. -/
structure Jk where
  os : Array Obj
  n : Nat
instance : Inhabited Jk := ⟨⟨#[], 0⟩⟩
@[reducible] def Jk.inc (k : Jk) : Jk := ⟨k.os, k.n + 1⟩
def Jk.add (k m : Jk) : Jk := ⟨k.os ++ m.os, m.n⟩
/-- The world w with the blocks of k behind its own; so many answers have been drawn as k says. -/
def World.jk (w : World) (k : Jk) : World := { w with heap := w.heap ++ k.os, drawn := k.n }

/-- The size of a world's heap, written out. -/
class Sz (w : World) (s : outParam Nat) : Prop where
  eq : w.heap.size = s
/-- The block n lies in the world w. -/
class Old (n : Nat) (w : World) : Prop where
  lt : n < w.heap.size

section
variable {w : World}
@[go_sem] theorem Jk.os_inc (k : Jk) : k.inc.os = k.os := rfl
@[go_sem] theorem World.size_jk (k : Jk) : (w.jk k).heap.size = w.heap.size + k.os.size := by simp [World.jk]
theorem World.block_jk (k : Jk) (i : Nat) (h : i < w.heap.size) : (w.jk k).heap[i]? = w.heap[i]? := by
  simp [World.jk, Array.getElem?_append, h]
theorem World.cell?_jk_lt (k : Jk) (b i : Nat) (h : b < w.heap.size) : (w.jk k).cell? ⟨b, i, none⟩ = w.cell? ⟨b, i, none⟩ :=
  World.cell?_of_block (w := w) (a := ⟨b, i, none⟩) (World.block_jk k b h)
theorem World.frozen?_jk_lt (k : Jk) (b i : Nat) (h : b < w.heap.size) : (w.jk k).frozen? ⟨b, i, none⟩ = w.frozen? ⟨b, i, none⟩ :=
  World.frozen?_of_block (w := w) (a := ⟨b, i, none⟩) (World.block_jk k b h)
theorem World.setCell_jk_lt (k : Jk) (b i : Nat) (v : Value) (h : b < w.heap.size) : (w.jk k).setCell ⟨b, i, none⟩ v = (w.setCell ⟨b, i, none⟩ v).jk k := by
  unfold World.setCell World.jk
  congr 1
  apply Array.ext_getElem?
  intro j
  simp only [Array.getElem?_modify, Array.getElem?_append, Array.size_modify]
  by_cases hj : j < w.heap.size
  · simp [hj]
  · have : ¬ b = j := by omega
    simp [hj, this]
@[go_sem] theorem World.drew_jk (k : Jk) : (w.jk k).drew = w.jk k.inc := rfl
@[go_sem] theorem World.jk_drew (k : Jk) : w.drew.jk k = w.jk k := rfl
theorem World.jk_jk (k m : Jk) : (w.jk k).jk m = w.jk (k.add m) := by
  show World.mk _ _ _ _ _ = World.mk _ _ _ _ _
  congr 1
  simp [World.jk, Jk.add, Array.append_assoc]

instance (priority := low) Sz.base : Sz w w.heap.size := ⟨rfl⟩
instance Sz.alloc {s : Nat} (o : Obj) [h : Sz w s] : Sz (w.alloc o) (s + 1) := ⟨by simp [h.eq]⟩
instance Sz.jk {s : Nat} (k : Jk) [h : Sz w s] : Sz (w.jk k) (s + k.os.size) := ⟨by simp [World.size_jk, h.eq]⟩
instance Sz.drew {s : Nat} [h : Sz w s] : Sz w.drew s := ⟨h.eq⟩
instance Old.here {n : Nat} (o : Obj) [e : Sz w n] : Old n (w.alloc o) := ⟨by simp [e.eq]⟩
instance Old.alloc {n : Nat} (o : Obj) [h : Old n w] : Old n (w.alloc o) := ⟨by have := h.lt; simp; omega⟩
instance Old.jk {n : Nat} (k : Jk) [h : Old n w] : Old n (w.jk k) := ⟨by have := h.lt; simp [World.size_jk]; omega⟩
instance Old.drew {n : Nat} [h : Old n w] : Old n w.drew := ⟨h.lt⟩
instance Old.setCell {n : Nat} (p : Addr) (v : Value) [h : Old n w] : Old n (w.setCell p v) := ⟨by simpa using h.lt⟩
@[go_sem high] theorem World.cell?_alloc_old' (o : Obj) (n i : Nat) [h : Old n w] : (w.alloc o).cell? ⟨n, i, none⟩ = w.cell? ⟨n, i, none⟩ := World.cell?_alloc_past o n i h.lt
@[go_sem high] theorem World.frozen?_alloc_old' (o : Obj) (n i : Nat) [h : Old n w] : (w.alloc o).frozen? ⟨n, i, none⟩ = w.frozen? ⟨n, i, none⟩ := World.frozen?_alloc_past o n i h.lt
@[go_sem high] theorem World.setCell_alloc_old' (o : Obj) (n i : Nat) (v : Value) [h : Old n w] : (w.alloc o).setCell ⟨n, i, none⟩ v = (w.setCell ⟨n, i, none⟩ v).alloc o := World.setCell_alloc_past o n i v h.lt
@[go_sem] theorem World.cell?_jk (k : Jk) (n i : Nat) [h : Old n w] : (w.jk k).cell? ⟨n, i, none⟩ = w.cell? ⟨n, i, none⟩ := World.cell?_jk_lt k n i h.lt
@[go_sem] theorem World.frozen?_jk (k : Jk) (n i : Nat) [h : Old n w] : (w.jk k).frozen? ⟨n, i, none⟩ = w.frozen? ⟨n, i, none⟩ := World.frozen?_jk_lt k n i h.lt
@[go_sem] theorem World.setCell_jk (k : Jk) (n i : Nat) (v : Value) [h : Old n w] : (w.jk k).setCell ⟨n, i, none⟩ v = (w.setCell ⟨n, i, none⟩ v).jk k := World.setCell_jk_lt k n i v h.lt
end

/-- w' is w with some new blocks and some draws. -/
def Q (w w' : World) : Prop := ∃ k : Jk, w' = w.jk k
theorem Q.refl (w : World) : Q w w := ⟨⟨#[], w.drawn⟩, by simp [World.jk]⟩
theorem Q.of_below {w w' : World} (h : Below w.heap.size w w') : Q w w' := by
  refine ⟨⟨w'.heap.extract w.heap.size, w'.drawn⟩, ?_⟩
  have e : w'.heap = w.heap ++ w'.heap.extract w.heap.size := by
    apply Array.ext_getElem?
    intro i
    rw [Array.getElem?_append]
    by_cases hi : i < w.heap.size
    · rw [if_pos hi]; exact h.block i hi
    · rw [if_neg hi, Array.getElem?_extract]
      by_cases hj : i < w'.heap.size
      · rw [if_pos (by omega)]
        congr 1
        omega
      · rw [if_neg (by omega), Array.getElem?_eq_none (by omega)]
  show World.mk w'.heap w'.tape w'.drawn w'.os w'.output = World.mk _ w.tape w'.drawn w.os w.output
  rw [← e, h.tape, h.os, h.output]
theorem Q.of_eq {w w' : World} (h : w = w') : Q w w' := h ▸ Q.refl w
theorem Q.jk {a w : World} (h : Q a w) (k : Jk) : Q a (w.jk k) := by
  obtain ⟨m, rfl⟩ := h
  exact ⟨_, World.jk_jk m k⟩
theorem Q.trans {a b c : World} (h : Q a b) (h' : Q b c) : Q a c := by
  obtain ⟨k, rfl⟩ := h'
  exact h.jk k
theorem Q.alloc {a w : World} (h : Q a w) (o : Obj) : Q a (w.alloc o) := by
  refine h.trans ⟨⟨#[o], w.drawn⟩, ?_⟩
  unfold World.jk World.alloc
  simp
theorem Q.drew {a w : World} (h : Q a w) : Q a w.drew := h.trans ⟨⟨#[], w.drawn + 1⟩, by show World.mk w.heap w.tape (w.drawn + 1) w.os w.output = World.mk (w.heap ++ #[]) w.tape (w.drawn + 1) w.os w.output; simp⟩
theorem Q.drewN {a w : World} (h : Q a w) (n : Nat) : Q a (w.drewN n) := h.trans ⟨⟨#[], w.drawn + n⟩, by simp [World.jk, World.drewN]⟩
theorem Q.below {w w' : World} (h : Q w w') : Below w.heap.size w w' := by
  obtain ⟨k, rfl⟩ := h
  exact ⟨rfl, rfl, rfl, by rw [World.size_jk]; omega, fun i hi => World.block_jk k i hi⟩
theorem Q.setCell {a w : World} (h : Q a w) {b i : Nat} (hb : a.heap.size ≤ b) (v : Value) : Q a (w.setCell ⟨b, i, none⟩ v) := by
  obtain ⟨k, rfl⟩ := h
  refine ⟨⟨((a.jk k).setCell ⟨b, i, none⟩ v).heap.extract a.heap.size, k.n⟩, ?_⟩
  unfold World.jk World.setCell
  congr 1
  apply Array.ext_getElem?
  intro j
  simp only [Array.getElem?_modify, Array.getElem?_append, Array.size_modify, Array.getElem?_extract, Array.size_append]
  by_cases hj : j < a.heap.size
  · have : ¬ b = j := by omega
    simp [hj, this]
  · simp only [hj, if_false]
    by_cases hk : j - a.heap.size < k.os.size
    · have e2 : a.heap.size + (j - a.heap.size) = j := by omega
      have e4 : ¬ k.os.size ≤ j - a.heap.size := by omega
      simp [e2, hj, e4]
    · have e3 : k.os[j - a.heap.size]? = none := Array.getElem?_eq_none (by omega)
      simp [e3]

/-- A callee's contract, met in a world of the class. -/
theorem Calls.jk_of {P : Program} {f : FuncId} {args : Array Value} {w : World} {k : Jk} {v : Value}
    (h : Calls P f args (w.jk k) fun e w' => e = .returned v ∧ Q (w.jk k) w') : Calls P f args (w.jk k) fun e w'' => e = .returned v ∧ ∃ m, w'' = w.jk m :=
  h.mono fun _ _ ⟨he, m, hm⟩ => ⟨he, k.add m, by rw [hm, World.jk_jk]⟩
theorem Calls.jk_of_same {P : Program} {f : FuncId} {args : Array Value} {w : World} {k : Jk} {v : Value}
    (h : Calls P f args (w.jk k) fun e w' => e = .returned v ∧ w.jk k = w') : Calls P f args (w.jk k) fun e w'' => e = .returned v ∧ ∃ m, w'' = w.jk m :=
  h.mono fun _ _ ⟨he, hm⟩ => ⟨he, k, hm.symm⟩

/-- A region that draws its order, whose operations read and whose callees make new blocks at most: one walk in the order of the text. -/
theorem wp_region_jk {P : Program} {id : Nat} {R : Exit → Act → World → Prop} {a : Act} {w : World} {l : List Oper} (hm : P.follows .mixedOrders = true) (hB : Region.lexB .any l.toArray = true)
    (h : wpQuiet P l.toArray (fun w' => ∃ k, w' = w.jk k) (fun a' => ∀ w', (∃ k, w' = w.jk k) → R .normal a' w') l a) : (Code.region id l.toArray true).wp P R a w :=
  wp_region_quiet (C := fun w' => ∃ k, w' = w.jk k) hm hB ⟨⟨#[], w.drawn + 1⟩, by simp [World.jk]⟩ (by simpa using h)
class QI (a w : World) : Prop where
  q : Q a w
theorem Q.i {a w : World} [h : QI a w] : Q a w := h.q
instance QI.drew {a w : World} [h : QI a w] : QI a w.drew := ⟨h.q.drew⟩
instance QI.jk {a w : World} [h : QI a w] {k : Jk} : QI a (w.jk k) := ⟨Q.jk h.q k⟩
instance QI.alloc {a w : World} [h : QI a w] {o : Obj} : QI a (w.alloc o) := ⟨Q.alloc h.q o⟩
instance QI.inc {w : World} {k : Jk} : QI (w.jk k) (w.jk k.inc) := ⟨(Q.refl _).drew⟩
instance QI.refl {a : World} : QI a a := ⟨Q.refl a⟩
instance QI.dl {a w : World} {k : Jk} [h : QI (a.jk k) w] : QI (a.drew.jk k) w := ⟨h.q⟩
theorem Calls.q {P : Program} {f : FuncId} {args : Array Value} {w : World} {v : Ending} {R : Ending → World → Prop} (h : Calls P f args w fun e w' => e = v ∧ Q w w') (h2 : ∀ k, R v (w.jk k)) : Calls P f args w R := h.mono fun e w' h => by
  obtain ⟨rfl, k, rfl⟩ := h
  exact h2 k
theorem hh {p : Prop} (h : p) : Hid p := Lib.hid h
theorem wq0 {P : Program} {ops : Array Oper} {C : World → Prop} {w : World} {R : Act → World → Prop} {a : Act} (h : ∀ k, R a (w.jk k)) : wpQuiet P ops C (fun a' => ∀ w', (∃ k, w' = w.jk k) → R a' w') [] a := wpQuiet_nil fun _ h2 => by
 obtain ⟨k, rfl⟩ := h2
 exact h k
theorem Calls.p {P : Program} {f : FuncId} {args : Array Value} {w : World} {v : Ending} {R : Ending → World → Prop} (h : Calls P f args w fun e w' => e = v ∧ w = w') (h2 : R v w) : Calls P f args w R := h.mono fun _ _ h => h.1 ▸ h.2 ▸ h2
theorem RowKit.Hid.o {p : Prop} (h : Hid p) : p := h.out
end Go
