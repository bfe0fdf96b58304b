
/- What times and Scale of package surd return. -/
import Derived.WalkKit
import Derived.WalkSpells
import Derived.WalkLawsBesides
import Derived.Handy
import Derived.BigQuiet
import Derived.Lib.Hide
import Derived.Test.YtcjflafjmdfanaaGreatDoorRows
import Derived.Laws.MathBits
set_option maxHeartbeats 64000000
set_option linter.unusedSimpArgs false
set_option linter.unusedVariables false
/- Helper laws, of no program: a world with new blocks behind it and some draws ('World.jk'), and regions that read and call such functions. -/
namespace Go
open Go.RowKit
structure Jk where
 os : Array Obj
 n : Nat
instance : Inhabited Jk := ⟨⟨#[], 0⟩⟩
@[reducible] def Jk.inc (k : Jk) : Jk := ⟨k.os, k.n + 1⟩
def Jk.add (k m : Jk) : Jk := ⟨k.os ++ m.os, m.n⟩
def World.jk (w : World) (k : Jk) : World := { w with heap := w.heap ++ k.os, drawn := k.n }
class Sz (w : World) (s : outParam Nat) : Prop where
 eq : w.heap.size = s
class Old (n : Nat) (w : World) : Prop where
 lt : n < w.heap.size
section
variable {w : World}
@[go_sem] theorem Jk.os_inc (k : Jk) : k.inc.os = k.os := rfl
@[go_sem] theorem World.size_jk (k : Jk) : (w.jk k).heap.size = w.heap.size + k.os.size := by simp [World.jk]
theorem World.block_jk (k : Jk) (i : Nat) (h : i < w.heap.size) : (w.jk k).heap[i]? = w.heap[i]? := by
 simp [World.jk, Array.getElem?_append, h]
theorem World.cell?_jk_lt (k : Jk) (b i : Nat) (h : b < w.heap.size) : (w.jk k).cell? ⟨b, i, none⟩ = w.cell? ⟨b, i, none⟩ :=
 World.cell?_of_block (w := w) (a := ⟨b, i, none⟩) (World.block_jk k b h)
theorem World.frozen?_jk_lt (k : Jk) (b i : Nat) (h : b < w.heap.size) : (w.jk k).frozen? ⟨b, i, none⟩ = w.frozen? ⟨b, i, none⟩ :=
 World.frozen?_of_block (w := w) (a := ⟨b, i, none⟩) (World.block_jk k b h)
theorem World.setCell_jk_lt (k : Jk) (b i : Nat) (v : Value) (h : b < w.heap.size) : (w.jk k).setCell ⟨b, i, none⟩ v = (w.setCell ⟨b, i, none⟩ v).jk k := by
 unfold World.setCell World.jk
 congr 1
 apply Array.ext_getElem?
 intro j
 simp only [Array.getElem?_modify, Array.getElem?_append, Array.size_modify]
 by_cases hj : j < w.heap.size
 ·simp [hj]
 have : ¬ b = j := by omega
 simp [hj, this]
@[go_sem] theorem World.drew_jk (k : Jk) : (w.jk k).drew = w.jk k.inc := rfl
@[go_sem] theorem World.jk_drew (k : Jk) : w.drew.jk k = w.jk k := rfl
theorem World.jk_jk (k m : Jk) : (w.jk k).jk m = w.jk (k.add m) := by
 show World.mk _ _ _ _ _ = World.mk _ _ _ _ _
 congr 1
 simp [World.jk, Jk.add, Array.append_assoc]
instance (priority := low) Sz.base : Sz w w.heap.size := ⟨rfl⟩
instance Sz.alloc {s : Nat} (o : Obj) [h : Sz w s] : Sz (w.alloc o) (s + 1) := ⟨by simp [h.eq]⟩
instance Sz.jk {s : Nat} (k : Jk) [h : Sz w s] : Sz (w.jk k) (s + k.os.size) := ⟨by simp [World.size_jk, h.eq]⟩
instance Sz.drew {s : Nat} [h : Sz w s] : Sz w.drew s := ⟨h.eq⟩
instance Old.here {n : Nat} (o : Obj) [e : Sz w n] : Old n (w.alloc o) := ⟨by simp [e.eq]⟩
instance Old.alloc {n : Nat} (o : Obj) [h : Old n w] : Old n (w.alloc o) := ⟨by have := h.lt; simp; omega⟩
instance Old.jk {n : Nat} (k : Jk) [h : Old n w] : Old n (w.jk k) := ⟨by have := h.lt; simp [World.size_jk]; omega⟩
instance Old.drew {n : Nat} [h : Old n w] : Old n w.drew := ⟨h.lt⟩
instance Old.setCell {n : Nat} (p : Addr) (v : Value) [h : Old n w] : Old n (w.setCell p v) := ⟨by simpa using h.lt⟩
@[go_sem high] theorem World.cell?_alloc_old' (o : Obj) (n i : Nat) [h : Old n w] : (w.alloc o).cell? ⟨n, i, none⟩ = w.cell? ⟨n, i, none⟩ := World.cell?_alloc_past o n i h.lt
@[go_sem high] theorem World.frozen?_alloc_old' (o : Obj) (n i : Nat) [h : Old n w] : (w.alloc o).frozen? ⟨n, i, none⟩ = w.frozen? ⟨n, i, none⟩ := World.frozen?_alloc_past o n i h.lt
@[go_sem high] theorem World.setCell_alloc_old' (o : Obj) (n i : Nat) (v : Value) [h : Old n w] : (w.alloc o).setCell ⟨n, i, none⟩ v = (w.setCell ⟨n, i, none⟩ v).alloc o := World.setCell_alloc_past o n i v h.lt
@[go_sem] theorem World.cell?_jk (k : Jk) (n i : Nat) [h : Old n w] : (w.jk k).cell? ⟨n, i, none⟩ = w.cell? ⟨n, i, none⟩ := World.cell?_jk_lt k n i h.lt
@[go_sem] theorem World.frozen?_jk (k : Jk) (n i : Nat) [h : Old n w] : (w.jk k).frozen? ⟨n, i, none⟩ = w.frozen? ⟨n, i, none⟩ := World.frozen?_jk_lt k n i h.lt
@[go_sem] theorem World.setCell_jk (k : Jk) (n i : Nat) (v : Value) [h : Old n w] : (w.jk k).setCell ⟨n, i, none⟩ v = (w.setCell ⟨n, i, none⟩ v).jk k := World.setCell_jk_lt k n i v h.lt
end
def Q (w w' : World) : Prop := ∃ k : Jk, w' = w.jk k
theorem Q.refl (w : World) : Q w w := ⟨⟨#[], w.drawn⟩, by simp [World.jk]⟩
theorem Q.of_below {w w' : World} (h : Below w.heap.size w w') : Q w w' := by
 refine ⟨⟨w'.heap.extract w.heap.size, w'.drawn⟩, ?_⟩
 have e : w'.heap = w.heap ++ w'.heap.extract w.heap.size := by
  apply Array.ext_getElem?
  intro i
  rw [Array.getElem?_append]
  by_cases hi : i < w.heap.size
  ·rw [if_pos hi]; exact h.block i hi
  rw [if_neg hi, Array.getElem?_extract]
  by_cases hj : i < w'.heap.size
  rotate_left
  ·rw [if_neg (by omega), Array.getElem?_eq_none (by omega)]
  rw [if_pos (by omega)]
  congr 1
  omega
 show World.mk w'.heap w'.tape w'.drawn w'.os w'.output = World.mk _ w.tape w'.drawn w.os w.output
 rw [← e, h.tape, h.os, h.output]
theorem Q.jk {a w : World} (h : Q a w) (k : Jk) : Q a (w.jk k) := by
 obtain ⟨m, rfl⟩ := h
 exact ⟨_, World.jk_jk m k⟩
theorem Q.trans {a b c : World} (h : Q a b) (h' : Q b c) : Q a c := by
 obtain ⟨k, rfl⟩ := h'
 exact h.jk k
theorem Q.alloc {a w : World} (h : Q a w) (o : Obj) : Q a (w.alloc o) := by
 refine h.trans ⟨⟨#[o], w.drawn⟩, ?_⟩
 unfold World.jk World.alloc
 simp
theorem Q.drew {a w : World} (h : Q a w) : Q a w.drew := h.trans ⟨⟨#[], w.drawn + 1⟩, by show World.mk w.heap w.tape (w.drawn + 1) w.os w.output = World.mk (w.heap ++ #[]) w.tape (w.drawn + 1) w.os w.output; simp⟩
theorem Q.below {w w' : World} (h : Q w w') : Below w.heap.size w w' := by
 obtain ⟨k, rfl⟩ := h
 exact ⟨rfl, rfl, rfl, by rw [World.size_jk]; omega, fun i hi => World.block_jk k i hi⟩
theorem Q.setCell {a w : World} (h : Q a w) {b i : Nat} (hb : a.heap.size ≤ b) (v : Value) : Q a (w.setCell ⟨b, i, none⟩ v) := by
 obtain ⟨k, rfl⟩ := h
 refine ⟨⟨((a.jk k).setCell ⟨b, i, none⟩ v).heap.extract a.heap.size, k.n⟩, ?_⟩
 unfold World.jk World.setCell
 congr 1
 apply Array.ext_getElem?
 intro j
 simp only [Array.getElem?_modify, Array.getElem?_append, Array.size_modify, Array.getElem?_extract, Array.size_append]
 by_cases hj : j < a.heap.size
 ·have : ¬ b = j := by omega
  simp [hj, this]
 simp only [hj, if_false]
 by_cases hk : j - a.heap.size < k.os.size
 rotate_left
 ·have e3 : k.os[j - a.heap.size]? = none := Array.getElem?_eq_none (by omega)
  simp [e3]
 have e2 : a.heap.size + (j - a.heap.size) = j := by omega
 have e4 : ¬ k.os.size ≤ j - a.heap.size := by omega
 simp [e2, hj, e4]
theorem Calls.jk_of {P : Program} {f : FuncId} {args : Array Value} {w : World} {k : Jk} {v : Value}
  (h : Calls P f args (w.jk k) fun e w' => e = .returned v ∧ Q (w.jk k) w') : Calls P f args (w.jk k) fun e w'' => e = .returned v ∧ ∃ m, w'' = w.jk m :=
 h.mono fun _ _ ⟨he, m, hm⟩ => ⟨he, k.add m, by rw [hm, World.jk_jk]⟩
theorem Calls.jk_of_same {P : Program} {f : FuncId} {args : Array Value} {w : World} {k : Jk} {v : Value}
  (h : Calls P f args (w.jk k) fun e w' => e = .returned v ∧ w.jk k = w') : Calls P f args (w.jk k) fun e w'' => e = .returned v ∧ ∃ m, w'' = w.jk m :=
 h.mono fun _ _ ⟨he, hm⟩ => ⟨he, k, hm.symm⟩
theorem wp_region_jk {P : Program} {id : Nat} {R : Exit → Act → World → Prop} {a : Act} {w : World} {l : List Oper} (hm : P.follows .mixedOrders = true) (hB : Region.lexB .any l.toArray = true)
  (h : wpQuiet P l.toArray (fun w' => ∃ k, w' = w.jk k) (fun a' => ∀ w', (∃ k, w' = w.jk k) → R .normal a' w') l a) : (Code.region id l.toArray true).wp P R a w :=
 wp_region_quiet (C := fun w' => ∃ k, w' = w.jk k) hm hB ⟨⟨#[], w.drawn + 1⟩, by simp [World.jk]⟩ (by simpa using h)
class QI (a w : World) : Prop where
 q : Q a w
theorem Q.i {a w : World} [h : QI a w] : Q a w := h.q
instance QI.drew {a w : World} [h : QI a w] : QI a w.drew := ⟨h.q.drew⟩
instance QI.jk {a w : World} [h : QI a w] {k : Jk} : QI a (w.jk k) := ⟨Q.jk h.q k⟩
instance QI.alloc {a w : World} [h : QI a w] {o : Obj} : QI a (w.alloc o) := ⟨Q.alloc h.q o⟩
instance QI.inc {w : World} {k : Jk} : QI (w.jk k) (w.jk k.inc) := ⟨(Q.refl _).drew⟩
instance QI.refl {a : World} : QI a a := ⟨Q.refl a⟩
instance QI.dl {a w : World} {k : Jk} [h : QI (a.jk k) w] : QI (a.drew.jk k) w := ⟨h.q⟩
theorem Calls.q {P : Program} {f : FuncId} {args : Array Value} {w : World} {v : Ending} {R : Ending → World → Prop} (h : Calls P f args w fun e w' => e = v ∧ Q w w') (h2 : ∀ k, R v (w.jk k)) : Calls P f args w R := h.mono fun e w' h => by
 obtain ⟨rfl, k, rfl⟩ := h
 exact h2 k
theorem hh {p : Prop} (h : p) : Hid p := Lib.hid h
theorem wq0 {P : Program} {ops : Array Oper} {C : World → Prop} {w : World} {R : Act → World → Prop} {a : Act} (h : ∀ k, R a (w.jk k)) : wpQuiet P ops C (fun a' => ∀ w', (∃ k, w' = w.jk k) → R a' w') [] a := wpQuiet_nil fun _ h2 => by
 obtain ⟨k, rfl⟩ := h2
 exact h k
theorem Calls.p {P : Program} {f : FuncId} {args : Array Value} {w : World} {v : Ending} {R : Ending → World → Prop} (h : Calls P f args w fun e w' => e = v ∧ w = w') (h2 : R v w) : Calls P f args w R := h.mono fun _ _ h => h.1 ▸ h.2 ▸ h2
theorem RowKit.Hid.o {p : Prop} (h : Hid p) : p := h.out
end Go
/- The plain arithmetic of the cyclotomic ring: numbers with four coefficients, with the errors of the program. No program in sight. -/
namespace Go.Sub
structure Cy where
 a : Int
 b : Int
 c : Int
 d : Int
theorem Cy.ext' {x y : Cy} (h1 : x.a = y.a) (h2 : x.b = y.b) (h3 : x.c = y.c) (h4 : x.d = y.d) : x = y := by
 cases x; cases y; simp_all
structure R4 where
 v : Cy
 e : Int
structure Su where
 a : Int
 b : Int
structure R2 where
 v : Su
 e : Int
def brkB (l n : Int) : Bool := decide (n < -l) || decide (l < n)
def wiB (x : Cy) (l : Int) : Bool := !(brkB l x.a) && !(brkB l x.b) && !(brkB l x.c) && !(brkB l x.d)
def Cy.In (x : Cy) (l : Int) : Prop := -l ≤ x.a ∧ x.a ≤ l ∧ -l ≤ x.b ∧ x.b ≤ l ∧ -l ≤ x.c ∧ x.c ≤ l ∧ -l ≤ x.d ∧ x.d ≤ l
theorem wiB_iff (x : Cy) (l : Int) : wiB x l = true ↔ x.In l := by
 simp only [wiB, brkB, Cy.In, Bool.and_eq_true, Bool.not_eq_true', Bool.or_eq_false_iff, decide_eq_false_iff_not]
 omega
theorem wiB_of {x : Cy} {l : Int} (h : x.In l) : wiB x l = true := (wiB_iff x l).2 h
theorem wiB_in {x : Cy} {l : Int} (h : wiB x l = true) : x.In l := (wiB_iff x l).1 h
theorem Cy.In.mono {x : Cy} {l m : Int} (h : x.In l) (hm : l ≤ m) : x.In m := by unfold Cy.In at *; omega
def zeroC : Cy := ⟨0, 0, 0, 0⟩
def limR (x : Cy) : R4 := if wiB x 576460752303423488 then ⟨x, 0⟩ else ⟨zeroC, 2⟩
def Cy.add (x y : Cy) : Cy := ⟨x.a + y.a, x.b + y.b, x.c + y.c, x.d + y.d⟩
def Cy.sub (x y : Cy) : Cy := ⟨x.a - y.a, x.b - y.b, x.c - y.c, x.d - y.d⟩
def Cy.neg (x : Cy) : Cy := ⟨-x.a, -x.b, -x.c, -x.d⟩
def Cy.smul (k : Int) (x : Cy) : Cy := ⟨k * x.a, k * x.b, k * x.c, k * x.d⟩
def Cy.mul (x y : Cy) : Cy :=
  ⟨x.a*y.a - (x.b*y.d + x.c*y.c + x.d*y.b) - x.d*y.d, x.a*y.b + x.b*y.a - (x.c*y.d + x.d*y.c),
   x.a*y.c + x.b*y.b + x.c*y.a + (x.b*y.d + x.c*y.c + x.d*y.b), x.a*y.d + x.b*y.c + x.c*y.b + x.d*y.a + (x.c*y.d + x.d*y.c)⟩
def Cy.conj (x : Cy) : Cy := ⟨x.a + x.c, x.b, -x.c, -x.b - x.d⟩
def Cy.z (x : Cy) : Cy := ⟨-x.d, x.a, x.b + x.d, x.c⟩
def Cy.tn (x : Cy) : Nat → Cy
 | 0 => x
 | 1 => ⟨-x.d, x.a, x.b + x.d, x.c⟩
 | 2 => ⟨-x.c, -x.d, x.a + x.c, x.b + x.d⟩
 | 3 => ⟨-x.b - x.d, -x.c, x.b, x.a + x.c⟩
 | 4 => ⟨-x.a - x.c, -x.b - x.d, x.a, x.b⟩
 | 5 => ⟨-x.b, -x.a - x.c, -x.d, x.a⟩
 | 6 => ⟨-x.a, -x.b, -x.c, -x.d⟩
 | 7 => ⟨x.d, -x.a, -x.b - x.d, -x.c⟩
 | 8 => ⟨x.c, x.d, -x.a - x.c, -x.b - x.d⟩
 | 9 => ⟨x.b + x.d, x.c, -x.b, -x.a - x.c⟩
 | 10 => ⟨x.a + x.c, x.b + x.d, -x.a, -x.b⟩
 | 11 => ⟨x.b, x.a + x.c, x.d, -x.a⟩
 | _ => x
def Cy.turn (x : Cy) (k : Int) : Cy := x.tn (k % 12).toNat
def rootC (k : Int) : Cy := (Cy.mk 1 0 0 0).tn (k % 12).toNat
def addR (x y : Cy) : R4 := if wiB x 576460752303423488 && wiB y 576460752303423488 then limR (x.add y) else ⟨zeroC, 1⟩
def subR (x y : Cy) : R4 := if wiB x 576460752303423488 && wiB y 576460752303423488 then limR (x.sub y) else ⟨zeroC, 1⟩
def mulR (x y : Cy) : R4 := if wiB x 268435456 && wiB y 268435456 then ⟨x.mul y, 0⟩ else ⟨zeroC, 1⟩
def turnR (x : Cy) (k : Int) : R4 := if wiB x 576460752303423488 then limR (x.turn k) else ⟨zeroC, 1⟩
def conjR (x : Cy) : R4 := if wiB x 576460752303423488 then limR x.conj else ⟨zeroC, 1⟩
def Cy.real (x : Cy) : Su := ⟨2 * x.a + x.c, x.b⟩
def Cy.imag (x : Cy) : Su := ⟨x.b + 2 * x.d, x.c⟩
def Cy.norm (x : Cy) : Su := ⟨x.a*x.a + x.b*x.b + x.c*x.c + x.d*x.d + x.a*x.c + x.b*x.d, x.a*x.b + x.b*x.c + x.c*x.d⟩
def realR (x : Cy) : R2 := if wiB x 144115188075855872 then ⟨x.real, 0⟩ else ⟨⟨0, 0⟩, 1⟩
def imagR (x : Cy) : R2 := if wiB x 144115188075855872 then ⟨x.imag, 0⟩ else ⟨⟨0, 0⟩, 1⟩
def normR (x : Cy) : R2 := if wiB x 268435456 then ⟨x.norm, 0⟩ else ⟨⟨0, 0⟩, 1⟩
theorem bd_mul {a b n m : Int} (h : -n ≤ a) (h' : a ≤ n) (k : -m ≤ b) (k' : b ≤ m) : -(n*m) ≤ a*b ∧ a*b ≤ n*m := by
 have hn : 0 ≤ n := by omega
 have hm : 0 ≤ m := by omega
 rcases Int.le_total 0 a with ha | ha
 ·rcases Int.le_total 0 b with hb | hb
  ·have h1 := Int.mul_le_mul h' k' hb hn
   have h2 := Int.mul_nonneg ha hb
   have h3 := Int.mul_nonneg hn hm
   omega
  have h1 := Int.mul_le_mul h' (show -b ≤ m by omega) (show 0 ≤ -b by omega) hn
  have h2 := Int.mul_nonneg ha (show 0 ≤ -b by omega)
  rw [Int.mul_neg] at h1 h2
  have h3 := Int.mul_nonneg hn hm
  omega
 rcases Int.le_total 0 b with hb | hb
 ·have h1 := Int.mul_le_mul (show -a ≤ n by omega) k' hb hn
  have h2 := Int.mul_nonneg (show 0 ≤ -a by omega) hb
  rw [Int.neg_mul] at h1 h2
  have h3 := Int.mul_nonneg hn hm
  omega
 have h1 := Int.mul_le_mul (show -a ≤ n by omega) (show -b ≤ m by omega) (show 0 ≤ -b by omega) hn
 have h2 := Int.mul_nonneg (show 0 ≤ -a by omega) (show 0 ≤ -b by omega)
 rw [Int.neg_mul_neg] at h1 h2
 have h3 := Int.mul_nonneg hn hm
 omega
structure Prods (x y : Cy) (B : Int) : Prop where
 aa : -B ≤ x.a * y.a ∧ x.a * y.a ≤ B
 ab : -B ≤ x.a * y.b ∧ x.a * y.b ≤ B
 ac : -B ≤ x.a * y.c ∧ x.a * y.c ≤ B
 ad : -B ≤ x.a * y.d ∧ x.a * y.d ≤ B
 ba : -B ≤ x.b * y.a ∧ x.b * y.a ≤ B
 bb : -B ≤ x.b * y.b ∧ x.b * y.b ≤ B
 bc : -B ≤ x.b * y.c ∧ x.b * y.c ≤ B
 bd : -B ≤ x.b * y.d ∧ x.b * y.d ≤ B
 ca : -B ≤ x.c * y.a ∧ x.c * y.a ≤ B
 cb : -B ≤ x.c * y.b ∧ x.c * y.b ≤ B
 cc : -B ≤ x.c * y.c ∧ x.c * y.c ≤ B
 cd : -B ≤ x.c * y.d ∧ x.c * y.d ≤ B
 da : -B ≤ x.d * y.a ∧ x.d * y.a ≤ B
 db : -B ≤ x.d * y.b ∧ x.d * y.b ≤ B
 dc : -B ≤ x.d * y.c ∧ x.d * y.c ≤ B
 dd : -B ≤ x.d * y.d ∧ x.d * y.d ≤ B
theorem prods_of {x y : Cy} {n m : Int} (hx : x.In n) (hy : y.In m) : Prods x y (n * m) := by
 obtain ⟨h1, h2, h3, h4, h5, h6, h7, h8⟩ := hx
 obtain ⟨k1, k2, k3, k4, k5, k6, k7, k8⟩ := hy
 constructor <;> (apply bd_mul <;> assumption)
theorem dz_cases (k : Int) : k % 12 = 0 ∨ k % 12 = 1 ∨ k % 12 = 2 ∨ k % 12 = 3 ∨ k % 12 = 4 ∨ k % 12 = 5 ∨ k % 12 = 6 ∨ k % 12 = 7 ∨ k % 12 = 8 ∨ k % 12 = 9 ∨ k % 12 = 10 ∨ k % 12 = 11 := by omega
end Go.Sub
/- What the functions of package cyclo that the sums and products are built on return: broken, within, limited, dozen, minus. -/
namespace Go.Proofs.YtcjflafjmdfanaaGreatDoor
open Go.RowKit Go.Sub
theorem wrj {id : Nat} {R : Exit → Act → World → Prop} {a : Act} {w : World} {l : List Oper} (hB : Region.lexB .any l.toArray = true)
 (h : wpQuiet Tryz.prog l.toArray (fun w' => ∃ k, w' = w.jk k) (fun a' => ∀ w', (∃ k, w' = w.jk k) → R .normal a' w') l a) : (Code.region id l.toArray true).wp Tryz.prog R a w := wp_region_jk (by kernel_rfl) hB h
theorem broken_any (l n : Int) (w : World) (h0 : 0 ≤ l) (h1 : l ≤ 1000000000000000000) :
  Calls Tryz.prog 123 #[.int .i64 l, .int .i64 n] w fun e w' => e = .returned (.bool (brkB l n)) ∧ w = w' := by
 by_cases h : n < -l
 ·go_enter Tryz.func123, Tryz.ntmps123
  go_wp2
  go_ret
  simp [brkB, h]
 by_cases h2 : l < n
 all_goals
  go_enter Tryz.func123, Tryz.ntmps123
  go_wp2
  go_ret
  simp [brkB, h, h2]
theorem within_any (a b c d l : Int) (w : World) (h0 : 0 ≤ l) (h1 : l ≤ 1000000000000000000) :
  Calls Tryz.prog 122 #[.agg #[.int .i64 a, .int .i64 b, .int .i64 c, .int .i64 d], .int .i64 l] w fun e w' => e = .returned (.bool (wiB ⟨a, b, c, d⟩ l)) ∧ Q w w' := by
 go_enter Tryz.func122, Tryz.ntmps122
 go_wp2
 refine wp_loop_rounds 5 ?_
 repeat any_goals (rw [rounds_succ]; go_wp2_with (go_at_call 123; refine (broken_any _ _ _ h0 h1).p ?_))
 all_goals go_ret
 all_goals (refine ⟨?_, (Q.refl _).alloc _⟩; simp [wiB, *]; done)
theorem limited_any (a b c d : Int) (w : World) :
  Calls Tryz.prog 125 #[.agg #[.int .i64 a, .int .i64 b, .int .i64 c, .int .i64 d]] w fun e w' => e = .returned (.tuple #[.agg #[.int .i64 (limR ⟨a, b, c, d⟩).v.a, .int .i64 (limR ⟨a, b, c, d⟩).v.b, .int .i64 (limR ⟨a, b, c, d⟩).v.c, .int .i64 (limR ⟨a, b, c, d⟩).v.d], .int .i64 (limR ⟨a, b, c, d⟩).e]) ∧ Q w w' := by
 by_cases h : wiB ⟨a, b, c, d⟩ 576460752303423488 = true
 ·go_enter Tryz.func125, Tryz.ntmps125
  go_wp2_with (go_at_call 122; refine (within_any _ _ _ _ _ _ (by omega) (by omega)).q ?_; intro k)
  refine bodyPost_ret (v := .tuple #[.agg #[.int .i64 a, .int .i64 b, .int .i64 c, .int .i64 d], .int .i64 0]) (by simp [results, Tryz.results125, go_sem]) rfl ⟨by simp [limR, h], ?_⟩
  exact Q.i
 have h : wiB ⟨a, b, c, d⟩ 576460752303423488 = false := by simpa using h
 go_enter Tryz.func125, Tryz.ntmps125
 go_wp2_with (go_at_call 122; refine (within_any _ _ _ _ _ _ (by omega) (by omega)).q ?_; intro k)
 refine bodyPost_ret (v := .tuple #[.agg #[.int .i64 0, .int .i64 0, .int .i64 0, .int .i64 0], .int .i64 2]) (by simp [results, Tryz.results125, go_sem]) rfl ⟨by simp [limR, h, zeroC], ?_⟩
 exact Q.i
theorem dozen_any (k : Int) (w : World) :
  Calls Tryz.prog 126 #[.int .i64 k] w fun e w' => e = .returned (.int .i64 (k % 12)) ∧ w = w' := by
 have e1 : k.tmod 12 = k % 12 ∨ k.tmod 12 = k % 12 - 12 := by
  rcases Int.le_total 0 k with h | h
  ·left; exact Int.tmod_eq_emod_of_nonneg h
  have := Int.tmod_eq_emod (a := k) (b := 12); split at this <;> omega
 have e2 : 0 ≤ k % 12 := by omega
 have e3 : k % 12 < 12 := by omega
 by_cases h : k.tmod 12 < 0
 rotate_left
 ·have h3 : k.tmod 12 = k % 12 := by omega
  have H3 := hh h3
  clear e1 e2 e3 h3
  go_enter Tryz.func126, Tryz.ntmps126
  go_wp2
  go_ret
  exact ⟨by rw [← H3.o]; rfl, rfl⟩
 have h3 : k.tmod 12 + 12 = k % 12 := by omega
 have h4 : -12 ≤ k.tmod 12 := by omega
 have H3 := hh h3
 clear e1 e2 e3 h3
 go_enter Tryz.func126, Tryz.ntmps126
 go_wp2
 go_ret
 exact ⟨by rw [← H3.o]; rfl, rfl⟩
theorem minus_any (a b c d : Int) (w : World) (h1 : -9223372036854775807 ≤ a) (h2 : a ≤ 9223372036854775807) (h3 : -9223372036854775807 ≤ b) (h4 : b ≤ 9223372036854775807)
  (h5 : -9223372036854775807 ≤ c) (h6 : c ≤ 9223372036854775807) (h7 : -9223372036854775807 ≤ d) (h8 : d ≤ 9223372036854775807) :
  Calls Tryz.prog 127 #[.agg #[.int .i64 a, .int .i64 b, .int .i64 c, .int .i64 d]] w fun e w' => e = .returned (.agg #[.int .i64 (-a), .int .i64 (-b), .int .i64 (-c), .int .i64 (-d)]) ∧ Q w w' := by
 go_enter Tryz.func127, Tryz.ntmps127
 go_wp2
 go_rounds 5
 refine bodyPost_ret (v := .agg #[.int .i64 (-a), .int .i64 (-b), .int .i64 (-c), .int .i64 (-d)]) (by simp [results, Tryz.results127, go_sem]) rfl ⟨rfl, ?_⟩
 exact Q.i
end Go.Proofs.YtcjflafjmdfanaaGreatDoor
/- The plain arithmetic of numbers A + B*sqrt(3), with the errors of the program. No program in sight. -/
namespace Go.Sub
def wi4 (l a b c d : Int) : Bool := !(brkB l a) && !(brkB l b) && !(brkB l c) && !(brkB l d)
def wi3 (l a b c : Int) : Bool := !(brkB l a) && !(brkB l b) && !(brkB l c)
def wi2 (l a b : Int) : Bool := !(brkB l a) && !(brkB l b)
theorem wi4_iff (l a b c d : Int) : wi4 l a b c d = true ↔ -l ≤ a ∧ a ≤ l ∧ -l ≤ b ∧ b ≤ l ∧ -l ≤ c ∧ c ≤ l ∧ -l ≤ d ∧ d ≤ l := by
 simp only [wi4, brkB, Bool.and_eq_true, Bool.not_eq_true', Bool.or_eq_false_iff, decide_eq_false_iff_not]
 omega
theorem wi3_iff (l a b c : Int) : wi3 l a b c = true ↔ -l ≤ a ∧ a ≤ l ∧ -l ≤ b ∧ b ≤ l ∧ -l ≤ c ∧ c ≤ l := by
 simp only [wi3, brkB, Bool.and_eq_true, Bool.not_eq_true', Bool.or_eq_false_iff, decide_eq_false_iff_not]
 omega
theorem wi2_iff (l a b : Int) : wi2 l a b = true ↔ -l ≤ a ∧ a ≤ l ∧ -l ≤ b ∧ b ≤ l := by
 simp only [wi2, brkB, Bool.and_eq_true, Bool.not_eq_true', Bool.or_eq_false_iff, decide_eq_false_iff_not]
 omega
def Su.In (x : Su) (l : Int) : Prop := -l ≤ x.a ∧ x.a ≤ l ∧ -l ≤ x.b ∧ x.b ≤ l
def Su.add (x y : Su) : Su := ⟨x.a + y.a, x.b + y.b⟩
def Su.sub (x y : Su) : Su := ⟨x.a - y.a, x.b - y.b⟩
def Su.mul (x y : Su) : Su := ⟨x.a * y.a + 3 * x.b * y.b, x.a * y.b + x.b * y.a⟩
def Su.conj (x : Su) : Su := ⟨x.a, -x.b⟩
def Su.norm (x : Su) : Int := x.a * x.a - 3 * x.b * x.b
def zeroS : Su := ⟨0, 0⟩
def limS (x : Su) : R2 := if wi2 1152921504606846976 x.a x.b then ⟨x, 0⟩ else ⟨zeroS, 2⟩
def saddR (x y : Su) : R2 := if wi4 1152921504606846976 x.a x.b y.a y.b then limS (x.add y) else ⟨zeroS, 1⟩
def ssubR (x y : Su) : R2 := if wi4 1152921504606846976 x.a x.b y.a y.b then limS (x.sub y) else ⟨zeroS, 1⟩
def smulR (x y : Su) : R2 := if wi4 268435456 x.a x.b y.a y.b then limS (x.mul y) else ⟨zeroS, 1⟩
theorem Su.ext' {x y : Su} (h1 : x.a = y.a) (h2 : x.b = y.b) : x = y := by cases x; cases y; simp_all
end Go.Sub
/- What within, limited, Add and Mul of package surd return. -/
namespace Go.Proofs.YtcjflafjmdfanaaGreatDoor
open Go.RowKit Go.Sub
theorem swithin4 (bk : Nat) (a b c d l : Int) (w : World) (h0 : 0 ≤ l) (h1 : l ≤ 4000000000000000000) (c0 : w.cell? ⟨bk, 0, none⟩ = some (.int .i64 a)) (c1 : w.cell? ⟨bk, 1, none⟩ = some (.int .i64 b)) (c2 : w.cell? ⟨bk, 2, none⟩ = some (.int .i64 c)) (c3 : w.cell? ⟨bk, 3, none⟩ = some (.int .i64 d)) :
  Calls Tryz.prog 133 #[.int .i64 l, .slice (some ⟨bk, 0, none⟩) 4 4] w fun e w' => e = .returned (.bool (wi4 l a b c d)) ∧ w = w' := by
 go_enter Tryz.func133, Tryz.ntmps133
 go_wp2
 refine wp_loop_rounds 5 ?_
 repeat any_goals (rw [rounds_succ]; go_wp2)
 all_goals go_ret
 all_goals (refine ⟨?_, rfl⟩; simp [wi4, brkB, *] <;> omega)
theorem swithin2 (bk : Nat) (a b l : Int) (w : World) (h0 : 0 ≤ l) (h1 : l ≤ 4000000000000000000) (c0 : w.cell? ⟨bk, 0, none⟩ = some (.int .i64 a)) (c1 : w.cell? ⟨bk, 1, none⟩ = some (.int .i64 b)) :
  Calls Tryz.prog 133 #[.int .i64 l, .slice (some ⟨bk, 0, none⟩) 2 2] w fun e w' => e = .returned (.bool (wi2 l a b)) ∧ w = w' := by
 go_enter Tryz.func133, Tryz.ntmps133
 go_wp2
 refine wp_loop_rounds 3 ?_
 repeat any_goals (rw [rounds_succ]; go_wp2)
 all_goals go_ret
 all_goals (refine ⟨?_, rfl⟩; simp [wi2, brkB, *] <;> omega)
theorem slimited_any (a b : Int) (w : World) :
  Calls Tryz.prog 149 #[.agg #[.int .i64 a, .int .i64 b]] w fun e w' => e = .returned (.tuple #[.agg #[.int .i64 (limS ⟨a, b⟩).v.a, .int .i64 (limS ⟨a, b⟩).v.b], .int .i64 (limS ⟨a, b⟩).e]) ∧ Q w w' := by
 by_cases h : wi2 1152921504606846976 a b = true
 ·go_enter Tryz.func149, Tryz.ntmps149
  go_wp2_with (go_at_call 133; refine (swithin2 _ a b 1152921504606846976 _ (by omega) (by omega) (by simp [go_sem]) (by simp [go_sem])).p ?_)
  refine bodyPost_ret (v := .tuple #[.agg #[.int .i64 a, .int .i64 b], .int .i64 0]) (by simp [results, Tryz.results149, go_sem]) rfl ⟨by simp [limS, h], ?_⟩
  exact Q.i
 have h : wi2 1152921504606846976 a b = false := by simpa using h
 go_enter Tryz.func149, Tryz.ntmps149
 go_wp2_with (go_at_call 133; refine (swithin2 _ a b 1152921504606846976 _ (by omega) (by omega) (by simp [go_sem]) (by simp [go_sem])).p ?_)
 refine bodyPost_ret (v := .tuple #[.agg #[.int .i64 0, .int .i64 0], .int .i64 2]) (by simp [results, Tryz.results149, go_sem]) rfl ⟨by simp [limS, h, zeroS], ?_⟩
 exact Q.i
theorem sadd_any (a b a' b' : Int) (w : World) :
  Calls Tryz.prog 132 #[.agg #[.int .i64 a, .int .i64 b], .agg #[.int .i64 a', .int .i64 b']] w fun e w' => e = .returned (.tuple #[.agg #[.int .i64 (saddR ⟨a, b⟩ ⟨a', b'⟩).v.a, .int .i64 (saddR ⟨a, b⟩ ⟨a', b'⟩).v.b], .int .i64 (saddR ⟨a, b⟩ ⟨a', b'⟩).e]) ∧ Q w w' := by
 by_cases h : wi4 1152921504606846976 a b a' b' = true
 rotate_left
 ·have h : wi4 1152921504606846976 a b a' b' = false := by simpa using h
  go_enter Tryz.func132, Tryz.ntmps132
  go_wp2_with (go_at_call 133; refine (swithin4 _ a b a' b' 1152921504606846976 _ (by omega) (by omega) (by simp [go_sem]) (by simp [go_sem]) (by simp [go_sem]) (by simp [go_sem])).p ?_)
  refine bodyPost_ret (v := .tuple #[.agg #[.int .i64 (R2.mk zeroS 1).v.a, .int .i64 (R2.mk zeroS 1).v.b], .int .i64 (R2.mk zeroS 1).e]) (by simp [results, Tryz.results132, go_sem, zeroS]) rfl ⟨by simp [saddR, h], ?_⟩
  exact Q.i
 obtain ⟨l1, l2, l3, l4, m1, m2, m3, m4⟩ := (wi4_iff _ _ _ _ _).1 h
 have hR : saddR ⟨a, b⟩ ⟨a', b'⟩ = limS ⟨a + a', b + b'⟩ := by simp [saddR, h, Su.add]
 rw [hR]
 clear hR
 go_enter Tryz.func132, Tryz.ntmps132
 go_wp2_with (first | (go_at_call 133; refine (swithin4 _ a b a' b' 1152921504606846976 _ (by omega) (by omega) (by simp [go_sem]) (by simp [go_sem]) (by simp [go_sem]) (by simp [go_sem])).p ?_) | (go_at_call 149; refine (slimited_any _ _ _).q ?_; intro kj))
 refine bodyPost_ret (v := .tuple #[.agg #[.int .i64 (limS ⟨a + a', b + b'⟩).v.a, .int .i64 (limS ⟨a + a', b + b'⟩).v.b], .int .i64 (limS ⟨a + a', b + b'⟩).e]) (by simp [results, Tryz.results132, go_sem]) rfl ⟨rfl, ?_⟩
 exact Q.i
end Go.Proofs.YtcjflafjmdfanaaGreatDoor
/- What math/bits.Mul64, and size, sign and triple of package surd return. -/
namespace Go.Sub
theorem mask32 (a : Int) (h0 : 0 ≤ a) (h1 : a < 18446744073709551616) : bits .and .u64 a 4294967295 = a % 4294967296 := by
 obtain ⟨n, rfl⟩ := Int.eq_ofNat_of_zero_le h0
 have h := bits_and_u64_nat n 4294967295 (by omega) (by omega)
 rw [Nat.and_two_pow_sub_one_eq_mod n 32] at h
 refine Eq.trans h ?_
 omega
theorem mask32w (a : Int) : bits .and .u64 (a % 18446744073709551616) 4294967295 = a % 18446744073709551616 % 4294967296 := mask32 _ (by omega) (by omega)
def sgn (n : Int) : Int := if n < 0 then -1 else if 0 < n then 1 else 0
def mag (n : Int) : Int := if n < 0 then -n else n
def sgnS (x : Su) : Int := if sgn x.a = sgn x.b ∨ sgn x.b = 0 then sgn x.a else if sgn x.a = 0 then sgn x.b else if 3 * mag x.b * mag x.b < mag x.a * mag x.a then sgn x.a else sgn x.b
theorem mag_bd {n : Int} (h0 : -9223372036854775808 ≤ n) (h1 : n ≤ 9223372036854775807) : 0 ≤ mag n ∧ mag n ≤ 9223372036854775808 := by
 unfold mag; split <;> omega
end Go.Sub
namespace Go.Proofs.YtcjflafjmdfanaaGreatDoor
open Go.RowKit Go.Sub
theorem mul64_any (x y : Int) (w : World) (hx0 : 0 ≤ x) (hx : x < 18446744073709551616) (hy0 : 0 ≤ y) (hy : y < 18446744073709551616) :
  Calls Tryz.prog 153 #[.int .u64 x, .int .u64 y] w fun e w' => e = .returned (.tuple #[.int .u64 (x * y / 18446744073709551616), .int .u64 (x * y % 18446744073709551616)]) ∧ w = w' := by
 go_enter Tryz.func153, Tryz.ntmps153
 go_wp2
 simp only [mask32 x hx0 hx, mask32 y hy0 hy, IntKind.wrap_u64, mask32w]
 rw [mul64_arith x y hx0 hx hy0 hy]
 go_ret2
 exact ⟨rfl, rfl⟩
theorem size_any (n : Int) (w : World) (h0 : -9223372036854775808 ≤ n) (h1 : n ≤ 9223372036854775807) :
  Calls Tryz.prog 152 #[.int .i64 n] w fun e w' => e = .returned (.int .u64 (mag n)) ∧ w = w' := by
 by_cases h : n < 0
 rotate_left
 ·have e : mag n = n := by simp [mag, h]
  rw [e]
  clear e
  go_enter Tryz.func152, Tryz.ntmps152
  go_wp2
  go_ret
  exact ⟨rfl, rfl⟩
 have e : mag n = -n := by simp [mag, h]
 rw [e]
 clear e
 go_enter Tryz.func152, Tryz.ntmps152
 go_wp2
 simp only [IntKind.wrap_u64]
 rw [show -(n % 18446744073709551616) % 18446744073709551616 = -n by omega]
 go_ret
 exact ⟨rfl, rfl⟩
theorem ssign_any (n : Int) (w : World) :
  Calls Tryz.prog 151 #[.int .i64 n] w fun e w' => e = .returned (.int .i64 (sgn n)) ∧ w = w' := by
 by_cases h : n < 0
 ·rw [show sgn n = -1 by simp [sgn, h]]
  go_enter Tryz.func151, Tryz.ntmps151
  go_wp2
  go_ret
  exact ⟨rfl, rfl⟩
 by_cases h2 : 0 < n
 ·rw [show sgn n = 1 by simp [sgn, h, h2]]
  go_enter Tryz.func151, Tryz.ntmps151
  go_wp2
  go_ret
  exact ⟨rfl, rfl⟩
 rw [show sgn n = 0 by simp [sgn, h, h2]]
 go_enter Tryz.func151, Tryz.ntmps151
 go_wp2
 go_ret
 exact ⟨rfl, rfl⟩
theorem triple_hi (n : Int) : 3 * (n * n / 18446744073709551616) + n * n % 18446744073709551616 * 3 / 18446744073709551616 = 3 * n * n / 18446744073709551616 := by
 rw [Int.mul_assoc]; omega
theorem triple_lo (n : Int) : n * n % 18446744073709551616 * 3 % 18446744073709551616 = 3 * n * n % 18446744073709551616 := by
 rw [Int.mul_assoc]; omega
theorem triple_any (n : Int) (w : World) (h0 : 0 ≤ n) (h1 : n ≤ 9223372036854775808) :
  Calls Tryz.prog 154 #[.int .u64 n] w fun e w' => e = .returned (.tuple #[.int .u64 (3 * n * n / 18446744073709551616), .int .u64 (3 * n * n % 18446744073709551616)]) ∧ w = w' := by
 obtain ⟨b1, b2⟩ := bd_mul (a := n) (b := n) (n := 9223372036854775808) (m := 9223372036854775808) (by omega) h1 (by omega) h1
 have b0 : 0 ≤ n * n := Int.mul_nonneg h0 h0
 simp only [Int.reduceMul, Int.reduceNeg] at b1 b2
 have q1 : 0 ≤ n * n / 18446744073709551616 := by omega
 have q2 : n * n / 18446744073709551616 ≤ 4611686018427387904 := by omega
 have q3 : 0 ≤ n * n % 18446744073709551616 := by omega
 have q4 : n * n % 18446744073709551616 < 18446744073709551616 := by omega
 have q5 : 0 ≤ n * n % 18446744073709551616 * 3 / 18446744073709551616 := by omega
 have q6 : n * n % 18446744073709551616 * 3 / 18446744073709551616 ≤ 2 := by omega
 rw [← triple_hi, ← triple_lo]
 clear b0 b1 b2
 go_enter Tryz.func154, Tryz.ntmps154
 go_wp2_with (go_at_call 153; refine (mul64_any _ _ _ (by omega) (by omega) (by omega) (by omega)).p ?_)
 go_ret2
 exact ⟨rfl, rfl⟩
theorem sgnS_any (a b : Int) (w : World) (ha0 : -9223372036854775808 ≤ a) (ha1 : a ≤ 9223372036854775807) (hb0 : -9223372036854775808 ≤ b) (hb1 : b ≤ 9223372036854775807) :
  Calls Tryz.prog 134 #[.agg #[.int .i64 a, .int .i64 b]] w fun e w' => e = .returned (.int .i64 (sgnS ⟨a, b⟩)) ∧ Q w w' := by
 by_cases h1 : sgn a = sgn b
 ·have e : sgnS ⟨a, b⟩ = sgn a := by simp [sgnS, h1]
  have h1 : (sgn a == sgn b) = true := by simpa using h1
  rw [e]
  clear e
  go_enter Tryz.func134, Tryz.ntmps134
  go_wp2
  refine wrj (by kernel_rfl) ?_
  repeat (go_big_quiet_step ((go_at_call 151; exact Calls.jk_of_same (ssign_any _ _))))
  refine wq0 fun kq => ?_
  go_wp2
  go_ret
  refine ⟨rfl, ?_⟩
  exact Q.i
 by_cases h2 : sgn b = 0
 ·have e : sgnS ⟨a, b⟩ = sgn a := by simp [sgnS, h2]
  have h1 : (sgn a == sgn b) = false := by simpa using h1
  have h2 : (sgn b == 0) = true := by simpa using h2
  rw [e]
  clear e
  go_enter Tryz.func134, Tryz.ntmps134
  go_wp2
  refine wrj (by kernel_rfl) ?_
  repeat (go_big_quiet_step ((go_at_call 151; exact Calls.jk_of_same (ssign_any _ _))))
  refine wq0 fun kq => ?_
  go_wp2
  go_ret
  refine ⟨rfl, ?_⟩
  exact Q.i
 by_cases h3 : sgn a = 0
 ·have e : sgnS ⟨a, b⟩ = sgn b := by simp [sgnS, h2, h3]
  have h1 : (sgn a == sgn b) = false := by simpa using h1
  have h2 : (sgn b == 0) = false := by simpa using h2
  have h3 : (sgn a == 0) = true := by simpa using h3
  rw [e]
  clear e
  go_enter Tryz.func134, Tryz.ntmps134
  go_wp2
  refine wrj (by kernel_rfl) ?_
  repeat (go_big_quiet_step ((go_at_call 151; exact Calls.jk_of_same (ssign_any _ _))))
  refine wq0 fun kq => ?_
  go_wp2
  go_ret
  refine ⟨rfl, ?_⟩
  exact Q.i
 have e1 : 3 * mag b * mag b < mag a * mag a → sgn a = sgnS ⟨a, b⟩ := fun h => by simp [sgnS, h1, h2, h3, h]
 have e2 : ¬ 3 * mag b * mag b < mag a * mag a → sgn b = sgnS ⟨a, b⟩ := fun h => by simp [sgnS, h1, h2, h3, h]
 have E1 := hh e1
 have E2 := hh e2
 clear e1 e2
 have h1 : (sgn a == sgn b) = false := by simpa using h1
 have h2 : (sgn b == 0) = false := by simpa using h2
 have h3 : (sgn a == 0) = false := by simpa using h3
 obtain ⟨ma0, ma1⟩ := mag_bd ha0 ha1
 obtain ⟨mb0, mb1⟩ := mag_bd hb0 hb1
 have c1 : (3 * mag b * mag b / 18446744073709551616 < mag a * mag a / 18446744073709551616) ∨ (¬ (3 * mag b * mag b / 18446744073709551616 < mag a * mag a / 18446744073709551616) ∧ ((mag a * mag a / 18446744073709551616 == 3 * mag b * mag b / 18446744073709551616) = true ∧ (3 * mag b * mag b % 18446744073709551616 < mag a * mag a % 18446744073709551616))) ∨ (¬ (3 * mag b * mag b / 18446744073709551616 < mag a * mag a / 18446744073709551616) ∧ ((mag a * mag a / 18446744073709551616 == 3 * mag b * mag b / 18446744073709551616) = true ∧ ¬ (3 * mag b * mag b % 18446744073709551616 < mag a * mag a % 18446744073709551616))) ∨ (¬ (3 * mag b * mag b / 18446744073709551616 < mag a * mag a / 18446744073709551616) ∧ (mag a * mag a / 18446744073709551616 == 3 * mag b * mag b / 18446744073709551616) = false) := by
  by_cases q1 : 3 * mag b * mag b / 18446744073709551616 < mag a * mag a / 18446744073709551616
  ·exact Or.inl q1
  cases q2 : (mag a * mag a / 18446744073709551616 == 3 * mag b * mag b / 18446744073709551616)
  ·exact Or.inr (Or.inr (Or.inr ⟨q1, rfl⟩))
  by_cases q3 : 3 * mag b * mag b % 18446744073709551616 < mag a * mag a % 18446744073709551616
  ·exact Or.inr (Or.inl ⟨q1, rfl, q3⟩)
  exact Or.inr (Or.inr (Or.inl ⟨q1, rfl, q3⟩))
 rcases c1 with q1 | ⟨q1, q2, q3⟩ | ⟨q1, q2, q3⟩ | ⟨q1, q2⟩
 ·have E := hh (E1.o (by omega))
  clear E1 E2
  go_enter Tryz.func134, Tryz.ntmps134
  go_wp2
  refine wrj (by kernel_rfl) ?_
  repeat (go_big_quiet_step ((go_at_call 151; exact Calls.jk_of_same (ssign_any _ _))))
  refine wq0 fun kq => ?_
  go_wp2
  refine wrj (by kernel_rfl) ?_
  repeat (go_big_quiet_step ((go_at_call 152; exact Calls.jk_of_same (size_any _ _ (by omega) (by omega)))))
  refine wq0 fun kq => ?_
  go_wp2_with (first | (go_at_call 153; refine (mul64_any _ _ _ (by omega) (by omega) (by omega) (by omega)).p ?_) | (go_at_call 154; refine (triple_any _ _ (by omega) (by omega)).p ?_))
  go_ret
  refine ⟨by rw [← E.o]; rfl, ?_⟩
  exact Q.i
 ·have E := hh (E1.o (by have := beq_iff_eq.1 q2; omega))
  clear E1 E2
  go_enter Tryz.func134, Tryz.ntmps134
  go_wp2
  refine wrj (by kernel_rfl) ?_
  repeat (go_big_quiet_step ((go_at_call 151; exact Calls.jk_of_same (ssign_any _ _))))
  refine wq0 fun kq => ?_
  go_wp2
  refine wrj (by kernel_rfl) ?_
  repeat (go_big_quiet_step ((go_at_call 152; exact Calls.jk_of_same (size_any _ _ (by omega) (by omega)))))
  refine wq0 fun kq => ?_
  go_wp2_with (first | (go_at_call 153; refine (mul64_any _ _ _ (by omega) (by omega) (by omega) (by omega)).p ?_) | (go_at_call 154; refine (triple_any _ _ (by omega) (by omega)).p ?_))
  go_ret
  refine ⟨by rw [← E.o]; rfl, ?_⟩
  exact Q.i
 ·have E := hh (E2.o (by have := beq_iff_eq.1 q2; omega))
  clear E1 E2
  go_enter Tryz.func134, Tryz.ntmps134
  go_wp2
  refine wrj (by kernel_rfl) ?_
  repeat (go_big_quiet_step ((go_at_call 151; exact Calls.jk_of_same (ssign_any _ _))))
  refine wq0 fun kq => ?_
  go_wp2
  refine wrj (by kernel_rfl) ?_
  repeat (go_big_quiet_step ((go_at_call 152; exact Calls.jk_of_same (size_any _ _ (by omega) (by omega)))))
  refine wq0 fun kq => ?_
  go_wp2_with (first | (go_at_call 153; refine (mul64_any _ _ _ (by omega) (by omega) (by omega) (by omega)).p ?_) | (go_at_call 154; refine (triple_any _ _ (by omega) (by omega)).p ?_))
  go_ret
  refine ⟨by rw [← E.o]; rfl, ?_⟩
  exact Q.i
 have E := hh (E2.o (by have := beq_eq_false_iff_ne.1 q2; omega))
 clear E1 E2
 go_enter Tryz.func134, Tryz.ntmps134
 go_wp2
 refine wrj (by kernel_rfl) ?_
 repeat (go_big_quiet_step ((go_at_call 151; exact Calls.jk_of_same (ssign_any _ _))))
 refine wq0 fun kq => ?_
 go_wp2
 refine wrj (by kernel_rfl) ?_
 repeat (go_big_quiet_step ((go_at_call 152; exact Calls.jk_of_same (size_any _ _ (by omega) (by omega)))))
 refine wq0 fun kq => ?_
 go_wp2_with (first | (go_at_call 153; refine (mul64_any _ _ _ (by omega) (by omega) (by omega) (by omega)).p ?_) | (go_at_call 154; refine (triple_any _ _ (by omega) (by omega)).p ?_))
 go_ret
 refine ⟨by rw [← E.o]; rfl, ?_⟩
 exact Q.i
end Go.Proofs.YtcjflafjmdfanaaGreatDoor
namespace Go.Sub
def sscaleR (x : Su) (k : Int) : R2 := if wi3 1152921504606846976 x.a x.b k then limS ⟨x.a * k, x.b * k⟩ else ⟨zeroS, 1⟩
theorem mag_mul (n k : Int) : mag n * mag k = mag (n * k) := by
 unfold mag
 rcases Int.lt_or_le n 0 with h | h <;> rcases Int.lt_or_le k 0 with h' | h'
 ·have := Int.mul_pos_of_neg_of_neg h h'
  rw [if_pos h, if_pos h', if_neg (by omega), Int.neg_mul_neg]
 ·rw [if_pos h, if_neg (by omega)]
  rcases Int.lt_or_le 0 k with hk | hk
  ·have := Int.mul_neg_of_neg_of_pos h hk
   rw [if_pos this, Int.neg_mul]
  obtain rfl : k = 0 := by omega
  simp
 ·rw [if_neg (by omega), if_pos h']
  rcases Int.lt_or_le 0 n with hn | hn
  ·have := Int.mul_neg_of_pos_of_neg hn h'
   rw [if_pos this, Int.mul_neg]
  obtain rfl : n = 0 := by omega
  simp
 have := Int.mul_nonneg h h'
 rw [if_neg (by omega), if_neg (by omega), if_neg (by omega)]
end Go.Sub
namespace Go.Proofs.YtcjflafjmdfanaaGreatDoor
open Go.RowKit Go.Sub
theorem swithin3 (bk : Nat) (a b c l : Int) (w : World) (h0 : 0 ≤ l) (h1 : l ≤ 4000000000000000000) (c0 : w.cell? ⟨bk, 0, none⟩ = some (.int .i64 a)) (c1 : w.cell? ⟨bk, 1, none⟩ = some (.int .i64 b)) (c2 : w.cell? ⟨bk, 2, none⟩ = some (.int .i64 c)) :
  Calls Tryz.prog 133 #[.int .i64 l, .slice (some ⟨bk, 0, none⟩) 3 3] w fun e w' => e = .returned (.bool (wi3 l a b c)) ∧ w = w' := by
 go_enter Tryz.func133, Tryz.ntmps133
 go_wp2
 refine wp_loop_rounds 4 ?_
 repeat any_goals (rw [rounds_succ]; go_wp2)
 all_goals go_ret
 all_goals (refine ⟨?_, rfl⟩; simp [wi3, brkB, *] <;> omega)
theorem times_ok (n k : Int) (w : World) (h0 : -9223372036854775808 ≤ n) (h1 : n ≤ 9223372036854775807) (k0 : -9223372036854775808 ≤ k) (k1 : k ≤ 9223372036854775807) (b0 : -4611686018427387904 ≤ n * k) (b1 : n * k ≤ 4611686018427387904) :
  Calls Tryz.prog 148 #[.int .i64 n, .int .i64 k] w fun e w' => e = .returned (.tuple #[.int .i64 (n * k), .bool true]) ∧ w = w' := by
 obtain ⟨mn0, mn1⟩ := mag_bd (n := n) (by omega) (by omega)
 obtain ⟨mk0, mk1⟩ := mag_bd (n := k) (by omega) (by omega)
 have hm : mag n * mag k ≤ 4611686018427387904 := by rw [mag_mul]; unfold mag; split <;> omega
 have hp : 0 ≤ mag n * mag k := Int.mul_nonneg mn0 mk0
 have q1 : (mag n * mag k / 18446744073709551616 != 0) = false := by
  rw [show mag n * mag k / 18446744073709551616 = 0 by omega]; rfl
 have q2 : ¬ 4611686018427387904 < mag n * mag k % 18446744073709551616 := by omega
 clear hm hp
 go_enter Tryz.func148, Tryz.ntmps148
 go_wp2_with (first | (go_at_call 153; refine (mul64_any _ _ _ (by omega) (by omega) (by omega) (by omega)).p ?_) | (go_at_call 152; refine (size_any _ _ (by omega) (by omega)).p ?_))
 go_ret2
 exact ⟨rfl, rfl⟩
theorem times_no1 (n k : Int) (w : World) (h0 : -9223372036854775808 ≤ n) (h1 : n ≤ 9223372036854775807) (k0 : -9223372036854775808 ≤ k) (k1 : k ≤ 9223372036854775807) (q1 : (mag n * mag k / 18446744073709551616 != 0) = true) :
  Calls Tryz.prog 148 #[.int .i64 n, .int .i64 k] w fun e w' => e = .returned (.tuple #[.int .i64 0, .bool false]) ∧ w = w' := by
 obtain ⟨mn0, mn1⟩ := mag_bd (n := n) (by omega) (by omega)
 obtain ⟨mk0, mk1⟩ := mag_bd (n := k) (by omega) (by omega)
 go_enter Tryz.func148, Tryz.ntmps148
 go_wp2_with (first | (go_at_call 153; refine (mul64_any _ _ _ (by omega) (by omega) (by omega) (by omega)).p ?_) | (go_at_call 152; refine (size_any _ _ (by omega) (by omega)).p ?_))
 go_ret2
 exact ⟨rfl, rfl⟩
theorem times_no2 (n k : Int) (w : World) (h0 : -9223372036854775808 ≤ n) (h1 : n ≤ 9223372036854775807) (k0 : -9223372036854775808 ≤ k) (k1 : k ≤ 9223372036854775807) (q1 : (mag n * mag k / 18446744073709551616 != 0) = false) (q2 : 4611686018427387904 < mag n * mag k % 18446744073709551616) :
  Calls Tryz.prog 148 #[.int .i64 n, .int .i64 k] w fun e w' => e = .returned (.tuple #[.int .i64 0, .bool false]) ∧ w = w' := by
 obtain ⟨mn0, mn1⟩ := mag_bd (n := n) (by omega) (by omega)
 obtain ⟨mk0, mk1⟩ := mag_bd (n := k) (by omega) (by omega)
 go_enter Tryz.func148, Tryz.ntmps148
 go_wp2_with (first | (go_at_call 153; refine (mul64_any _ _ _ (by omega) (by omega) (by omega) (by omega)).p ?_) | (go_at_call 152; refine (size_any _ _ (by omega) (by omega)).p ?_))
 go_ret2
 exact ⟨rfl, rfl⟩
theorem times_no (n k : Int) (w : World) (h0 : -9223372036854775808 ≤ n) (h1 : n ≤ 9223372036854775807) (k0 : -9223372036854775808 ≤ k) (k1 : k ≤ 9223372036854775807) (b : ¬ (-4611686018427387904 ≤ n * k ∧ n * k ≤ 4611686018427387904)) :
  Calls Tryz.prog 148 #[.int .i64 n, .int .i64 k] w fun e w' => e = .returned (.tuple #[.int .i64 0, .bool false]) ∧ w = w' := by
 have hm : 4611686018427387904 < mag n * mag k := by rw [mag_mul]; unfold mag; split <;> omega
 cases q1 : (mag n * mag k / 18446744073709551616 != 0)
 ·refine times_no2 n k w h0 h1 k0 k1 q1 ?_
  have : mag n * mag k / 18446744073709551616 = 0 := by simpa using q1
  omega
 exact times_no1 n k w h0 h1 k0 k1 q1
theorem sscale_ok (a b k : Int) (w : World) (h : wi3 1152921504606846976 a b k = true) (ha : -4611686018427387904 ≤ a * k ∧ a * k ≤ 4611686018427387904) (hb : -4611686018427387904 ≤ b * k ∧ b * k ≤ 4611686018427387904) :
  Calls Tryz.prog 124 #[.agg #[.int .i64 a, .int .i64 b], .int .i64 k] w fun e w' => e = .returned (.tuple #[.agg #[.int .i64 (limS ⟨a * k, b * k⟩).v.a, .int .i64 (limS ⟨a * k, b * k⟩).v.b], .int .i64 (limS ⟨a * k, b * k⟩).e]) ∧ Q w w' := by
 obtain ⟨l1, l2, l3, l4, l5, l6⟩ := (wi3_iff _ _ _ _).1 h
 have hta := fun w => times_ok a k w (by omega) (by omega) (by omega) (by omega) ha.1 ha.2
 have htb := fun w => times_ok b k w (by omega) (by omega) (by omega) (by omega) hb.1 hb.2
 have HA := hh hta
 have HB := hh htb
 clear hta htb
 go_enter Tryz.func124, Tryz.ntmps124
 go_wp2_with (first | (go_at_call 133; refine (swithin3 _ a b k 1152921504606846976 _ (by omega) (by omega) (by simp [go_sem]) (by simp [go_sem]) (by simp [go_sem])).p ?_) | (go_at_call 148; first | ((with_reducible refine (HA.o _).p ?_)) | ((with_reducible refine (HB.o _).p ?_))) | (go_at_call 149; refine (slimited_any _ _ _).q ?_; intro kj))
 refine bodyPost_ret (v := .tuple #[.agg #[.int .i64 (limS ⟨a * k, b * k⟩).v.a, .int .i64 (limS ⟨a * k, b * k⟩).v.b], .int .i64 (limS ⟨a * k, b * k⟩).e]) (by simp [results, Tryz.results124, go_sem]) rfl ⟨rfl, ?_⟩
 exact Q.i
theorem sscale_no1 (a b k : Int) (w : World) (h : wi3 1152921504606846976 a b k = true) (ha : ¬ (-4611686018427387904 ≤ a * k ∧ a * k ≤ 4611686018427387904)) (hb : -4611686018427387904 ≤ b * k ∧ b * k ≤ 4611686018427387904) :
  Calls Tryz.prog 124 #[.agg #[.int .i64 a, .int .i64 b], .int .i64 k] w fun e w' => e = .returned (.tuple #[.agg #[.int .i64 (R2.mk zeroS 2).v.a, .int .i64 (R2.mk zeroS 2).v.b], .int .i64 (R2.mk zeroS 2).e]) ∧ Q w w' := by
 obtain ⟨l1, l2, l3, l4, l5, l6⟩ := (wi3_iff _ _ _ _).1 h
 have hta := fun w => times_no a k w (by omega) (by omega) (by omega) (by omega) ha
 have htb := fun w => times_ok b k w (by omega) (by omega) (by omega) (by omega) hb.1 hb.2
 have HA := hh hta
 have HB := hh htb
 clear hta htb
 go_enter Tryz.func124, Tryz.ntmps124
 go_wp2_with (first | (go_at_call 133; refine (swithin3 _ a b k 1152921504606846976 _ (by omega) (by omega) (by simp [go_sem]) (by simp [go_sem]) (by simp [go_sem])).p ?_) | (go_at_call 148; first | ((with_reducible refine (HA.o _).p ?_)) | ((with_reducible refine (HB.o _).p ?_))) | (go_at_call 149; refine (slimited_any _ _ _).q ?_; intro kj))
 refine bodyPost_ret (v := .tuple #[.agg #[.int .i64 (R2.mk zeroS 2).v.a, .int .i64 (R2.mk zeroS 2).v.b], .int .i64 (R2.mk zeroS 2).e]) (by simp [results, Tryz.results124, go_sem, zeroS]) rfl ⟨rfl, ?_⟩
 exact Q.i
theorem sscale_no2 (a b k : Int) (w : World) (h : wi3 1152921504606846976 a b k = true) (ha : -4611686018427387904 ≤ a * k ∧ a * k ≤ 4611686018427387904) (hb : ¬ (-4611686018427387904 ≤ b * k ∧ b * k ≤ 4611686018427387904)) :
  Calls Tryz.prog 124 #[.agg #[.int .i64 a, .int .i64 b], .int .i64 k] w fun e w' => e = .returned (.tuple #[.agg #[.int .i64 (R2.mk zeroS 2).v.a, .int .i64 (R2.mk zeroS 2).v.b], .int .i64 (R2.mk zeroS 2).e]) ∧ Q w w' := by
 obtain ⟨l1, l2, l3, l4, l5, l6⟩ := (wi3_iff _ _ _ _).1 h
 have hta := fun w => times_ok a k w (by omega) (by omega) (by omega) (by omega) ha.1 ha.2
 have htb := fun w => times_no b k w (by omega) (by omega) (by omega) (by omega) hb
 have HA := hh hta
 have HB := hh htb
 clear hta htb
 go_enter Tryz.func124, Tryz.ntmps124
 go_wp2_with (first | (go_at_call 133; refine (swithin3 _ a b k 1152921504606846976 _ (by omega) (by omega) (by simp [go_sem]) (by simp [go_sem]) (by simp [go_sem])).p ?_) | (go_at_call 148; first | ((with_reducible refine (HA.o _).p ?_)) | ((with_reducible refine (HB.o _).p ?_))) | (go_at_call 149; refine (slimited_any _ _ _).q ?_; intro kj))
 refine bodyPost_ret (v := .tuple #[.agg #[.int .i64 (R2.mk zeroS 2).v.a, .int .i64 (R2.mk zeroS 2).v.b], .int .i64 (R2.mk zeroS 2).e]) (by simp [results, Tryz.results124, go_sem, zeroS]) rfl ⟨rfl, ?_⟩
 exact Q.i
theorem sscale_no3 (a b k : Int) (w : World) (h : wi3 1152921504606846976 a b k = true) (ha : ¬ (-4611686018427387904 ≤ a * k ∧ a * k ≤ 4611686018427387904)) (hb : ¬ (-4611686018427387904 ≤ b * k ∧ b * k ≤ 4611686018427387904)) :
  Calls Tryz.prog 124 #[.agg #[.int .i64 a, .int .i64 b], .int .i64 k] w fun e w' => e = .returned (.tuple #[.agg #[.int .i64 (R2.mk zeroS 2).v.a, .int .i64 (R2.mk zeroS 2).v.b], .int .i64 (R2.mk zeroS 2).e]) ∧ Q w w' := by
 obtain ⟨l1, l2, l3, l4, l5, l6⟩ := (wi3_iff _ _ _ _).1 h
 have hta := fun w => times_no a k w (by omega) (by omega) (by omega) (by omega) ha
 have htb := fun w => times_no b k w (by omega) (by omega) (by omega) (by omega) hb
 have HA := hh hta
 have HB := hh htb
 clear hta htb
 go_enter Tryz.func124, Tryz.ntmps124
 go_wp2_with (first | (go_at_call 133; refine (swithin3 _ a b k 1152921504606846976 _ (by omega) (by omega) (by simp [go_sem]) (by simp [go_sem]) (by simp [go_sem])).p ?_) | (go_at_call 148; first | ((with_reducible refine (HA.o _).p ?_)) | ((with_reducible refine (HB.o _).p ?_))) | (go_at_call 149; refine (slimited_any _ _ _).q ?_; intro kj))
 refine bodyPost_ret (v := .tuple #[.agg #[.int .i64 (R2.mk zeroS 2).v.a, .int .i64 (R2.mk zeroS 2).v.b], .int .i64 (R2.mk zeroS 2).e]) (by simp [results, Tryz.results124, go_sem, zeroS]) rfl ⟨rfl, ?_⟩
 exact Q.i
theorem sscale_any (a b k : Int) (w : World) :
  Calls Tryz.prog 124 #[.agg #[.int .i64 a, .int .i64 b], .int .i64 k] w fun e w' => e = .returned (.tuple #[.agg #[.int .i64 (sscaleR ⟨a, b⟩ k).v.a, .int .i64 (sscaleR ⟨a, b⟩ k).v.b], .int .i64 (sscaleR ⟨a, b⟩ k).e]) ∧ Q w w' := by
 by_cases h : wi3 1152921504606846976 a b k = true
 rotate_left
 ·have h : wi3 1152921504606846976 a b k = false := by simpa using h
  go_enter Tryz.func124, Tryz.ntmps124
  go_wp2_with (go_at_call 133; refine (swithin3 _ a b k 1152921504606846976 _ (by omega) (by omega) (by simp [go_sem]) (by simp [go_sem]) (by simp [go_sem])).p ?_)
  refine bodyPost_ret (v := .tuple #[.agg #[.int .i64 (R2.mk zeroS 1).v.a, .int .i64 (R2.mk zeroS 1).v.b], .int .i64 (R2.mk zeroS 1).e]) (by simp [results, Tryz.results124, go_sem, zeroS]) rfl ⟨by simp [sscaleR, h], ?_⟩
  exact Q.i
 have hR : sscaleR ⟨a, b⟩ k = limS ⟨a * k, b * k⟩ := by simp [sscaleR, h]
 rw [hR]
 have hno : ¬ (-4611686018427387904 ≤ a * k ∧ a * k ≤ 4611686018427387904) ∨ ¬ (-4611686018427387904 ≤ b * k ∧ b * k ≤ 4611686018427387904) → limS ⟨a * k, b * k⟩ = ⟨zeroS, 2⟩ := by
  intro hh
  have : wi2 1152921504606846976 (a * k) (b * k) = false := by
   cases e : wi2 1152921504606846976 (a * k) (b * k)
   ·rfl
   have := (wi2_iff _ _ _).1 e; omega
  simp [limS, this]
 by_cases ha : -4611686018427387904 ≤ a * k ∧ a * k ≤ 4611686018427387904
 ·by_cases hb : -4611686018427387904 ≤ b * k ∧ b * k ≤ 4611686018427387904
  ·exact sscale_ok a b k w h ha hb
  rw [hno (Or.inr hb)]; exact sscale_no2 a b k w h ha hb
 rw [hno (Or.inl ha)]
 by_cases hb : -4611686018427387904 ≤ b * k ∧ b * k ≤ 4611686018427387904
 ·exact sscale_no1 a b k w h ha hb
 exact sscale_no3 a b k w h ha hb
end Go.Proofs.YtcjflafjmdfanaaGreatDoor
