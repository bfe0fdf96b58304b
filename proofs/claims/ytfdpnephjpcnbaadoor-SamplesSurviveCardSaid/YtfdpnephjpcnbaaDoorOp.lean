
/- Worlds under a name, in which some blocks are known. -/
import Derived.Test.YtfdpnephjpcnbaaDoorBo
import Derived.Test.YtfdpnephjpcnbaaDoorTail
import Derived.Deep.RegionHeld3
import Derived.Deep.DrawnRows
import Derived.StillTailTactics
import Derived.Deep.DeepCutAuto
set_option linter.unusedVariables false
set_option linter.unusedSimpArgs false
namespace Go
open Go.RowKit Go.Sub
/-- Block b of w holds the cells cs. -/
def HB (w : World) (b : Nat) (cs : Array Value) (t : TypeId) : Prop := w.heap[b]? = some (.cells cs t)
theorem HB.lt {w : World} {b : Nat} {cs : Array Value} {t : TypeId} (h : HB w b cs t) : b < w.heap.size := (Array.getElem?_eq_some_iff.1 h).1
theorem HB.old {w : World} {b : Nat} {cs : Array Value} {t : TypeId} (h : HB w b cs t) : Old b w := ⟨h.lt⟩
theorem HB.cell {w : World} {b : Nat} {cs : Array Value} {t : TypeId} (h : HB w b cs t) (i : Nat) : w.cell? ⟨b, i, none⟩ = cs[i]? := cell_of_row _ _ _ cs _ (0, 0) h
theorem HB.soft {w : World} {b : Nat} {cs : Array Value} {t : TypeId} (h : HB w b cs t) (i : Nat) : w.frozen? ⟨b, i, none⟩ = false := by
  have h' : w.heap[b]? = some (.cells cs t) := h
  simp [World.frozen?, h']
theorem HB.q {w w' : World} {b : Nat} {cs : Array Value} {t : TypeId} (h : HB w b cs t) (hq : Q w w') : HB w' b cs t := (hq.below.block b h.lt).trans h
theorem HB.set {w : World} {b : Nat} {cs : Array Value} {t : TypeId} (h : HB w b cs t) (i : Nat) (v : Value) : HB (w.setCell ⟨b, i, none⟩ v) b (cs.setIfInBounds i v) t := by
  have h' : w.heap[b]? = some (.cells cs t) := h
  show (w.setCell ⟨b, i, none⟩ v).heap[b]? = _
  simp [World.setCell, Array.getElem?_modify, h']
theorem HB.other {w : World} {b c i : Nat} {v : Value} {cs : Array Value} {t : TypeId} (h : HB w c cs t) (hne : b ≠ c) : HB (w.setCell ⟨b, i, none⟩ v) c cs t := by
  have h' : w.heap[c]? = some (.cells cs t) := h
  show (w.setCell ⟨b, i, none⟩ v).heap[c]? = _
  simp [World.setCell, Array.getElem?_modify, h', hne]
theorem HB.new (w : World) (cs : Array Value) (t : TypeId) (b : Nat) (hb : b = w.heap.size) : HB (w.alloc (.cells cs t)) b cs t := by subst hb; exact heap_alloc_new w _
theorem HB.jk {w : World} {b : Nat} {cs : Array Value} {t : TypeId} (h : HB w b cs t) (k : Jk) : HB (w.jk k) b cs t := (World.block_jk k b h.lt).trans h
theorem HB.alloc {w : World} {b : Nat} {cs : Array Value} {t : TypeId} (h : HB w b cs t) (o : Obj) : HB (w.alloc o) b cs t := h.q (.alloc (.refl _) _)
theorem HB.drew {w : World} {b : Nat} {cs : Array Value} {t : TypeId} (h : HB w b cs t) : HB w.drew b cs t := h
theorem hb_swap {w : World} {o o' : Obj} {k : Jk} {b : Nat} {cs : Array Value} {t : TypeId} (h : HB ((w.alloc o).jk k) b cs t) (hne : b ≠ w.heap.size) : HB ((w.alloc o').jk k) b cs t := by
  have h' : ((w.heap.push o) ++ k.os)[b]? = some (.cells cs t) := h
  show ((w.heap.push o') ++ k.os)[b]? = some (.cells cs t)
  rw [Array.getElem?_append, Array.getElem?_push, if_neg hne, Array.size_push] at h' ⊢
  exact h'
theorem wp_world {P : Program} {c : Code} {R : Exit → Act → World → Prop} {a : Act} {w : World} (h : ∀ B, B = w → Code.wp P c R a B) : Code.wp P c R a w := h w rfl
theorem rdn_of_hb {w : World} {q : IntKind} {t : TypeId} {l : List Int} {g : Nat} (h : HB w g (cellsN q l) t) (n : Nat) (hn : n = l.length) (c : Nat) (hc : n ≤ c) : RdN w (some ⟨g, 0, none⟩) n c q l := by
  subst hn
  refine ⟨by simp, hc, fun _ => ⟨_, 0, rfl, h.lt, fun i u hi => ?_⟩, fun h => by cases h⟩
  rw [h.cell]
  simpa [cellsN] using hi
end Go
