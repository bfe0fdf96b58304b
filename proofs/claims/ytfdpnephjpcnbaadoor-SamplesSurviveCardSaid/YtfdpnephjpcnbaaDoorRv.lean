
/- Slices of whatever elements, as they lie in memory: the cells one behind the other. -/
import Derived.Test.YtfdpnephjpcnbaaDoorApp
import Derived.Lib.Hide
namespace Go
open Go.RowKit
/-- The slice A, n, c of elements of 'size' cells holds the cells vs. -/
def RdV (w : World) (A : Option Addr) (n c size : Nat) (vs : List Value) : Prop :=
  vs.length = n * size ∧ n ≤ c ∧ (0 < n → ∃ g o, A = some ⟨g, o, none⟩ ∧ g < w.heap.size ∧ ∀ i u, vs[i]? = some u → w.cell? ⟨g, o + i, none⟩ = some u) ∧ (A = none → c = 0)
theorem RdV.q {w w' : World} {A : Option Addr} {n c size : Nat} {vs : List Value} (h : RdV w A n c size vs) (hq : Q w w') : RdV w' A n c size vs := by
  refine ⟨h.1, h.2.1, fun hn => ?_, h.2.2.2⟩
  obtain ⟨g, o, rfl, hg, hc⟩ := h.2.2.1 hn
  have hb := hq.below
  exact ⟨g, o, rfl, Nat.lt_of_lt_of_le hg hb.size, fun i u hi => (hb.cell (p := ⟨g, o + i, none⟩) hg).trans (hc i u hi)⟩
theorem RdV.nil (w : World) (size : Nat) : RdV w none 0 0 size [] := ⟨by simp, Nat.zero_le _, fun h => absurd h (by omega), fun _ => rfl⟩
theorem RdV.nil' (w : World) (size : Nat) (ad : Addr) (c : Nat) : RdV w (some ad) 0 c size [] := ⟨by simp, Nat.zero_le _, fun h => absurd h (by omega), fun h => by cases h⟩
theorem RdV.at_ {w : World} {A : Option Addr} {n c size : Nat} {vs : List Value} (h : RdV w A n c size vs) (hn : 0 < n) : ∃ g o, A = some ⟨g, o, none⟩ ∧ Old g w ∧ Hid (∀ i u, vs[i]? = some u → w.cell? ⟨g, o + i, none⟩ = some u) := by
  obtain ⟨g, o, e, hg, hc⟩ := h.2.2.1 hn
  exact ⟨g, o, e, ⟨hg⟩, Lib.hid hc⟩
/-- A part of a slice. -/
theorem RdV.part {w : World} {g o n c size : Nat} {vs : List Value} (h : RdV w (some ⟨g, o, none⟩) n c size vs) (lo hi c' : Nat) (h1 : lo ≤ hi) (h2 : hi ≤ n) (h3 : hi - lo ≤ c') :
    RdV w (some ⟨g, o + lo * size, none⟩) (hi - lo) c' size ((vs.drop (lo * size)).take ((hi - lo) * size)) := by
  have hmul : lo * size + (hi - lo) * size ≤ n * size := by rw [← Nat.add_mul]; exact Nat.mul_le_mul_right _ (by omega)
  refine ⟨by rw [List.length_take, List.length_drop, h.1]; omega, h3, fun hn => ?_, fun e => by cases e⟩
  obtain ⟨g', o', e, hg, hc⟩ := h.2.2.1 (by omega)
  cases e
  refine ⟨g, _, rfl, hg, fun i u hi => ?_⟩
  rw [List.getElem?_take] at hi
  split at hi
  · rw [List.getElem?_drop] at hi
    have := hc _ u hi
    rwa [show o + lo * size + i = o + (lo * size + i) by omega]
  · cases hi
/-- What lies in new blocks is not touched by a store into an old one. -/
theorem RdV.swap {W W' : World} {k : Jk} {A : Option Addr} {n c size : Nat} {vs : List Value} (hs : W.heap.size = W'.heap.size) (h : RdV (W.jk k) A n c size vs) (hf : ∀ ad, A = some ad → W.heap.size ≤ ad.block) : RdV (W'.jk k) A n c size vs := by
  refine ⟨h.1, h.2.1, fun hn => ?_, h.2.2.2⟩
  obtain ⟨g, o, rfl, hg, hc⟩ := h.2.2.1 hn
  have hge : W.heap.size ≤ g := hf ⟨g, o, .none⟩ rfl
  refine ⟨g, o, rfl, by rw [World.size_jk] at *; omega, fun i u hi => ?_⟩
  rw [← hc i u hi]
  refine World.cell?_of_block (w := W.jk k) (a := ⟨g, o + i, .none⟩) ?_
  show (W'.jk k).heap[g]? = (W.jk k).heap[g]?
  simp only [World.jk, Array.getElem?_append]
  rw [if_neg (by omega), if_neg (by omega), hs]
/-- A row that the call has made reads as its cells. -/
theorem rdv_of_own {w : World} {base size n : Nat} {e : TypeId} {v : Value} {vs : List Value} (h : w.ownsRow base e size v n vs) (hl : vs.length = n * size) : ∃ A c, v = .slice A n c ∧ RdV w A n c size vs := by
  have h' := h
  rcases h.2 with ⟨rfl, h0⟩ | ⟨g, cap, cur, rfl, hb, hg, hc, _, hcs, htake⟩
  · obtain rfl : n = 0 := h0
    have : vs = [] := List.eq_nil_of_length_eq_zero (by rw [hl]; simp)
    subst this
    exact ⟨none, 0, rfl, RdV.nil w size⟩
  · refine ⟨_, cap, rfl, hl, hc, fun _ => ⟨g, 0, rfl, (h'.lt g rfl).2, fun i u hi => ?_⟩, fun e => by cases e⟩
    have := h'.cells (g := g) rfl i u hi
    have e : (⟨g, 0, none⟩ : Addr).add i = ⟨g, 0 + i, none⟩ := by unfold Addr.add; split <;> simp_all
    rw [e] at this
    exact this
end Go
