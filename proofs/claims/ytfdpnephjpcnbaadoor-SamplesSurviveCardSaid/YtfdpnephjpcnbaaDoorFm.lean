
/- Frames in memory; channels in memory. -/
import Derived.Test.YtfdpnephjpcnbaaDoorTpD
import Derived.Test.YtfdpnephjpcnbaaDoorCo
set_option linter.unusedVariables false
set_option linter.unusedSimpArgs false
namespace Go.Sub
/-- A frame: its count, where its samples and its qualities lie, and what they are. -/
structure Fm where
  c : Int
  a : Nat
  b : Nat
  xs : List Int
  qs : List Int
/-- What a frame says. -/
def Fm.dat (f : Fm) : Int × List Int × List Int := (f.c, f.xs, f.qs)
/-- A channel: where it lies, and its samples. -/
structure Ch where
  g : Nat
  cap : Nat
  l : List Int
open Go in
def fmC (u : Int) (n : Nat) (f : Fm) : List Value := [.int .i64 u, .int .i64 f.c, .bool true, .slice (some ⟨f.a, 0, none⟩) n n, .slice (some ⟨f.b, 0, none⟩) n n]
open Go in
def chC (r : Ch) : Value := .slice (some ⟨r.g, 0, none⟩) 12 r.cap
open Go in
theorem fmC_len (u : Int) (n : Nat) (l : List Fm) : (l.flatMap (fmC u n)).length = l.length * 5 := by
  induction l with
  | nil => rfl
  | cons c l ih =>
    rw [List.flatMap_cons, List.length_append, ih]
    simp only [fmC, List.length_cons, List.length_nil]
    omega
open Go in
theorem fmC_get (u : Int) (n : Nat) (l : List Fm) (k j : Nat) (f : Fm) (h : l[k]? = some f) (hj : j < 5) : (l.flatMap (fmC u n))[k * 5 + j]? = (fmC u n f)[j]? := by
  induction l generalizing k with
  | nil => simp at h
  | cons d l ih =>
    rw [List.flatMap_cons]
    cases k with
    | zero =>
      simp only [List.getElem?_cons_zero, Option.some.injEq] at h
      subst h
      rw [List.getElem?_append_left (by simp only [fmC, List.length_cons, List.length_nil]; omega), Nat.zero_mul, Nat.zero_add]
    | succ k =>
      simp only [List.getElem?_cons_succ] at h
      rw [List.getElem?_append_right (by simp only [fmC, List.length_cons, List.length_nil]; omega)]
      have e : (k + 1) * 5 + j - (fmC u n d).length = k * 5 + j := by
        simp only [fmC, List.length_cons, List.length_nil]
        omega
      rw [e]
      exact ih k h
open Go in
theorem set5 (L : List Value) (i : Nat) (a b c d e : Value) (h : i + 5 ≤ L.length) : (((((L.set i a).set (i + 1) b).set (i + 2) c).set (i + 3) d).set (i + 4) e) = L.take i ++ [a, b, c, d, e] ++ L.drop (i + 5) := by
  apply List.ext_getElem?
  intro j
  simp only [List.append_assoc, List.getElem?_append, List.length_take, List.length_set, List.getElem?_take, List.getElem?_set, List.getElem?_drop, List.length_cons, List.length_nil]
  rcases Nat.lt_or_ge j i with h1 | h1
  · have e1 : j < min i L.length := by omega
    have e2 : ¬ i + 4 = j := by omega
    have e3 : ¬ i + 3 = j := by omega
    have e4 : ¬ i + 2 = j := by omega
    have e5 : ¬ i + 1 = j := by omega
    have e6 : ¬ i = j := by omega
    rw [if_neg e2, if_neg e3, if_neg e4, if_neg e5, if_neg e6, if_pos e1, if_pos h1]
  · have em : min i L.length = i := by omega
    rw [em]
    rcases Nat.lt_or_ge j (i + 5) with h2 | h2
    · obtain ⟨q, rfl⟩ : ∃ q, j = i + q := ⟨j - i, by omega⟩
      have hq : q < 5 := by omega
      have e0 : ¬ i + q < i := by omega
      rw [if_neg e0, Nat.add_sub_cancel_left]
      match q, hq with
      | 0, _ => simp; omega
      | 1, _ => simp; omega
      | 2, _ => simp; omega
      | 3, _ => simp; omega
      | 4, _ => simp; omega
    · have e2 : ¬ i + 4 = j := by omega
      have e3 : ¬ i + 3 = j := by omega
      have e4 : ¬ i + 2 = j := by omega
      have e5 : ¬ i + 1 = j := by omega
      have e6 : ¬ i = j := by omega
      have e7 : ¬ j < i := by omega
      have e8 : ¬ j - i < 0 + 1 + 1 + 1 + 1 + 1 := by omega
      rw [if_neg e2, if_neg e3, if_neg e4, if_neg e5, if_neg e6, if_neg e7, if_neg e8]
      congr 1
      omega
end Go.Sub
namespace Go.Proofs.YtfdpnephjpcnbaaDoor
open Go.RowKit Go.Sub
/-- The frame's samples and qualities lie where it says. -/
def FmAt (w : World) (n : Nat) (f : Fm) : Prop := HB w f.a (cellsN .i64 f.xs) 3 ∧ HB w f.b (cellsN .i64 f.qs) 3 ∧ f.xs.length = n ∧ f.qs.length = n
theorem FmAt.q {w w' : World} {n : Nat} {f : Fm} (h : FmAt w n f) (hq : Q w w') : FmAt w' n f := ⟨h.1.q hq, h.2.1.q hq, h.2.2⟩
theorem FmAt.rx {w : World} {n : Nat} {f : Fm} (h : FmAt w n f) : RdN w (some ⟨f.a, 0, none⟩) n n .i64 f.xs := rdn_of_hb h.1 _ h.2.2.1.symm _ (Nat.le_refl _)
theorem FmAt.rq {w : World} {n : Nat} {f : Fm} (h : FmAt w n f) : RdN w (some ⟨f.b, 0, none⟩) n n .i64 f.qs := rdn_of_hb h.2.1 _ h.2.2.2.symm _ (Nat.le_refl _)
/-- A slice of frames. -/
def FrAt (w : World) (g : Nat) (u : Int) (n : Nat) (l : List Fm) : Prop := g < w.heap.size ∧ (∀ i v, (l.flatMap (fmC u n))[i]? = some v → w.cell? ⟨g, i, none⟩ = some v) ∧ ∀ f ∈ l, FmAt w n f
theorem FrAt.q {w w' : World} {g : Nat} {u : Int} {n : Nat} {l : List Fm} (h : FrAt w g u n l) (hq : Q w w') : FrAt w' g u n l :=
  ⟨Nat.lt_of_lt_of_le h.1 hq.below.size, fun i v hi => (hq.below.cell (p := ⟨g, i, none⟩) h.1).trans (h.2.1 i v hi), fun f hf => (h.2.2 f hf).q hq⟩
theorem FrAt.cells {w : World} {g : Nat} {u : Int} {n : Nat} {l : List Fm} (h : FrAt w g u n l) (k : Nat) (f : Fm) (hk : l[k]? = some f) :
    w.cell? ⟨g, k * 5, none⟩ = some (.int .i64 u) ∧ w.cell? ⟨g, k * 5 + 1, none⟩ = some (.int .i64 f.c) ∧ w.cell? ⟨g, k * 5 + 2, none⟩ = some (.bool true) ∧ w.cell? ⟨g, k * 5 + 3, none⟩ = some (.slice (some ⟨f.a, 0, none⟩) n n) ∧ w.cell? ⟨g, k * 5 + 4, none⟩ = some (.slice (some ⟨f.b, 0, none⟩) n n) :=
  ⟨h.2.1 (k * 5) _ (by have := fmC_get u n l k 0 f hk (by decide); rwa [Nat.add_zero] at this), h.2.1 _ _ (fmC_get u n l k 1 f hk (by decide)), h.2.1 _ _ (fmC_get u n l k 2 f hk (by decide)), h.2.1 _ _ (fmC_get u n l k 3 f hk (by decide)), h.2.1 _ _ (fmC_get u n l k 4 f hk (by decide))⟩
/-- Channels. -/
def ChAt (w : World) (A : Option Addr) (n ca : Nat) (rows : List Ch) : Prop := RdV w A n ca 1 (rows.map chC) ∧ ∀ r ∈ rows, RdN w (some ⟨r.g, 0, none⟩) 12 r.cap .i64 r.l
theorem ChAt.q {w w' : World} {A : Option Addr} {n ca : Nat} {rows : List Ch} (h : ChAt w A n ca rows) (hq : Q w w') : ChAt w' A n ca rows := ⟨h.1.q hq, fun r hr => (h.2 r hr).q hq⟩
theorem ChAt.len {w : World} {A : Option Addr} {n ca : Nat} {rows : List Ch} (h : ChAt w A n ca rows) : rows.length = n := by
  have := h.1.1
  simpa using this
end Go.Proofs.YtfdpnephjpcnbaaDoor
