
/- Worlds under a name, in which some blocks are known. -/
import Derived.Test.YtfdpnephjpcnbaaDoorBz02
import Derived.Laws.BitsAllLaws
import Derived.Test.YtfdpnephjpcnbaaDoorBz01
import Derived.StillTail
import Derived.Deep.RegionHeld3
import Derived.Deep.DrawnRows
import Derived.StillTailTactics
import Derived.Deep.DeepCutAuto
set_option linter.unusedSimpArgs false
set_option linter.unusedVariables false
/- Bytes put together: two bytes as a number, a number of 16 bits with a sign. Plain. -/
set_option linter.unusedVariables false
namespace Go.Sub
open Go Go.RowKit
theorem or_mul8 (a b : Nat) (h : a < 256) : b * 256 ||| a = b * 256 + a := by
  rw [show (256 : Nat) = 2 ^ 8 from rfl, ← Nat.shiftLeft_eq, Nat.shiftLeft_add_eq_or_of_lt (by omega)]
theorem be_i64 (a b : Int) (a0 : 0 ≤ a) (a1 : a < 65536) (b0 : 0 ≤ b) (b1 : b < 256) : bits .or .i64 (a * 256) b = a * 256 + b := by
  obtain ⟨n0, rfl⟩ := Int.eq_ofNat_of_zero_le a0
  obtain ⟨n1, rfl⟩ := Int.eq_ofNat_of_zero_le b0
  have e : ((n0 : Int) * 256) = ((n0 * 256 : Nat) : Int) := by omega
  rw [e]
  have h : ((BitVec.ofInt 64 ((n0 * 256 : Nat) : Int)) ||| (BitVec.ofInt 64 (n1 : Int))).toNat = n0 * 256 + n1 := by
    rw [BitVec.ofInt_natCast, BitVec.ofInt_natCast, BitVec.toNat_or, BitVec.toNat_ofNat, BitVec.toNat_ofNat, Nat.mod_eq_of_lt (by omega), Nat.mod_eq_of_lt (by omega), or_mul8 n1 n0 (by omega)]
  show IntKind.i64.wrap (((BitVec.ofInt 64 ((n0 * 256 : Nat) : Int)) ||| (BitVec.ofInt 64 (n1 : Int))).toNat : Int) = _
  rw [h]
  exact IntWalk.i64_in _ (by omega)
theorem be_u16 (a b : Int) (a0 : 0 ≤ a) (a1 : a < 256) (b0 : 0 ≤ b) (b1 : b < 256) : bits .or .u16 (a * 256) b = a * 256 + b := by
  obtain ⟨n0, rfl⟩ := Int.eq_ofNat_of_zero_le a0
  obtain ⟨n1, rfl⟩ := Int.eq_ofNat_of_zero_le b0
  have e : ((n0 : Int) * 256) = ((n0 * 256 : Nat) : Int) := by omega
  rw [e, u16_or_nat _ _ (by omega) (by omega), or_mul8 n1 n0 (by omega)]
  omega
theorem be_split (u : Int) (u0 : 0 ≤ u) (u1 : u < 65536) : bits .or .i64 (u / 256 * 256) (u % 256) = u := by
  rw [be_i64 _ _ (by omega) (by omega) (by omega) (by omega)]
  omega
theorem i16_back (x : Int) (x0 : -32768 ≤ x) (x1 : x ≤ 32767) : IntKind.i16.wrap (x / 256 % 256 * 256 + x % 256) = x := by
  have e : x / 256 % 256 * 256 + x % 256 = x % 65536 := by omega
  rw [e]
  unfold IntKind.wrap
  simp only [IntKind.bits, IntKind.signed, Bool.true_and, decide_eq_true_eq, Nat.reduceSub, Int.reducePow, ge_iff_le]
  split <;> omega
end Go.Sub
/- A region that draws its order: its first n operations read, or call functions that make new blocks at most, in whatever order; the others follow them one by one. One walk in the order of the text serves. -/
namespace Go
section
variable {P : Program} {md : Region.Mode} {ops : Array Oper} {C : World → Prop}

/-- f operations of the head, in whatever order, then L. -/
def HeadQ (P : Program) (md : Region.Mode) (ops : Array Oper) (C : World → Prop) (n : Nat) (L : Array Bool → Act → Prop) : Nat → Array Bool → Act → Prop
  | 0, listed, a => L listed a
  | f + 1, listed, a => Region.ready md ops listed ≠ [] ∧ ∀ i ∈ Region.ready md ops listed, i < n ∧ qOp P ops C i (HeadQ P md ops C n L f (listed.setIfInBounds i true)) a

theorem HeadQ.wpAny {n g : Nat} {L : Array Bool → Act → Prop} {R : Exit → Act → World → Prop} (hL : ∀ listed a w, C w → L listed a → wpAny P md ops R g listed a w) (f : Nat) :
    ∀ (listed : Array Bool) (a : Act) (w : World), C w → HeadQ P md ops C n L f listed a → wpAny P md ops R (f + g) listed a w := by
  induction f with
  | zero => intro listed a w hw h; rw [Nat.zero_add]; exact hL _ _ _ hw h
  | succ f ih =>
    intro listed a w hw h
    rw [Nat.succ_add]
    exact ⟨fun h0 => absurd h0 h.1, fun i hi => wpOp_of_qOp hw (fun a' w' hw' h' => ih _ a' w' hw' h') (h.2 i hi).2⟩

/-- No operation of the tail comes up while one of the head is open. -/
theorem head_only {n i j : Nat} {listed : Array Bool} (hs : Region.sinkB md ops n = true) (hc : Region.chainB md ops n = true) (hn : n < ops.size) (inv : HeadInv md ops n listed)
    (hin : i < n) (hi : i ∈ Region.ready md ops listed) (hj : j ∈ Region.ready md ops listed) : j < n :=
  Nat.lt_of_not_le fun h => tail_waits hs hc hn inv _ i rfl hin (mem_ready.1 hi).1 j h hj

/-- An operation of the head that may come up may be taken first. -/
theorem HeadQ.first {n i : Nat} {oi : Oper} {v : Value} {L : Array Bool → Act → Prop} (hi : ops[i]? = some oi) (hsel : Region.noSelect ops = true)
    (hs : Region.sinkB md ops n = true) (hc : Region.chainB md ops n = true) (hn : n < ops.size) (hin : i < n)
    (hdone : ∀ listed a, L listed a → ∀ j ∈ Region.ready md ops listed, n ≤ j) (f : Nat) :
    ∀ (listed : Array Bool) (a : Act), HeadInv md ops n listed →
      (∀ j oj, ops[j]? = some oj → j ≠ i → listed.getD j true = false → (∀ e ∈ oj.after, Region.binds md e = true → e.on ≠ i) → oi.apart ops oj = true) →
      i ∈ Region.ready md ops listed → YieldsIn P ops C oi v a →
      HeadQ P md ops C n L f (listed.setIfInBounds i true) (a.put oi.dst v) → HeadQ P md ops C n L (f + 1) listed a := by
  have hsel' := Region.noSelect_spec hsel
  induction f with
  | zero =>
    intro listed a inv _ hr hy H
    refine ⟨List.ne_nil_of_mem hr, fun j hj => ⟨head_only hs hc hn inv hin hr hj, ?_⟩⟩
    rcases Nat.decEq j i with hji | hji
    · have h1 := hdone _ _ H j (ready_mono hj hji)
      have h2 := head_only hs hc hn inv hin hr hj
      omega
    · subst hji; exact hy.qOp hi H
  | succ f ih =>
    intro listed a inv hfree hr hy H
    refine ⟨List.ne_nil_of_mem hr, fun j hj => ?_⟩
    have hjn := head_only hs hc hn inv hin hr hj
    refine ⟨hjn, ?_⟩
    rcases Nat.decEq j i with hji | hji
    · obtain ⟨hjun, oj, hoj, hall⟩ := mem_ready.1 hj
      have hun := getD_both (mem_ready.1 hr).1
      have hnot : ∀ e ∈ oj.after, Region.binds md e = true → e.on ≠ i := by
        intro e he hb heq
        have := hall e he hb
        rw [heq, hun] at this
        cases this
      have step := qOp_put hoj (hfree j oj hoj hji hjun hnot) (fun cs b => hsel' i oi cs b hi) (fun cs b => hsel' j oj cs b hoj) hy ((H.2 j (ready_mono hj hji)).2)
      refine qOp_mono (fun a' h3 => ih _ a' (inv.set hj hjn) ?_ (ready_mono hr (Ne.symm hji)) h3.1 ?_) step
      · intro k ok hk hki hunk hno
        refine hfree k ok hk hki ?_ hno
        rcases Nat.decEq j k with hjk | hjk
        · rwa [getD_set_ne true hjk] at hunk
        · subst hjk; exact hjun
      · rw [Array.setIfInBounds_comm _ _ hji]; exact h3.2
    · subst hji; exact hy.qOp hi H

/-- The head in the order of the text. -/
theorem HeadQ.lex {n g : Nat} {Lq : Act → Prop} (hsel : Region.noSelect ops = true) (hs : Region.sinkB md ops n = true) (hc : Region.chainB md ops n = true) (hn : n < ops.size) (l : List Oper) :
    ∀ (k : Nat) (listed : Array Bool) (a : Act), (∀ j, j < l.length → l[j]? = ops[k + j]?) → k + l.length = n → HeadInv md ops n listed →
    Region.lexHead md ops g l.length k listed = true → wpQuiet P ops C Lq l a →
    HeadQ P md ops C n (fun listed' a' => Region.seqB md ops g n listed' = true ∧ Lq a') l.length listed a := by
  induction l with
  | nil =>
    intro k listed a _ hk _ hB h
    obtain rfl : k = n := hk
    exact ⟨hB, h⟩
  | cons o l ih =>
    intro k listed a hl hk inv hB h
    rw [List.length_cons] at hk
    have h0 : ops[k]? = some o := (hl 0 (Nat.succ_pos _)).symm
    simp only [List.length_cons, Region.lexHead, Bool.and_eq_true] at hB
    obtain ⟨⟨hr, hf⟩, hB'⟩ := hB
    have hr' : k ∈ Region.ready md ops listed := List.contains_iff_mem.1 hr
    have hst : qOp P ops C k (wpQuiet P ops C Lq l) a := by unfold qOp; rw [h0]; exact h
    obtain ⟨v, hy, hK⟩ := yieldsIn_of_qOp h0 hst
    refine HeadQ.first h0 hsel hs hc hn (by omega) (fun _ _ hL => seqB_ready hL.1) _ _ _ inv (Region.free_spec h0 hf) hr' hy (ih (k + 1) _ _ ?_ (by omega) (inv.set hr' (by omega)) hB' hK)
    intro j hj
    have := hl (j + 1) (by rw [List.length_cons]; omega)
    rwa [List.getElem?_cons_succ, show k + (j + 1) = k + 1 + j by omega] at this

theorem wp_region_tail {id : Nat} {R : Exit → Act → World → Prop} {a : Act} {w : World} {l : List Oper} (n : Nat) (hm : P.follows .mixedOrders = true) (hB : Region.lexTailB .any l.toArray n = true)
    (h : wpQuiet P l.toArray (fun w' => ∃ k, w' = w.jk k) (fun a' => ∀ w', (∃ k, w' = w.jk k) → wpList P l.toArray R (l.drop n) a' w') (l.take n) a) : (Code.region id l.toArray true).wp P R a w := by
  simp only [Region.lexTailB, Bool.and_eq_true, decide_eq_true_eq] at hB
  obtain ⟨⟨⟨⟨hsel, hn⟩, hs⟩, hc⟩, hlex⟩ := hB
  have hn' : n < l.length := by simpa using hn
  have htl : (l.take n).length = n := by rw [List.length_take]; omega
  have inv0 : HeadInv .any l.toArray n (Array.replicate l.toArray.size false) :=
    ⟨by simp, fun j oj _ hl => (by rw [getD_replicate_false] at hl; cases hl), fun t _ ht => getD_in (by simpa using ht) (getD_replicate_false _ _)⟩
  have H := HeadQ.lex (C := fun w' => ∃ k, w' = w.jk k) (md := .any) (g := l.toArray.size - n) hsel hs hc hn (l.take n) 0 _ a (fun j hj => by
    rw [htl] at hj
    simp [hj]) (by omega) inv0 (by rw [htl]; exact hlex) h
  have K := HeadQ.wpAny (R := R) (g := l.toArray.size - n) (fun listed a' w' hw' hL => by
    have := wpAny_of_seq (md := .any) (Q' := R) (l.drop n) n listed a' w' (fun j => by simp [List.getElem?_drop]) (by simpa using hL.1) (hL.2 w' hw')
    simpa using this) _ _ _ { w with drawn := w.drawn + 1 } ⟨⟨#[], w.drawn + 1⟩, by simp [World.jk]⟩ H
  refine wp_region_any hm ?_
  rw [htl, show n + (l.toArray.size - n) = l.toArray.size by simp; omega] at K
  exact K
end
end Go
set_option linter.unusedVariables false
set_option linter.unusedSimpArgs false
namespace Go
open Go.RowKit Go.Sub
/-- Block b of w holds the cells cs. -/
def HB (w : World) (b : Nat) (cs : Array Value) (t : TypeId) : Prop := w.heap[b]? = some (.cells cs t)
theorem HB.lt {w : World} {b : Nat} {cs : Array Value} {t : TypeId} (h : HB w b cs t) : b < w.heap.size := (Array.getElem?_eq_some_iff.1 h).1
theorem HB.old {w : World} {b : Nat} {cs : Array Value} {t : TypeId} (h : HB w b cs t) : Old b w := ⟨h.lt⟩
theorem HB.cell {w : World} {b : Nat} {cs : Array Value} {t : TypeId} (h : HB w b cs t) (i : Nat) : w.cell? ⟨b, i, none⟩ = cs[i]? := cell_of_row _ _ _ cs _ (0, 0) h
theorem HB.soft {w : World} {b : Nat} {cs : Array Value} {t : TypeId} (h : HB w b cs t) (i : Nat) : w.frozen? ⟨b, i, none⟩ = false := by
  have h' : w.heap[b]? = some (.cells cs t) := h
  simp [World.frozen?, h']
theorem HB.q {w w' : World} {b : Nat} {cs : Array Value} {t : TypeId} (h : HB w b cs t) (hq : Q w w') : HB w' b cs t := (hq.below.block b h.lt).trans h
theorem HB.set {w : World} {b : Nat} {cs : Array Value} {t : TypeId} (h : HB w b cs t) (i : Nat) (v : Value) : HB (w.setCell ⟨b, i, none⟩ v) b (cs.setIfInBounds i v) t := by
  have h' : w.heap[b]? = some (.cells cs t) := h
  show (w.setCell ⟨b, i, none⟩ v).heap[b]? = _
  simp [World.setCell, Array.getElem?_modify, h']
theorem HB.other {w : World} {b c i : Nat} {v : Value} {cs : Array Value} {t : TypeId} (h : HB w c cs t) (hne : b ≠ c) : HB (w.setCell ⟨b, i, none⟩ v) c cs t := by
  have h' : w.heap[c]? = some (.cells cs t) := h
  show (w.setCell ⟨b, i, none⟩ v).heap[c]? = _
  simp [World.setCell, Array.getElem?_modify, h', hne]
theorem HB.new (w : World) (cs : Array Value) (t : TypeId) (b : Nat) (hb : b = w.heap.size) : HB (w.alloc (.cells cs t)) b cs t := by subst hb; exact heap_alloc_new w _
theorem HB.jk {w : World} {b : Nat} {cs : Array Value} {t : TypeId} (h : HB w b cs t) (k : Jk) : HB (w.jk k) b cs t := (World.block_jk k b h.lt).trans h
theorem HB.alloc {w : World} {b : Nat} {cs : Array Value} {t : TypeId} (h : HB w b cs t) (o : Obj) : HB (w.alloc o) b cs t := h.q (.alloc (.refl _) _)
theorem HB.drew {w : World} {b : Nat} {cs : Array Value} {t : TypeId} (h : HB w b cs t) : HB w.drew b cs t := h
theorem hb_swap {w : World} {o o' : Obj} {k : Jk} {b : Nat} {cs : Array Value} {t : TypeId} (h : HB ((w.alloc o).jk k) b cs t) (hne : b ≠ w.heap.size) : HB ((w.alloc o').jk k) b cs t := by
  have h' : ((w.heap.push o) ++ k.os)[b]? = some (.cells cs t) := h
  show ((w.heap.push o') ++ k.os)[b]? = some (.cells cs t)
  rw [Array.getElem?_append, Array.getElem?_push, if_neg hne, Array.size_push] at h' ⊢
  exact h'
theorem wp_world {P : Program} {c : Code} {R : Exit → Act → World → Prop} {a : Act} {w : World} (h : ∀ B, B = w → Code.wp P c R a B) : Code.wp P c R a w := h w rfl
theorem rdn_of_hb {w : World} {q : IntKind} {t : TypeId} {l : List Int} {g : Nat} (h : HB w g (cellsN q l) t) (n : Nat) (hn : n = l.length) (c : Nat) (hc : n ≤ c) : RdN w (some ⟨g, 0, none⟩) n c q l := by
  subst hn
  refine ⟨by simp, hc, fun _ => ⟨_, 0, rfl, h.lt, fun i u hi => ?_⟩, fun h => by cases h⟩
  rw [h.cell]
  simpa [cellsN] using hi
end Go
