
/- What times of package substationref01 returns. -/
import Derived.Test.YtcjflafjmdfanaaGreatDoorBv03
import Derived.Lib.Hide
import Derived.Laws.AppendOwnNone
import Derived.Test.YtcjflafjmdfanaaGreatDoorBv02
import Derived.Deep.DeepCutAuto
import Derived.Deep.CutBlock
import Derived.Laws.MakeOwn
import Derived.IntWalk
set_option maxHeartbeats 64000000
set_option linter.unusedSimpArgs false
set_option linter.unusedVariables false
/- Slices of 32-bit digits, as they lie in memory. -/
namespace Go
open Go.RowKit Go.Sub
def Rd (w : World) (A : Option Addr) (n c : Nat) (l : List Int) : Prop :=
 l.length = n ∧ n ≤ c ∧ (0 < n → ∃ g, A = some ⟨g, 0, none⟩ ∧ g < w.heap.size ∧ ∀ i, i < n → w.cell? ⟨g, i, none⟩ = some (.int .u32 (l.getD i 0))) ∧ (A = none → c = 0)
theorem Rd.q {w w' : World} {A : Option Addr} {n c : Nat} {l : List Int} (h : Rd w A n c l) (hq : Q w w') : Rd w' A n c l := by
 refine ⟨h.1, h.2.1, fun hn => ?_, h.2.2.2⟩
 obtain ⟨g, rfl, hg, hc⟩ := h.2.2.1 hn
 have hb := hq.below
 exact ⟨g, rfl, Nat.lt_of_lt_of_le hg hb.size, fun i hi => (hb.cell (p := ⟨g, i, none⟩) hg).trans (hc i hi)⟩
theorem Rd.nil (w : World) : Rd w none 0 0 [] := ⟨rfl, Nat.zero_le _, fun h => absurd h (by omega), fun _ => rfl⟩
theorem Rd.nil' (w : World) (ad : Addr) (c : Nat) : Rd w (some ad) 0 c [] := ⟨rfl, Nat.zero_le _, fun h => absurd h (by omega), fun h => by cases h⟩
theorem Rd.at_ {w : World} {A : Option Addr} {n c : Nat} {l : List Int} (h : Rd w A n c l) (hn : 0 < n) : ∃ g, A = some ⟨g, 0, none⟩ ∧ Old g w ∧ Hid (∀ i, i < n → w.cell? ⟨g, i, none⟩ = some (.int .u32 (l.getD i 0))) := by
 obtain ⟨g, e, hg, hc⟩ := h.2.2.1 hn
 exact ⟨g, e, ⟨hg⟩, hh hc⟩
theorem Rd.take {w : World} {A : Option Addr} {n c k c' : Nat} {l : List Int} (h : Rd w A n c l) (hk : k ≤ n) (hc' : k ≤ c') (hA : A = none → c' = 0) : Rd w A k c' (l.take k) := by
 refine ⟨by rw [List.length_take, h.1]; omega, hc', fun hp => ?_, hA⟩
 obtain ⟨g, e, hg, hc⟩ := h.2.2.1 (by omega)
 refine ⟨g, e, hg, fun i hi => ?_⟩
 rw [hc i (by omega)]
 simp only [List.getD_eq_getElem?_getD, List.getElem?_take]
 rw [if_pos hi]
def Fr (w : World) (A : Option Addr) : Prop := ∀ ad, A = some ad → w.heap.size ≤ ad.block
theorem Fr.q {w w' : World} {A : Option Addr} (h : Fr w' A) (hq : Q w w') : Fr w A := fun ad e => Nat.le_trans hq.below.size (h ad e)
theorem Fr.none (w : World) : Fr w none := fun _ h => by cases h
theorem World.jk_block {W W' : World} (hs : W.heap.size = W'.heap.size) (k : Jk) (i : Nat) (hi : W.heap.size ≤ i) : (W'.jk k).heap[i]? = (W.jk k).heap[i]? := by
 simp only [World.jk, Array.getElem?_append]
 rw [if_neg (by omega), if_neg (by omega), hs]
theorem Rd.swap {W W' : World} {k : Jk} {A : Option Addr} {n c : Nat} {l : List Int} (hs : W.heap.size = W'.heap.size) (h : Rd (W.jk k) A n c l) (hf : Fr W A) : Rd (W'.jk k) A n c l := by
 refine ⟨h.1, h.2.1, fun hn => ?_, h.2.2.2⟩
 obtain ⟨g, rfl, hg, hc⟩ := h.2.2.1 hn
 have hge : W.heap.size ≤ g := hf ⟨g, 0, .none⟩ rfl
 refine ⟨g, rfl, by rw [World.size_jk] at *; omega, fun i hi => ?_⟩
 rw [← hc i hi]
 exact World.cell?_of_block (w := W.jk k) (a := ⟨g, i, .none⟩) (World.jk_block hs k g hge)
theorem Rd.swap2 {W W' : World} {k k2 : Jk} {A : Option Addr} {n c : Nat} {l : List Int} (hs : W.heap.size = W'.heap.size) (h : Rd ((W.jk k).jk k2) A n c l) (hf : Fr W A) : Rd ((W'.jk k).jk k2) A n c l := by
 rw [World.jk_jk] at *
 exact h.swap hs hf
theorem Rd.swap3 {W W' : World} {k k2 k3 : Jk} {A : Option Addr} {n c : Nat} {l : List Int} (hs : W.heap.size = W'.heap.size) (h : Rd (((W.jk k).jk k2).jk k3) A n c l) (hf : Fr W A) : Rd (((W'.jk k).jk k2).jk k3) A n c l := by
 rw [World.jk_jk] at *
 exact h.swap2 hs hf
theorem Rd.swap4 {W W' : World} {k k2 k3 k4 : Jk} {A : Option Addr} {n c : Nat} {l : List Int} (hs : W.heap.size = W'.heap.size) (h : Rd ((((W.jk k).jk k2).jk k3).jk k4) A n c l) (hf : Fr W A) : Rd ((((W'.jk k).jk k2).jk k3).jk k4) A n c l := by
 rw [World.jk_jk] at *
 exact h.swap3 hs hf
theorem Rd.two (w : World) (a b : Int) (t : TypeId) : Rd (w.alloc (.cells #[.int .u32 a, .int .u32 b] t)) (some ⟨w.heap.size, 0, .none⟩) 2 2 [a, b] := by
 refine ⟨rfl, Nat.le_refl _, fun _ => ⟨_, rfl, by simp, fun i hi => ?_⟩, fun h => by cases h⟩
 rw [cell_of_row _ _ _ _ _ (0, 0) (heap_alloc_new w _)]
 match i, hi with
 | 0, _ => rfl
 | 1, _ => rfl
theorem Rd.one (w : World) (a : Int) (t : TypeId) : Rd (w.alloc (.cells #[.int .u32 a] t)) (some ⟨w.heap.size, 0, .none⟩) 1 1 [a] := by
 refine ⟨rfl, Nat.le_refl _, fun _ => ⟨_, rfl, by simp, fun i hi => ?_⟩, fun h => by cases h⟩
 rw [cell_of_row _ _ _ _ _ (0, 0) (heap_alloc_new w _)]
 match i, hi with
 | 0, _ => rfl
def RetS (l : List Int) (w : World) (e : Ending) (w' : World) : Prop := ∃ A n c k, e = .returned (.slice A n c) ∧ w' = w.jk k ∧ Rd (w.jk k) A n c l ∧ Fr w A
def RetI (b : Bool) (l : List Int) (w : World) (e : Ending) (w' : World) : Prop := ∃ A n c k, e = .returned (.agg #[.bool b, .slice A n c]) ∧ w' = w.jk k ∧ Rd (w.jk k) A n c l ∧ Fr w A
def RetI2 (b : Bool) (l : List Int) (w : World) (e : Ending) (w' : World) : Prop := ∃ A n c k, e = .returned (.tuple #[.agg #[.bool b, .slice A n c], .int .i64 0]) ∧ w' = w.jk k ∧ Rd (w.jk k) A n c l ∧ Fr w A
theorem RetS.of {l : List Int} {w w' : World} {e : Ending} {A : Option Addr} {n c : Nat} (he : e = .returned (.slice A n c)) (hq : Q w w') (hr : Rd w' A n c l) (hf : Fr w A) : RetS l w e w' := by
 obtain ⟨k, rfl⟩ := hq
 exact ⟨A, n, c, k, he, rfl, hr, hf⟩
theorem RetI.of {b : Bool} {l : List Int} {w w' : World} {e : Ending} {A : Option Addr} {n c : Nat} (he : e = .returned (.agg #[.bool b, .slice A n c])) (hq : Q w w') (hr : Rd w' A n c l) (hf : Fr w A) : RetI b l w e w' := by
 obtain ⟨k, rfl⟩ := hq
 exact ⟨A, n, c, k, he, rfl, hr, hf⟩
theorem RetI2.of {b : Bool} {l : List Int} {w w' : World} {e : Ending} {A : Option Addr} {n c : Nat} (he : e = .returned (.tuple #[.agg #[.bool b, .slice A n c], .int .i64 0])) (hq : Q w w') (hr : Rd w' A n c l) (hf : Fr w A) : RetI2 b l w e w' := by
 obtain ⟨k, rfl⟩ := hq
 exact ⟨A, n, c, k, he, rfl, hr, hf⟩
theorem Rd.one' (w : World) (a : Int) (t : TypeId) (g : Nat) (hg : g = w.heap.size) : Rd (w.alloc (.cells #[.int .u32 a] t)) (some ⟨g, 0, .none⟩) 1 1 [a] := hg ▸ Rd.one w a t
def RetV (v : Int) (N : Nat) (w : World) (e : Ending) (w' : World) : Prop := ∃ l A n c k, e = .returned (.slice A n c) ∧ w' = w.jk k ∧ Rd (w.jk k) A n c l ∧ Fr w A ∧ Dg l ∧ dval l = v ∧ n ≤ N
theorem RetV.of {v : Int} {N : Nat} {l : List Int} {w w' : World} {e : Ending} {A : Option Addr} {n c : Nat} (he : e = .returned (.slice A n c)) (hq : Q w w') (hr : Rd w' A n c l) (hf : Fr w A) (hd : Dg l) (hv : dval l = v) (hn : n ≤ N) : RetV v N w e w' := by
 obtain ⟨k, rfl⟩ := hq
 exact ⟨l, A, n, c, k, he, rfl, hr, hf, hd, hv, hn⟩
end Go
namespace Go.Proofs.YtcjflafjmdfanaaGreatDoor
open Go.RowKit Go.Sub
theorem infoU32 : ∃ i, Tryz.prog.info? 240 = some i ∧ i.zero = some (.int .u32 0) ∧ i.size = 1 ∧ i.bytes = 4 := by
 have h : (Tryz.prog.info? 240).map (fun i => (i.zero, i.size, i.bytes)) = some (some (.int .u32 0), 1, 4) := by kernel_rfl
 cases hi : Tryz.prog.info? 240 with
 | none => rw [hi] at h; cases h
 | some i =>
  rw [hi] at h
  simp only [Option.map_some, Option.some.injEq, Prod.mk.injEq] at h
  exact ⟨i, rfl, h.1, h.2.1, h.2.2⟩
def RowU (W0 w : World) (v : Value) (zs : List Int) : Prop := w.ownsRow W0.heap.size 240 1 v zs.length (zs.map (Value.int .u32))
theorem RowU.nil (W0 w : World) : RowU W0 w (.slice none 0 0) [] := World.ownsRow_nil _ _ _ _
theorem RowU.q {W0 w w' : World} {v : Value} {zs : List Int} (h : RowU W0 w v zs) (hq : Q w w') : RowU W0 w' v zs := ownsRow_q h hq
theorem RowU.rd {W0 w : World} {v : Value} {zs : List Int} (h : RowU W0 w v zs) : ∃ A c, v = .slice A zs.length c ∧ Rd w A zs.length c zs := by
 rcases h.2 with ⟨rfl, h0⟩ | ⟨g, cap, cur, rfl, hb, hg, hc, _, hcs, htake⟩
 ·have : zs = [] := List.eq_nil_of_length_eq_zero h0
  subst this
  exact ⟨none, 0, rfl, Rd.nil _⟩
 refine ⟨_, cap, rfl, rfl, hc, fun hn => ⟨g, rfl, (h.lt g rfl).2, fun k hk => ?_⟩, fun h => by cases h⟩
 have := h.cells (g := g) rfl k (.int .u32 (zs.getD k 0)) (by simp [List.getD, hk])
 have e : (⟨g, 0, none⟩ : Addr).add k = ⟨g, k, none⟩ := by unfold Addr.add; split <;> simp_all
 rw [e] at this
 exact this
theorem wpList_app_u32 {ops : Array Oper} {rest : List Oper} {o : Oper} {a : Act} {w : World} {Q' : Exit → Act → World → Prop} (hgd : o.guard = none) (s x : Operand)
  (ho : o.op = .call { callee := .builtin .append, args := #[s, x], argTypes := #[194, 194] }) (W0 : World) (v : Value) (zs ys : List Int) (n m : Nat) (A : Option Addr) (c : Nat)
  (hs : a.eval s = v) (hx : a.eval x = .slice A m c) (hown : RowU W0 w v zs) (hzn : zs.length = n) (hrd : Rd w A m c ys) (hlen : n + m < 1000000) (hQ : Q W0 w)
  (h : ∀ A' c' kk, RowU W0 (W0.jk kk) (.slice A' (n + m) c') (zs ++ ys) → wpList Tryz.prog ops Q' rest (a.put o.dst (.slice A' (n + m) c')) (W0.jk kk)) : wpList Tryz.prog ops Q' (o :: rest) a w := by
 obtain ⟨i, hi, hz, hs1, hb⟩ := infoU32
 subst hzn
 obtain rfl : ys.length = m := hrd.1
 rcases Nat.eq_zero_or_pos ys.length with h0 | h0
 ·have hy : ys = [] := List.eq_nil_of_length_eq_zero h0
  subst hy
  obtain ⟨A', c', rfl, hr'⟩ := hown.rd
  obtain ⟨kk, rfl⟩ := hQ
  rcases A with _ | ad
  ·obtain rfl : c = 0 := hrd.2.2.2 rfl
   refine wpList_append_own_none hgd s x 194 ho W0.heap.size 240 i 1 Tryz.underlying194 hi _ zs.length _ hs hown hx ?_
   have := h A' c' kk (by simpa using hown)
   simpa using this
  refine wpList_app hgd s x 194 ho W0 240 i (.int .u32 0) 1 4 Tryz.underlying194 hi hz hs1 hb rfl (by decide) _ _ _ hs hown ad 0 c [] hx rfl (fun j u hj => by simp at hj) (fun u hu => by simp at hu) (by unfold maxLen; omega) (by omega) ⟨kk, rfl⟩ ?_
  intro v' k2 h1 _
  have h1' : RowU W0 (W0.jk k2) v' zs := by unfold RowU; simpa using h1
  obtain ⟨A2, c2, rfl, _⟩ := h1'.rd
  have := h A2 c2 k2 (by simpa using h1')
  simpa using this
 obtain ⟨g, rfl, hg, hc⟩ := hrd.2.2.1 h0
 refine wpList_app hgd s x 194 ho W0 240 i (.int .u32 0) 1 4 Tryz.underlying194 hi hz hs1 hb rfl (by decide) v _ _ hs hown ⟨g, 0, none⟩ ys.length c (ys.map (Value.int .u32)) hx (by simp) ?_ ?_ (by unfold maxLen; omega) (by omega) hQ ?_
 ·intro j u hj
  have e : (⟨g, 0, none⟩ : Addr).add j = ⟨g, j, none⟩ := by unfold Addr.add; split <;> simp_all
  rw [List.getElem?_map] at hj
  obtain ⟨z, hz1, rfl⟩ := Option.map_eq_some_iff.1 hj
  have hjl : j < ys.length := (List.getElem?_eq_some_iff.1 hz1).1
  rw [e, hc j hjl]
  simp [List.getD, hz1]
 ·intro u hu
  obtain ⟨z, _, rfl⟩ := List.mem_map.1 hu
  rfl
 intro v' kk h1 _
 have h1' : RowU W0 (W0.jk kk) v' (zs ++ ys) := by unfold RowU; simpa using h1
 obtain ⟨A', c', rfl, _⟩ := h1'.rd
 have := h A' c' kk (by simpa using h1')
 simpa using this
theorem RowU.empty (w : World) : RowU w (w.alloc (.cells #[] 240)) (.slice (some ⟨w.heap.size, 0, none⟩) 0 0) [] :=
 ⟨by simp, .inr ⟨w.heap.size, 0, #[], rfl, Nat.le_refl _, heap_alloc_new w _, Nat.le_refl _, by unfold maxLen; omega, rfl, rfl⟩⟩
theorem RowU.fr {W0 w : World} {A : Option Addr} {n c : Nat} {zs : List Int} (h : RowU W0 w (.slice A n c) zs) : Fr W0 A := by
 intro ad e
 subst e
 exact (h.lt ad.block rfl).1
theorem RowU.rd' {W0 w : World} {A : Option Addr} {n c : Nat} {zs : List Int} (h : RowU W0 w (.slice A n c) zs) : Rd w A n c zs := by
 obtain ⟨A', c', e, hr⟩ := h.rd
 injection e with e1 e2 e3
 subst e1 e2 e3
 exact hr
end Go.Proofs.YtcjflafjmdfanaaGreatDoor
/- Products, sums and differences of digits: the steps of the loops. No program in sight. -/
namespace Go.Sub
theorem mul_bd {x y : Int} (hx : 0 ≤ x ∧ x < 4294967296) (hy : 0 ≤ y ∧ y < 4294967296) : 0 ≤ x * y ∧ x * y ≤ 18446744065119617025 := by
 have h1 := Int.mul_nonneg hx.1 hy.1
 have h2 := Int.mul_le_mul (show x ≤ 4294967295 by omega) (show y ≤ 4294967295 by omega) hy.1 (by decide)
 omega
structure MulInv (a b o : List Int) (i k : Nat) (c : Int) : Prop where
 len : o.length = a.length + b.length
 dg : Dg o
 c0 : 0 ≤ c
 c1 : c < 4294967296
 zero : ∀ j, i + b.length ≤ j → o.getD j 0 = 0
 val : dval o + wt (i + k) * c = dval (a.take i) * dval b + wt i * (a.getD i 0 * dval (b.take k))
theorem MulInv.step {a b o : List Int} {i k : Nat} {c t : Int} (h : MulInv a b o i k c) (ha : Dg a) (hb : Dg b) (hi : i < a.length) (hk : k < b.length) (ht : t = a.getD i 0 * b.getD k 0 + o.getD (i + k) 0 + c) :
  MulInv a b (o.set (i + k) (t % 4294967296)) i (k + 1) (t / 4294967296) ∧ 0 ≤ t ∧ t < 18446744073709551616 := by
 have h1 := mul_bd (ha.getD i) (hb.getD k)
 have h2 := h.dg.getD (i + k)
 have h3 := h.c0
 have h4 := h.c1
 have hl := h.len
 have ht0 : 0 ≤ t := by omega
 have ht1 : t < 18446744073709551616 := by omega
 refine ⟨⟨by simp [hl], h.dg.set _ (by omega) (by omega), by omega, by omega, fun j hj => ?_, ?_⟩, ht0, ht1⟩
 ·rw [List.getD_eq_getElem?_getD, List.getElem?_set_ne (by omega), ← List.getD_eq_getElem?_getD]
  exact h.zero j hj
 have hv := h.val
 rw [dval_set _ _ (by omega), dval_take_succ b k hk]
 have e1 : wt (i + (k + 1)) = 4294967296 * wt (i + k) := by rw [show i + (k + 1) = i + k + 1 by omega]; rfl
 have e2 : wt (i + k) = wt i * wt k := wt_add i k
 rw [e1]
 generalize dval o = D at *
 generalize dval (a.take i) * dval b = X at *
 generalize dval (b.take k) = Y at *
 generalize o.getD (i + k) 0 = z at *
 generalize a.getD i 0 = x at *
 generalize b.getD k 0 = y at *
 have e3 : t % 4294967296 = t - 4294967296 * (t / 4294967296) := by omega
 rw [e3]
 generalize t / 4294967296 = q at *
 subst ht
 rw [e2] at *
 generalize wt i = p at *
 generalize wt k = r at *
 grind
theorem MulInv.row {a b o : List Int} {i : Nat} {c : Int} (h : MulInv a b o i b.length c) (hi : i < a.length) : MulInv a b (o.set (i + b.length) c) (i + 1) 0 0 := by
 have hl := h.len
 refine ⟨by simp [hl], h.dg.set _ h.c0 h.c1, by decide, by decide, fun j hj => ?_, ?_⟩
 ·rw [List.getD_eq_getElem?_getD, List.getElem?_set_ne (by omega), ← List.getD_eq_getElem?_getD]
  exact h.zero j (by omega)
 have hv := h.val
 rw [dval_set _ _ (by omega), h.zero (i + b.length) (Nat.le_refl _), dval_take_succ a i hi, Int.mul_zero, Int.add_zero]
 rw [List.take_length] at hv
 simp only [List.take_zero, dval, Int.mul_zero, Int.add_zero, Int.sub_zero]
 rw [Int.add_mul, ← Int.mul_assoc (wt i)] at *
 omega
theorem MulInv.start (a b : List Int) : MulInv a b (List.replicate (a.length + b.length) 0) 0 0 0 := by
 have hz : ∀ n, dval (List.replicate n 0) = 0 := fun n => by
  induction n with
  | zero => rfl
  | succ n ih => rw [List.replicate_succ]; simp [dval, ih]
 refine ⟨by simp, fun d hd => by have := List.eq_of_mem_replicate hd; omega, by decide, by decide, fun j _ => ?_, ?_⟩
 ·simp [List.getD, List.getElem?_replicate]
  split <;> rfl
 rw [hz]
 simp [dval]
theorem MulInv.done {a b o : List Int} (h : MulInv a b o a.length 0 0) : dval o = dval a * dval b := by
 have := h.val
 simpa [List.take_length, dval] using this
structure AddInv (a b o : List Int) (i : Nat) (c : Int) : Prop where
 len : o.length = i
 dg : Dg o
 c0 : 0 ≤ c
 c1 : c ≤ 1
 val : dval o + wt i * c = dval (a.take i) + dval (b.take i)
theorem dval_take_next (a : List Int) (i : Nat) : dval (a.take (i + 1)) = dval (a.take i) + wt i * a.getD i 0 := by
 rcases Nat.lt_or_ge i a.length with h | h
 ·exact dval_take_succ a i h
 rw [List.take_of_length_le (by omega), List.take_of_length_le h, getD_ge h]
 omega
theorem AddInv.step {a b o : List Int} {i : Nat} {c t : Int} (h : AddInv a b o i c) (ha : Dg a) (hb : Dg b) (ht : t = c + a.getD i 0 + b.getD i 0) :
  AddInv a b (o ++ [t % 4294967296]) (i + 1) (t / 4294967296) ∧ 0 ≤ t ∧ t < 8589934592 := by
 have h1 := ha.getD i
 have h2 := hb.getD i
 have h3 := h.c0
 have h4 := h.c1
 have hl := h.len
 refine ⟨⟨by simp [hl], h.dg.append (Dg.cons (by omega) (by omega) Dg.nil), by omega, by omega, ?_⟩, by omega, by omega⟩
 have hv := h.val
 rw [dval_snoc, dval_take_next, dval_take_next, hl]
 have e1 : wt (i + 1) = 4294967296 * wt i := rfl
 have e3 : t % 4294967296 = t - 4294967296 * (t / 4294967296) := by omega
 rw [e1, e3]
 generalize t / 4294967296 = q at *
 generalize dval o = D at *
 generalize dval (a.take i) = X at *
 generalize dval (b.take i) = Y at *
 generalize a.getD i 0 = x at *
 generalize b.getD i 0 = y at *
 subst ht
 generalize wt i = p at *
 grind
theorem AddInv.start (a b : List Int) : AddInv a b [] 0 0 := ⟨rfl, Dg.nil, by decide, by decide, by simp [dval]⟩
theorem AddInv.done {a b o : List Int} {i : Nat} (h : AddInv a b o i 0) (ha : a.length ≤ i) (hb : b.length ≤ i) : dval o = dval a + dval b := by
 have := h.val
 rw [List.take_of_length_le ha, List.take_of_length_le hb] at this
 omega
structure SubInv (a b o : List Int) (i : Nat) (c : Int) : Prop where
 len : o.length = i
 dg : Dg o
 c0 : 0 ≤ c
 c1 : c ≤ 1
 val : dval o = dval (a.take i) - dval (b.take i) + wt i * c
theorem SubInv.step {a b o : List Int} {i : Nat} {c t : Int} (h : SubInv a b o i c) (ha : Dg a) (hb : Dg b) (ht : t = (a.getD i 0 - c - b.getD i 0) % 18446744073709551616) :
  SubInv a b (o ++ [t % 4294967296]) (i + 1) (t / 9223372036854775808) ∧ 0 ≤ t ∧ t < 18446744073709551616 := by
 have h1 := ha.getD i
 have h2 := hb.getD i
 have h3 := h.c0
 have h4 := h.c1
 have hl := h.len
 refine ⟨⟨by simp [hl], h.dg.append (Dg.cons (by omega) (by omega) Dg.nil), by omega, by omega, ?_⟩, by omega, by omega⟩
 have hv := h.val
 rw [dval_snoc, dval_take_next, dval_take_next, hl]
 have e1 : wt (i + 1) = 4294967296 * wt i := rfl
 have e3 : t % 4294967296 = a.getD i 0 - c - b.getD i 0 + 4294967296 * (t / 9223372036854775808) := by omega
 rw [e1, e3]
 generalize t / 9223372036854775808 = q at *
 generalize dval o = D at *
 generalize dval (a.take i) = X at *
 generalize dval (b.take i) = Y at *
 generalize a.getD i 0 = x at *
 generalize b.getD i 0 = y at *
 clear ht e3 e1
 generalize wt i = p at *
 grind
theorem SubInv.start (a b : List Int) : SubInv a b [] 0 0 := ⟨rfl, Dg.nil, by decide, by decide, by simp [dval]⟩
theorem SubInv.done {a b o : List Int} {c : Int} (h : SubInv a b o a.length c) (hb : b.length ≤ a.length) (hle : dval b ≤ dval a) : dval o = dval a - dval b := by
 have hv := h.val
 have h1 := dval_lt h.dg
 rw [h.len] at h1
 rw [List.take_length, List.take_of_length_le hb] at hv
 have h0 := h.c0
 have h2 := h.c1
 have hc : c = 0 ∨ c = 1 := by omega
 rcases hc with rfl | rfl
 ·omega
 omega
theorem len_le_of_dval {a b : List Int} (ha : Dg a) (hb : Dg b) (tb : Tr b) (h : dval b ≤ dval a) : b.length ≤ a.length := by
 rcases Nat.lt_or_ge a.length b.length with hx | hx
 ·have := dval_longer ha hb tb hx
  omega
 exact hx
def cmpI (x y : Int) : Int := if x < y then -1 else if y < x then 1 else 0
end Go.Sub
/- What trim, compare, Valid, made, digits and Of of package substationref01 return. -/
namespace Go.Sub
def trL (l : List Int) : List Int := dig (dval l).toNat
theorem trL_of {l : List Int} {k : Nat} (hl : Dg l) (hk : k ≤ l.length) (hz : ∀ j, k ≤ j → l.getD j 0 = 0) (ht : k = 0 ∨ l.getD (k - 1) 0 ≠ 0) : l.take k = trL l := by
 unfold trL
 rw [← dval_take_zeros l k hz]
 exact eq_dig (hl.take k) (Tr.take hk ht)
end Go.Sub
namespace Go.Proofs.YtcjflafjmdfanaaGreatDoor
open Go.RowKit Go.Sub
theorem r1trim_any (A : Option Addr) (n c : Nat) (l : List Int) (w : World) (h : Rd w A n c l) (hd : Dg l) (hn : n < 100000) :
  Calls Tryz.prog 180 #[.slice A n c] w (RetS (trL l) w) := by
 rcases Nat.eq_zero_or_pos n with rfl | hp
 ·obtain rfl : l = [] := List.eq_nil_of_length_eq_zero h.1
  have HT : Hid ([] = trL []) := hh (by unfold trL; simp [dval, dig_zero])
  have HR := hh h
  rcases A with _ | ad
  ·obtain rfl : c = 0 := h.2.2.2 rfl
   clear h
   go_enter Tryz.func180, Tryz.ntmps180
   go_wp2
   refine wp_loop_rounds 1 ?_
   rw [rounds_succ]
   go_wp2_with (at_builtin; refine wpList_app_u32 rfl (.tmp 18) (.tmp 21) rfl w _ [] [] 0 0 none 0 (by rfl) (by rfl) (RowU.empty w) rfl (HR.o.q ((Q.refl _).alloc _)) (by omega) ((Q.refl _).alloc _) ?_; intro A' c' kk hrow)
   go_ret
   exact ⟨A', 0, c', kk, rfl, rfl, by rw [← HT.o]; exact hrow.rd', hrow.fr⟩
  clear h
  go_enter Tryz.func180, Tryz.ntmps180
  go_wp2
  refine wp_loop_rounds 1 ?_
  rw [rounds_succ]
  go_wp2_with (at_builtin; refine wpList_app_u32 rfl (.tmp 18) (.tmp 21) rfl w _ [] [] 0 0 (some ad) c (by rfl) (by rfl) (RowU.empty w) rfl (HR.o.q ((Q.refl _).alloc _)) (by omega) ((Q.refl _).alloc _) ?_; intro A' c' kk hrow)
  go_ret
  exact ⟨A', 0, c', kk, rfl, rfl, by rw [← HT.o]; exact hrow.rd', hrow.fr⟩
 obtain ⟨g, rfl, hOld, hc⟩ := h.at_ hp
 have HR := hh h
 have hl := h.1
 have hcap := h.2.1
 have HL := hh hl
 clear h hl
 go_enter Tryz.func180, Tryz.ntmps180
 go_upto_block 0 with (fail)
 go_cut [3] (fun i wx => ∃ k : Nat, i = .int .i64 k ∧ k ≤ n ∧ Hid (l.take k = trL l) ∧ w = wx)
 case first =>
  go_wp2_with fail
  go_loop [3] (fun i => ∃ k : Nat, i = .int .i64 k ∧ k ≤ n ∧ Hid (∀ j, k ≤ j → l.getD j 0 = 0)) (fun i => (intOf i).toNat)
  case atStart => exact ⟨n, rfl, Nat.le_refl _, hh fun j hj => getD_ge (by rw [HL.o]; exact hj)⟩
  case round =>
   obtain ⟨k, rfl, hk, HZ⟩ := hrel
   rcases k with _ | j
   ·go_wp2
    go_meet
    exact ⟨0, rfl, by omega, hh (trL_of hd (by omega) HZ.o (.inl rfl)), rfl⟩
   have hcj := hc.o j (by omega)
   have hj : j < n := by omega
   by_cases hz : l.getD j 0 = 0
   rotate_left
   ·have HZ1 := hh hz
    obtain ⟨d, ed⟩ : ∃ d, l.getD j 0 = d := ⟨_, rfl⟩
    rw [ed] at hcj hz
    have hz1 : (d == 0) = false := by simpa using hz
    clear ed hz
    go_wp2
    go_meet
    exact ⟨j + 1, rfl, by omega, hh (trL_of hd (by rw [HL.o]; omega) HZ.o (.inr HZ1.o)), rfl⟩
   have HZ0 := hh hz
   rw [hz] at hcj
   clear hz
   go_wp2
   go_round
   case rel => exact ⟨j, rfl, by omega, hh fun i hi => by
    rcases Nat.lt_or_ge j i with h1 | h1
    ·exact HZ.o i h1
    obtain rfl : i = j := by omega
    exact HZ0.o⟩
   case measure => simp [intOf]
 case rest =>
  obtain ⟨k, rfl, hk, HT, rfl⟩ := hcut
  go_wp2_with (at_builtin; refine wpList_app_u32 rfl (.tmp 18) (.tmp 21) rfl w _ [] (l.take k) 0 k (some ⟨g, 0, none⟩) c (by rfl) (by rfl) (RowU.empty w) rfl ((HR.o.take hk (by omega) (fun h => by cases h)).q ((Q.refl _).alloc _)) (by omega) ((Q.refl _).alloc _) ?_; intro A' c' kk hrow)
  go_ret
  refine ⟨A', k, c', kk, rfl, rfl, ?_, hrow.fr⟩
  rw [← HT.o]
  have := hrow.rd'
  rwa [Nat.zero_add] at this
theorem r1compare_any (A : Option Addr) (n c : Nat) (l : List Int) (B : Option Addr) (m d : Nat) (r : List Int) (w : World) (h1 : Rd w A n c l) (h2 : Rd w B m d r) (dl : Dg l) (dr : Dg r) (tl : Tr l) (tr : Tr r) (hn : n < 100000) (hm : m < 100000) :
  Calls Tryz.prog 164 #[.slice A n c, .slice B m d] w fun e w' => e = .returned (.int .i64 (cmpI (dval l) (dval r))) ∧ Q w w' := by
 have l1 := h1.1
 have l2 := h2.1
 rcases Nat.lt_trichotomy n m with hlt | heq | hgt
 ·have hv := dval_longer dl dr tr (by omega)
  have e : cmpI (dval l) (dval r) = -1 := by simp [cmpI, hv]
  rw [e]
  have q1 : ((n : Int) != (m : Int)) = true := by simp; omega
  clear h1 h2 e l1 l2 hv
  go_enter Tryz.func164, Tryz.ntmps164
  go_wp2
  go_ret
  exact ⟨rfl, Q.refl _⟩
 ·subst heq
  have L1 := hh l1
  have L2 := hh l2
  clear l1 l2
  rcases Nat.eq_zero_or_pos n with rfl | hp
  ·have e : cmpI (dval l) (dval r) = 0 := by
    rw [List.eq_nil_of_length_eq_zero L1.o, List.eq_nil_of_length_eq_zero L2.o]
    rfl
   rw [e]
   clear e h1 h2
   go_enter Tryz.func164, Tryz.ntmps164
   go_wp2
   refine wp_loop_rounds 1 ?_
   rw [rounds_succ]
   go_wp2
   go_ret
   exact ⟨rfl, Q.refl _⟩
  obtain ⟨g, rfl, hOld, hc⟩ := h1.at_ hp
  obtain ⟨g', rfl, hOld', hc'⟩ := h2.at_ hp
  clear h1 h2
  go_enter Tryz.func164, Tryz.ntmps164
  go_wp2
  go_loopw [5] (fun i wr => ∃ k : Nat, i = .int .i64 ((k : Int) - 1) ∧ k ≤ n ∧ Hid (∀ j, k ≤ j → l.getD j 0 = r.getD j 0) ∧ Q w wr) (fun i _ => (intOf i + 1).toNat)
  case atStart => exact ⟨n, rfl, Nat.le_refl _, hh fun j hj => by rw [getD_ge (by rw [L1.o]; exact hj), getD_ge (by rw [L2.o]; exact hj)], Q.refl _⟩
  case round =>
   obtain ⟨k, rfl, hk, HZ, kw, rfl⟩ := hrel
   rcases k with _ | j
   ·have e : cmpI (dval l) (dval r) = 0 := by
     have := dval_same l r (fun j => HZ.o j (Nat.zero_le _))
     simp [cmpI, this]
    have E := hh e
    clear e
    go_wp2
    go_ret
    exact ⟨by rw [E.o]; rfl, (Q.refl _).jk _⟩
   rw [show ((j + 1 : Nat) : Int) - 1 = (j : Int) by omega]
   have hcj := hc.o j (by omega)
   have hcj' := hc'.o j (by omega)
   have hj : j < n := by omega
   obtain ⟨x, ex⟩ : ∃ x, l.getD j 0 = x := ⟨_, rfl⟩
   obtain ⟨y, ey⟩ : ∃ y, r.getD j 0 = y := ⟨_, rfl⟩
   rw [ex] at hcj
   rw [ey] at hcj'
   have EX := hh ex
   have EY := hh ey
   clear ex ey
   rcases Int.lt_trichotomy x y with hxy | hxy | hxy
   ·have E : Hid (cmpI (dval l) (dval r) = -1) := hh (by
     have := dval_order dl dr j (by rw [L1.o]; exact hj) (by rw [L2.o]; exact hj) (fun i hi => HZ.o i hi) (by rw [EX.o, EY.o]; exact hxy)
     simp [cmpI, this])
    go_wp2
    try simp only [List.append]
    refine wrj (by kernel_rfl) ?_
    repeat (go_big_quiet_step (fail))
    refine wq0 fun kq => ?_
    go_wp2
    go_ret
    exact ⟨by rw [E.o]; rfl, ((Q.refl _).jk _).jk _⟩
   ·subst hxy
    go_wp2
    try simp only [List.append]
    refine wrj (by kernel_rfl) ?_
    repeat (go_big_quiet_step (fail))
    refine wq0 fun kq => ?_
    go_wp2
    try simp only [List.append]
    refine wrj (by kernel_rfl) ?_
    repeat (go_big_quiet_step (fail))
    refine wq0 fun kq => ?_
    go_wp2
    go_roundw
    case rel => exact ⟨j, rfl, by omega, hh fun i hi => by
     rcases Nat.lt_or_ge j i with h1 | h1
     ·exact HZ.o i h1
     obtain rfl : i = j := by omega
     rw [EX.o, EY.o], (((Q.refl _).jk _).jk _).jk _⟩
    case measure => simp [intOf]
   have E : Hid (cmpI (dval l) (dval r) = 1) := hh (by
    have := dval_order dr dl j (by rw [L2.o]; exact hj) (by rw [L1.o]; exact hj) (fun i hi => (HZ.o i hi).symm) (by rw [EX.o, EY.o]; exact hxy)
    simp [cmpI, this]
    omega)
   go_wp2
   try simp only [List.append]
   refine wrj (by kernel_rfl) ?_
   repeat (go_big_quiet_step (fail))
   refine wq0 fun kq => ?_
   go_wp2
   try simp only [List.append]
   refine wrj (by kernel_rfl) ?_
   repeat (go_big_quiet_step (fail))
   refine wq0 fun kq => ?_
   go_wp2
   go_ret
   exact ⟨by rw [E.o]; rfl, (((Q.refl _).jk _).jk _).jk _⟩
 have hv := dval_longer dr dl tl (by omega)
 have e : cmpI (dval l) (dval r) = 1 := by simp [cmpI, hv]; omega
 rw [e]
 have q1 : ((n : Int) != (m : Int)) = true := by simp; omega
 have q2 : decide ((n : Int) < (m : Int)) = false := by simp; omega
 clear h1 h2 e l1 l2 hv
 go_enter Tryz.func164, Tryz.ntmps164
 go_wp2
 go_ret
 exact ⟨rfl, Q.refl _⟩
end Go.Proofs.YtcjflafjmdfanaaGreatDoor
namespace Go.Sub
def cellsU (o : List Int) : Array Value := (o.map (Value.int .u32)).toArray
theorem cellsU_at {o : List Int} {j : Nat} (h : j < o.length) : (cellsU o)[j]? = some (.int .u32 (o.getD j 0)) := by
 simp [cellsU, List.getD, h]
theorem cellsU_set (o : List Int) (j : Nat) (d : Int) : (cellsU o).setIfInBounds j (.int .u32 d) = cellsU (o.set j d) := by
 simp [cellsU, List.map_set]
theorem madeCells_u32 (n : Nat) : madeCells (Value.int .u32 0).cells n = cellsU (List.replicate n 0) := by
 unfold madeCells cellsU
 apply Array.ext
 ·simp
 intro i h1 h2
 have e : i % 1 = 0 := Nat.mod_one i
 simp [Value.cells, e]
end Go.Sub
namespace Go.Proofs.YtcjflafjmdfanaaGreatDoor
open Go.RowKit Go.Sub
theorem make_u32 (w : World) (k : Int) (n : Nat) (hk : k = n) (hn : n < 1000000) :
  (Instr.makeSlice 194 (.int .i64 k) (.int .i64 k)).run Tryz.prog w = .ok (.slice (some ⟨w.heap.size, 0, none⟩) n n) (w.alloc (.cells (cellsU (List.replicate n 0)) 240)) := by
 obtain ⟨i, hi, hz, hs1, hb⟩ := infoU32
 subst hk
 have := run_make (P := Tryz.prog) w 194 240 i (.int .u32 0) Tryz.underlying194 hi hz .i64 .i64 n n (by omega) (Int.le_refl _) (by rw [hb]; omega) (by omega)
 rw [this, hs1]
 simp only [Int.toNat_natCast, Nat.mul_one]
 rw [madeCells_u32]
theorem r1times_any (A : Option Addr) (n c : Nat) (l : List Int) (B : Option Addr) (m d : Nat) (r : List Int) (w : World) (h1 : Rd w A n c l) (h2 : Rd w B m d r) (dl : Dg l) (dr : Dg r) (hn : n < 10000) (hm : m < 10000) :
  Calls Tryz.prog 179 #[.slice A n c, .slice B m d] w (RetS (dig (dval l * dval r).toNat) w) := by
 have L1 := hh h1.1
 have L2 := hh h2.1
 have H1 := hh h1
 have H2 := hh h2
 clear h1 h2
 have hmk := make_u32 w (n + m) (n + m) (by omega) (by omega)
 go_enter Tryz.func179, Tryz.ntmps179
 go_wp2
 clear hmk
 go_loopw [6] (fun i wr => ∃ (k : Nat) (o : List Int) (kx : Jk), i = .int .i64 k ∧ k ≤ n ∧ Hid (MulInv l r o k 0 0) ∧ wr = (w.alloc (.cells (cellsU o) 240)).jk kx) (fun i _ => n - (intOf i).toNat)
 case atStart =>
  obtain ⟨k0, hk0⟩ := Q.refl (w.alloc (.cells (cellsU (List.replicate (n + m) 0)) 240))
  exact ⟨0, List.replicate (n + m) 0, k0, rfl, Nat.zero_le _, hh (by have := MulInv.start l r; rwa [L1.o, L2.o] at this), hk0⟩
 case round =>
  obtain ⟨k, o, kx, rfl, hk, HI, rfl⟩ := hrel
  rcases Nat.lt_or_ge k n with hlt | hge
  ·obtain ⟨g, rfl, hOld, hc⟩ := H1.o.at_ (by omega)
   have hcx := hc.o k hlt
   obtain ⟨x, ex⟩ : ∃ x, l.getD k 0 = x := ⟨_, rfl⟩
   rw [ex] at hcx
   have EX := hh ex
   have hx : 0 ≤ x ∧ x < 4294967296 := ex ▸ dl.getD k
   obtain ⟨hx0, hx1⟩ := hx
   clear ex hc
   go_upto_block 2 with (fail)
   go_cut [7] (fun s7 wx => ∃ (q : Int) (o : List Int) (kx : Jk), s7 = .int .u64 q ∧ 0 ≤ q ∧ q < 4294967296 ∧ Hid (MulInv l r o k m q) ∧ wx = (w.alloc (.cells (cellsU o) 240)).jk kx)
   case first =>
    go_wp2_with fail
    go_loopw [7, 8] (fun s7 s8 wr => ∃ (q : Int) (j : Nat) (o : List Int) (kx : Jk), s7 = .int .u64 q ∧ s8 = .int .i64 j ∧ j ≤ m ∧ 0 ≤ q ∧ q < 4294967296 ∧ Hid (MulInv l r o k j q) ∧ wr = (w.alloc (.cells (cellsU o) 240)).jk kx) (fun _ s8 _ => m - (intOf s8).toNat)
    case atStart => exact ⟨0, 0, o, kx, rfl, rfl, Nat.zero_le _, by decide, by decide, HI, rfl⟩
    case round =>
     clear HI
     obtain ⟨q, j, o, kx, rfl, rfl, hj, hq0, hq1, HI, rfl⟩ := hrel
     rcases Nat.lt_or_ge j m with hjl | hjg
     ·obtain ⟨g', rfl, hOld', hc'⟩ := H2.o.at_ (by omega)
      have hcy := hc'.o j hjl
      obtain ⟨y, ey⟩ : ∃ y, r.getD j 0 = y := ⟨_, rfl⟩
      rw [ey] at hcy
      have EY := hh ey
      have hy : 0 ≤ y ∧ y < 4294967296 := ey ▸ dr.getD j
      obtain ⟨hy0, hy1⟩ := hy
      clear ey hc'
      have hol : o.length = n + m := by rw [HI.o.len, L1.o, L2.o]
      have hcz := cellsU_at (o := o) (j := k + j) (by omega)
      obtain ⟨z, ez⟩ : ∃ z, o.getD (k + j) 0 = z := ⟨_, rfl⟩
      rw [ez] at hcz
      have EZ := hh ez
      have hz : 0 ≤ z ∧ z < 4294967296 := ez ▸ HI.o.dg.getD (k + j)
      obtain ⟨hz0, hz1⟩ := hz
      clear ez hol
      obtain ⟨ST, t0, t1⟩ := HI.o.step (t := x * y + z + q) dl dr (by rw [L1.o]; exact hlt) (by rw [L2.o]; exact hjl) (by rw [EX.o, EY.o, EZ.o])
      have HS := hh ST
      clear ST
      have hb := mul_bd ⟨hx0, hx1⟩ ⟨hy0, hy1⟩
      have HC := hh (cellsU_set o (k + j) ((x * y + z + q) % 4294967296))
      have E1 : IntKind.u64.wrap (x * y) = x * y := IntWalk.u64_in _ (by omega)
      have E2 : IntKind.u64.wrap (x * y + z) = x * y + z := IntWalk.u64_in _ (by omega)
      have E3 : IntKind.u64.wrap (x * y + z + q) = x * y + z + q := IntWalk.u64_in _ (by omega)
      have E4 : IntKind.i64.wrap ((k : Int) + (j : Int)) = (k : Int) + (j : Int) := IntWalk.i64_in _ (by omega)
      have E5 : ((k : Int) + (j : Int)).toNat = k + j := by omega
      have hkj : k + j < n + m := by omega
      go_wp2
      refine wrj (by kernel_rfl) ?_
      repeat (go_big_quiet_step (fail))
      refine wq0 fun kq => ?_
      clear E1 E2 E3 E4 E5
      go_wp2
      go_roundw
      case rel => exact ⟨_, j + 1, _, _, rfl, by go_num, by omega, HS.o.c0, HS.o.c1, HS, by rw [HC.o, World.jk_jk]⟩
      case measure => simp [intOf]; omega
     obtain rfl : j = m := by omega
     go_wp2
     go_meet
     exact ⟨q, o, kx, rfl, hq0, hq1, HI, rfl⟩
   case rest =>
    clear HI
    obtain ⟨q, o, kx, rfl, hq0, hq1, HI, rfl⟩ := hcut
    have HR : Hid (MulInv l r (o.set (k + m) q) (k + 1) 0 0) := hh (by
     have := HI.o
     rw [← L2.o] at this ⊢
     exact this.row (by rw [L1.o]; exact hlt))
    have HC := hh (cellsU_set o (k + m) q)
    have hkm : k + m < n + m := by omega
    have hcz := cellsU_at (o := o) (j := k + m) (by rw [HI.o.len, L1.o, L2.o]; omega)
    go_wp2
    go_roundw
    case rel => exact ⟨k + 1, _, kx, by go_num, by omega, HR, by rw [HC.o]⟩
    case measure => simp [intOf]; omega
  obtain rfl : k = n := by omega
  have HD : Hid (dval o = dval l * dval r) := hh (by
   have := HI.o
   rw [← L1.o] at this
   exact this.done)
  have hrd : Rd ((w.alloc (.cells (cellsU o) 240)).jk kx) (some ⟨w.heap.size, 0, none⟩) (k + m) (k + m) o := by
   have hol : o.length = k + m := by rw [HI.o.len, L1.o, L2.o]
   refine ⟨hol, Nat.le_refl _, fun _ => ⟨_, rfl, by simp [World.size_jk]; omega, fun i hi => ?_⟩, fun h => by cases h⟩
   rw [World.cell?_jk, cell_of_row _ _ _ (cellsU o) _ (0, 0) (heap_alloc_new w _)]
   exact cellsU_at (by omega)
  have HRD := hh hrd
  clear hrd
  go_wp2_with (go_at_call 180; refine (r1trim_any _ _ _ o _ HRD.o HI.o.dg (by omega)).mono ?_; rintro e w' ⟨A', n', c', k', rfl, rfl, hr', hf'⟩)
  go_ret
  refine RetS.of (A := A') (n := n') (c := c') rfl ((((Q.refl _).alloc _).jk _).jk _) ?_ (hf'.q (((Q.refl _).alloc _).jk _))
  rw [← HD.o]
  exact hr'
end Go.Proofs.YtcjflafjmdfanaaGreatDoor
