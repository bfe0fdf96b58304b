
/- Slices of 32-bit digits, as they lie in memory. -/
import Derived.Test.YtkkjifgcjfbcaaaApp
import Derived.Test.YtkkjifgcjfbcaaaBgPlain
import Derived.Lib.Hide
import Derived.Laws.AppendOwnNone
namespace Go
open Go.RowKit Go.Sub
/-- The slice A, n, c holds the digits l. -/
def Rd (w : World) (A : Option Addr) (n c : Nat) (l : List Int) : Prop :=
  l.length = n ∧ n ≤ c ∧ (0 < n → ∃ g, A = some ⟨g, 0, none⟩ ∧ g < w.heap.size ∧ ∀ i, i < n → w.cell? ⟨g, i, none⟩ = some (.int .u32 (l.getD i 0))) ∧ (A = none → c = 0)
theorem Rd.q {w w' : World} {A : Option Addr} {n c : Nat} {l : List Int} (h : Rd w A n c l) (hq : Q w w') : Rd w' A n c l := by
  refine ⟨h.1, h.2.1, fun hn => ?_, h.2.2.2⟩
  obtain ⟨g, rfl, hg, hc⟩ := h.2.2.1 hn
  have hb := hq.below
  exact ⟨g, rfl, Nat.lt_of_lt_of_le hg hb.size, fun i hi => (hb.cell (p := ⟨g, i, none⟩) hg).trans (hc i hi)⟩
theorem Rd.nil (w : World) : Rd w none 0 0 [] := ⟨rfl, Nat.zero_le _, fun h => absurd h (by omega), fun _ => rfl⟩
theorem Rd.nil' (w : World) (ad : Addr) (c : Nat) : Rd w (some ad) 0 c [] := ⟨rfl, Nat.zero_le _, fun h => absurd h (by omega), fun h => by cases h⟩
theorem Rd.at_ {w : World} {A : Option Addr} {n c : Nat} {l : List Int} (h : Rd w A n c l) (hn : 0 < n) : ∃ g, A = some ⟨g, 0, none⟩ ∧ Old g w ∧ Hid (∀ i, i < n → w.cell? ⟨g, i, none⟩ = some (.int .u32 (l.getD i 0))) := by
  obtain ⟨g, e, hg, hc⟩ := h.2.2.1 hn
  exact ⟨g, e, ⟨hg⟩, Lib.hid hc⟩
theorem Rd.take {w : World} {A : Option Addr} {n c k c' : Nat} {l : List Int} (h : Rd w A n c l) (hk : k ≤ n) (hc' : k ≤ c') (hA : A = none → c' = 0) : Rd w A k c' (l.take k) := by
  refine ⟨by rw [List.length_take, h.1]; omega, hc', fun hp => ?_, hA⟩
  obtain ⟨g, e, hg, hc⟩ := h.2.2.1 (by omega)
  refine ⟨g, e, hg, fun i hi => ?_⟩
  rw [hc i (by omega)]
  simp only [List.getD_eq_getElem?_getD, List.getElem?_take]
  rw [if_pos hi]
/-- The slice lies in a block that w has not. -/
def Fr (w : World) (A : Option Addr) : Prop := ∀ ad, A = some ad → w.heap.size ≤ ad.block
theorem Fr.q {w w' : World} {A : Option Addr} (h : Fr w' A) (hq : Q w w') : Fr w A := fun ad e => Nat.le_trans hq.below.size (h ad e)
theorem Fr.none (w : World) : Fr w none := fun _ h => by cases h
theorem World.jk_block {W W' : World} (hs : W.heap.size = W'.heap.size) (k : Jk) (i : Nat) (hi : W.heap.size ≤ i) : (W'.jk k).heap[i]? = (W.jk k).heap[i]? := by
  simp only [World.jk, Array.getElem?_append]
  rw [if_neg (by omega), if_neg (by omega), hs]
/-- What lies in new blocks is not touched by a store into an old one. -/
theorem Rd.swap {W W' : World} {k : Jk} {A : Option Addr} {n c : Nat} {l : List Int} (hs : W.heap.size = W'.heap.size) (h : Rd (W.jk k) A n c l) (hf : Fr W A) : Rd (W'.jk k) A n c l := by
  refine ⟨h.1, h.2.1, fun hn => ?_, h.2.2.2⟩
  obtain ⟨g, rfl, hg, hc⟩ := h.2.2.1 hn
  have hge : W.heap.size ≤ g := hf ⟨g, 0, .none⟩ rfl
  refine ⟨g, rfl, by rw [World.size_jk] at *; omega, fun i hi => ?_⟩
  rw [← hc i hi]
  exact World.cell?_of_block (w := W.jk k) (a := ⟨g, i, .none⟩) (World.jk_block hs k g hge)
theorem Rd.swap2 {W W' : World} {k k2 : Jk} {A : Option Addr} {n c : Nat} {l : List Int} (hs : W.heap.size = W'.heap.size) (h : Rd ((W.jk k).jk k2) A n c l) (hf : Fr W A) : Rd ((W'.jk k).jk k2) A n c l := by
  rw [World.jk_jk] at *
  exact h.swap hs hf
theorem Rd.swap3 {W W' : World} {k k2 k3 : Jk} {A : Option Addr} {n c : Nat} {l : List Int} (hs : W.heap.size = W'.heap.size) (h : Rd (((W.jk k).jk k2).jk k3) A n c l) (hf : Fr W A) : Rd (((W'.jk k).jk k2).jk k3) A n c l := by
  rw [World.jk_jk] at *
  exact h.swap2 hs hf
theorem Rd.swap4 {W W' : World} {k k2 k3 k4 : Jk} {A : Option Addr} {n c : Nat} {l : List Int} (hs : W.heap.size = W'.heap.size) (h : Rd ((((W.jk k).jk k2).jk k3).jk k4) A n c l) (hf : Fr W A) : Rd ((((W'.jk k).jk k2).jk k3).jk k4) A n c l := by
  rw [World.jk_jk] at *
  exact h.swap3 hs hf
theorem Rd.two (w : World) (a b : Int) (t : TypeId) : Rd (w.alloc (.cells #[.int .u32 a, .int .u32 b] t)) (some ⟨w.heap.size, 0, .none⟩) 2 2 [a, b] := by
  refine ⟨rfl, Nat.le_refl _, fun _ => ⟨_, rfl, by simp, fun i hi => ?_⟩, fun h => by cases h⟩
  rw [cell_of_row _ _ _ _ _ (0, 0) (heap_alloc_new w _)]
  match i, hi with
  | 0, _ => rfl
  | 1, _ => rfl
theorem Rd.one (w : World) (a : Int) (t : TypeId) : Rd (w.alloc (.cells #[.int .u32 a] t)) (some ⟨w.heap.size, 0, .none⟩) 1 1 [a] := by
  refine ⟨rfl, Nat.le_refl _, fun _ => ⟨_, rfl, by simp, fun i hi => ?_⟩, fun h => by cases h⟩
  rw [cell_of_row _ _ _ _ _ (0, 0) (heap_alloc_new w _)]
  match i, hi with
  | 0, _ => rfl
/-- A call that makes memory at most returned a slice of the digits l, in a new block. -/
def RetS (l : List Int) (w : World) (e : Ending) (w' : World) : Prop := ∃ A n c k, e = .returned (.slice A n c) ∧ w' = w.jk k ∧ Rd (w.jk k) A n c l ∧ Fr w A
/-- .. an integer with the sign b and the digits l. -/
def RetI (b : Bool) (l : List Int) (w : World) (e : Ending) (w' : World) : Prop := ∃ A n c k, e = .returned (.agg #[.bool b, .slice A n c]) ∧ w' = w.jk k ∧ Rd (w.jk k) A n c l ∧ Fr w A
/-- .. and no error. -/
def RetI2 (b : Bool) (l : List Int) (w : World) (e : Ending) (w' : World) : Prop := ∃ A n c k, e = .returned (.tuple #[.agg #[.bool b, .slice A n c], .int .i64 0]) ∧ w' = w.jk k ∧ Rd (w.jk k) A n c l ∧ Fr w A
theorem RetS.of {l : List Int} {w w' : World} {e : Ending} {A : Option Addr} {n c : Nat} (he : e = .returned (.slice A n c)) (hq : Q w w') (hr : Rd w' A n c l) (hf : Fr w A) : RetS l w e w' := by
  obtain ⟨k, rfl⟩ := hq
  exact ⟨A, n, c, k, he, rfl, hr, hf⟩
theorem RetI.of {b : Bool} {l : List Int} {w w' : World} {e : Ending} {A : Option Addr} {n c : Nat} (he : e = .returned (.agg #[.bool b, .slice A n c])) (hq : Q w w') (hr : Rd w' A n c l) (hf : Fr w A) : RetI b l w e w' := by
  obtain ⟨k, rfl⟩ := hq
  exact ⟨A, n, c, k, he, rfl, hr, hf⟩
theorem RetI2.of {b : Bool} {l : List Int} {w w' : World} {e : Ending} {A : Option Addr} {n c : Nat} (he : e = .returned (.tuple #[.agg #[.bool b, .slice A n c], .int .i64 0])) (hq : Q w w') (hr : Rd w' A n c l) (hf : Fr w A) : RetI2 b l w e w' := by
  obtain ⟨k, rfl⟩ := hq
  exact ⟨A, n, c, k, he, rfl, hr, hf⟩
theorem Rd.one' (w : World) (a : Int) (t : TypeId) (g : Nat) (hg : g = w.heap.size) : Rd (w.alloc (.cells #[.int .u32 a] t)) (some ⟨g, 0, .none⟩) 1 1 [a] := hg ▸ Rd.one w a t
/-- .. a slice of digits with the value v, not more than n. -/
def RetV (v : Int) (N : Nat) (w : World) (e : Ending) (w' : World) : Prop := ∃ l A n c k, e = .returned (.slice A n c) ∧ w' = w.jk k ∧ Rd (w.jk k) A n c l ∧ Fr w A ∧ Dg l ∧ dval l = v ∧ n ≤ N
theorem RetV.of {v : Int} {N : Nat} {l : List Int} {w w' : World} {e : Ending} {A : Option Addr} {n c : Nat} (he : e = .returned (.slice A n c)) (hq : Q w w') (hr : Rd w' A n c l) (hf : Fr w A) (hd : Dg l) (hv : dval l = v) (hn : n ≤ N) : RetV v N w e w' := by
  obtain ⟨k, rfl⟩ := hq
  exact ⟨l, A, n, c, k, he, rfl, hr, hf, hd, hv, hn⟩
end Go
namespace Go.Proofs.Ytkkjifgcjfbcaaa
open Go.RowKit Go.Sub
theorem infoU32 : ∃ i, Try.prog.info? 105 = some i ∧ i.zero = some (.int .u32 0) ∧ i.size = 1 ∧ i.bytes = 4 := by
  have h : (Try.prog.info? 105).map (fun i => (i.zero, i.size, i.bytes)) = some (some (.int .u32 0), 1, 4) := by kernel_rfl
  cases hi : Try.prog.info? 105 with
  | none => rw [hi] at h; cases h
  | some i =>
    rw [hi] at h
    simp only [Option.map_some, Option.some.injEq, Prod.mk.injEq] at h
    exact ⟨i, rfl, h.1, h.2.1, h.2.2⟩
/-- The slice v holds the digits zs, in a block behind W0's. -/
def RowU (W0 w : World) (v : Value) (zs : List Int) : Prop := w.ownsRow W0.heap.size 105 1 v zs.length (zs.map (Value.int .u32))
theorem RowU.nil (W0 w : World) : RowU W0 w (.slice none 0 0) [] := World.ownsRow_nil _ _ _ _
theorem RowU.q {W0 w w' : World} {v : Value} {zs : List Int} (h : RowU W0 w v zs) (hq : Q w w') : RowU W0 w' v zs := ownsRow_q h hq
theorem RowU.rd {W0 w : World} {v : Value} {zs : List Int} (h : RowU W0 w v zs) : ∃ A c, v = .slice A zs.length c ∧ Rd w A zs.length c zs := by
  rcases h.2 with ⟨rfl, h0⟩ | ⟨g, cap, cur, rfl, hb, hg, hc, _, hcs, htake⟩
  · have : zs = [] := List.eq_nil_of_length_eq_zero h0
    subst this
    exact ⟨none, 0, rfl, Rd.nil _⟩
  · refine ⟨_, cap, rfl, rfl, hc, fun hn => ⟨g, rfl, (h.lt g rfl).2, fun k hk => ?_⟩, fun h => by cases h⟩
    have := h.cells (g := g) rfl k (.int .u32 (zs.getD k 0)) (by simp [List.getD, hk])
    have e : (⟨g, 0, none⟩ : Addr).add k = ⟨g, k, none⟩ := by unfold Addr.add; split <;> simp_all
    rw [e] at this
    exact this
/-- append of digits that lie elsewhere. -/
theorem wpList_app_u32 {ops : Array Oper} {rest : List Oper} {o : Oper} {a : Act} {w : World} {Q' : Exit → Act → World → Prop} (hgd : o.guard = none) (s x : Operand)
    (ho : o.op = .call { callee := .builtin .append, args := #[s, x], argTypes := #[69, 69] }) (W0 : World) (v : Value) (zs ys : List Int) (n m : Nat) (A : Option Addr) (c : Nat)
    (hs : a.eval s = v) (hx : a.eval x = .slice A m c) (hown : RowU W0 w v zs) (hzn : zs.length = n) (hrd : Rd w A m c ys) (hlen : n + m < 1000000) (hQ : Q W0 w)
    (h : ∀ A' c' kk, RowU W0 (W0.jk kk) (.slice A' (n + m) c') (zs ++ ys) → wpList Try.prog ops Q' rest (a.put o.dst (.slice A' (n + m) c')) (W0.jk kk)) : wpList Try.prog ops Q' (o :: rest) a w := by
  obtain ⟨i, hi, hz, hs1, hb⟩ := infoU32
  subst hzn
  obtain rfl : ys.length = m := hrd.1
  rcases Nat.eq_zero_or_pos ys.length with h0 | h0
  · have hy : ys = [] := List.eq_nil_of_length_eq_zero h0
    subst hy
    obtain ⟨A', c', rfl, hr'⟩ := hown.rd
    obtain ⟨kk, rfl⟩ := hQ
    rcases A with _ | ad
    · obtain rfl : c = 0 := hrd.2.2.2 rfl
      refine wpList_append_own_none hgd s x 69 ho W0.heap.size 105 i 1 Try.underlying69 hi _ zs.length _ hs hown hx ?_
      have := h A' c' kk (by simpa using hown)
      simpa using this
    · refine wpList_app hgd s x 69 ho W0 105 i (.int .u32 0) 1 4 Try.underlying69 hi hz hs1 hb rfl (by decide) _ _ _ hs hown ad 0 c [] hx rfl (fun j u hj => by simp at hj) (fun u hu => by simp at hu) (by unfold maxLen; omega) (by omega) ⟨kk, rfl⟩ ?_
      intro v' k2 h1 _
      have h1' : RowU W0 (W0.jk k2) v' zs := by unfold RowU; simpa using h1
      obtain ⟨A2, c2, rfl, _⟩ := h1'.rd
      have := h A2 c2 k2 (by simpa using h1')
      simpa using this
  · obtain ⟨g, rfl, hg, hc⟩ := hrd.2.2.1 h0
    refine wpList_app hgd s x 69 ho W0 105 i (.int .u32 0) 1 4 Try.underlying69 hi hz hs1 hb rfl (by decide) v _ _ hs hown ⟨g, 0, none⟩ ys.length c (ys.map (Value.int .u32)) hx (by simp) ?_ ?_ (by unfold maxLen; omega) (by omega) hQ ?_
    · intro j u hj
      have e : (⟨g, 0, none⟩ : Addr).add j = ⟨g, j, none⟩ := by unfold Addr.add; split <;> simp_all
      rw [List.getElem?_map] at hj
      obtain ⟨z, hz1, rfl⟩ := Option.map_eq_some_iff.1 hj
      have hjl : j < ys.length := (List.getElem?_eq_some_iff.1 hz1).1
      rw [e, hc j hjl]
      simp [List.getD, hz1]
    · intro u hu
      obtain ⟨z, _, rfl⟩ := List.mem_map.1 hu
      rfl
    · intro v' kk h1 _
      have h1' : RowU W0 (W0.jk kk) v' (zs ++ ys) := by unfold RowU; simpa using h1
      obtain ⟨A', c', rfl, _⟩ := h1'.rd
      have := h A' c' kk (by simpa using h1')
      simpa using this
/-- An empty slice of the call's own. -/
theorem RowU.empty (w : World) : RowU w (w.alloc (.cells #[] 105)) (.slice (some ⟨w.heap.size, 0, none⟩) 0 0) [] :=
  ⟨by simp, .inr ⟨w.heap.size, 0, #[], rfl, Nat.le_refl _, heap_alloc_new w _, Nat.le_refl _, by unfold maxLen; omega, rfl, rfl⟩⟩
theorem RowU.fr {W0 w : World} {A : Option Addr} {n c : Nat} {zs : List Int} (h : RowU W0 w (.slice A n c) zs) : Fr W0 A := by
  intro ad e
  subst e
  exact (h.lt ad.block rfl).1
theorem RowU.rd' {W0 w : World} {A : Option Addr} {n c : Nat} {zs : List Int} (h : RowU W0 w (.slice A n c) zs) : Rd w A n c zs := by
  obtain ⟨A', c', e, hr⟩ := h.rd
  injection e with e1 e2 e3
  subst e1 e2 e3
  exact hr
end Go.Proofs.Ytkkjifgcjfbcaaa
