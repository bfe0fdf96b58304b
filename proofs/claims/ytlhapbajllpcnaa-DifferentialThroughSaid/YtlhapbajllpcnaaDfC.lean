
/- Rows of currents: slices that a call has made, and append onto them. -/
import Derived.Test.YtlhapbajllpcnaaDfA
import Derived.Test.YtlhapbajllpcnaaApp
namespace Go.Proofs.Ytlhapbajllpcnaa
open Go.RowKit Go.Sub
def curCells (c : Cur) : List Value := [.int .i64 c.i.a, .int .i64 c.i.b, .int .i64 c.i.c, .int .i64 c.i.d, .int .i64 c.r, .bool c.v]
theorem flat_len (l : List Cur) : (l.flatMap curCells).length = l.length * 6 := by
  induction l with
  | nil => rfl
  | cons c l ih =>
    rw [List.flatMap_cons, List.length_append, ih]
    simp only [curCells, List.length_cons, List.length_nil]
    omega
theorem flat_get (l : List Cur) (k j : Nat) (c : Cur) (h : l[k]? = some c) (hj : j < 6) : (l.flatMap curCells)[k * 6 + j]? = (curCells c)[j]? := by
  induction l generalizing k with
  | nil => simp at h
  | cons d l ih =>
    rw [List.flatMap_cons]
    cases k with
    | zero =>
      simp only [List.getElem?_cons_zero, Option.some.injEq] at h
      subst h
      rw [List.getElem?_append_left (by simp only [curCells, List.length_cons, List.length_nil]; omega), Nat.zero_mul, Nat.zero_add]
    | succ k =>
      simp only [List.getElem?_cons_succ] at h
      rw [List.getElem?_append_right (by simp only [curCells, List.length_cons, List.length_nil]; omega)]
      have e : (k + 1) * 6 + j - (curCells d).length = k * 6 + j := by
        simp only [curCells, List.length_cons, List.length_nil]
        omega
      rw [e]
      exact ih k h
theorem rdc_flat {w : World} {g o : Nat} {m : List Cur} (h : RdC w g o m) (j : Nat) (u : Value) (hj : (m.flatMap curCells)[j]? = some u) : w.cell? ⟨g, o + j, none⟩ = some u := by
  have hlt := (List.getElem?_eq_some_iff.1 hj).1
  rw [flat_len] at hlt
  obtain ⟨q, r, hr, rfl⟩ : ∃ q r, r < 6 ∧ j = q * 6 + r := ⟨j / 6, j % 6, by omega, by omega⟩
  obtain ⟨c, hc⟩ : ∃ c, m[q]? = some c := ⟨_, List.getElem?_eq_getElem (by omega)⟩
  rw [flat_get m q r c hc hr] at hj
  obtain ⟨c0, c1, c2, c3, c4, c5⟩ := h q c hc
  match r, hr, hj with
  | 0, _, hj => rw [← hj, Nat.add_zero]; exact c0
  | 1, _, hj => rw [← hj, ← Nat.add_assoc]; exact c1
  | 2, _, hj => rw [← hj, ← Nat.add_assoc]; exact c2
  | 3, _, hj => rw [← hj, ← Nat.add_assoc]; exact c3
  | 4, _, hj => rw [← hj, ← Nat.add_assoc]; exact c4
  | 5, _, hj => rw [← hj, ← Nat.add_assoc]; exact c5
theorem flat_rdc {w : World} {g o : Nat} {m : List Cur} (h : ∀ j u, (m.flatMap curCells)[j]? = some u → w.cell? ⟨g, o + j, none⟩ = some u) : RdC w g o m := by
  intro k c hk
  refine ⟨?_, ?_, ?_, ?_, ?_, ?_⟩
  · exact h (k * 6) _ (by have := flat_get m k 0 c hk (by decide); rwa [Nat.add_zero] at this)
  · rw [Nat.add_assoc]; exact h (k * 6 + 1) _ (flat_get m k 1 c hk (by decide))
  · rw [Nat.add_assoc]; exact h (k * 6 + 2) _ (flat_get m k 2 c hk (by decide))
  · rw [Nat.add_assoc]; exact h (k * 6 + 3) _ (flat_get m k 3 c hk (by decide))
  · rw [Nat.add_assoc]; exact h (k * 6 + 4) _ (flat_get m k 4 c hk (by decide))
  · rw [Nat.add_assoc]; exact h (k * 6 + 5) _ (flat_get m k 5 c hk (by decide))
/-- The slice v holds the currents l, in a block behind W0's. -/
def RowC (W0 w : World) (v : Value) (l : List Cur) : Prop := w.ownsRow W0.heap.size 59 6 v l.length (l.flatMap curCells)
theorem RowC.nil (W0 w : World) : RowC W0 w (.slice none 0 0) [] := World.ownsRow_nil _ _ _ _
theorem RowC.q {W0 w w' : World} {v : Value} {l : List Cur} (h : RowC W0 w v l) (hq : Q w w') : RowC W0 w' v l := ownsRow_q h hq
theorem RowC.rd {W0 w : World} {v : Value} {l : List Cur} (h : RowC W0 w v l) (hn : l ≠ []) : ∃ g c, v = .slice (some ⟨g, 0, none⟩) l.length c ∧ W0.heap.size ≤ g ∧ l.length ≤ c ∧ c ≤ maxLen ∧ RdC w g 0 l := by
  have hl : l.length ≠ 0 := fun e => hn (List.eq_nil_of_length_eq_zero e)
  have hlt := h
  rcases h.2 with ⟨_, h0⟩ | ⟨g, cap, cur, rfl, hb, hg, hc, hmx, hcs, htake⟩
  · exact absurd h0 hl
  · refine ⟨g, cap, rfl, hb, hc, hmx, flat_rdc fun j u hj => ?_⟩
    have := hlt.cells (g := g) rfl j u hj
    have e : (⟨g, 0, none⟩ : Addr).add j = ⟨g, 0 + j, none⟩ := by unfold Addr.add; split <;> simp_all
    rw [e] at this
    exact this
theorem infoCur : ∃ i, Try.prog.info? 59 = some i ∧ i.zero = some (.agg #[.int .i64 0, .int .i64 0, .int .i64 0, .int .i64 0, .int .i64 0, .bool false]) ∧ i.size = 6 ∧ i.bytes = 48 := by
  have h : (Try.prog.info? 59).map (fun i => (i.zero, i.size, i.bytes)) = some (some (.agg #[.int .i64 0, .int .i64 0, .int .i64 0, .int .i64 0, .int .i64 0, .bool false]), 6, 48) := by kernel_rfl
  cases hi : Try.prog.info? 59 with
  | none => rw [hi] at h; cases h
  | some i =>
    rw [hi] at h
    simp only [Option.map_some, Option.some.injEq, Prod.mk.injEq] at h
    exact ⟨i, rfl, h.1, h.2.1, h.2.2⟩
theorem wpList_app_cur {ops : Array Oper} {rest : List Oper} {o : Oper} {a : Act} {w : World} {Q' : Exit → Act → World → Prop} (hgd : o.guard = none) (s x : Operand)
    (ho : o.op = .call { callee := .builtin .append, args := #[s, x], argTypes := #[50, 50] }) (W0 : World) (v : Value) (l m : List Cur) (g o' c : Nat)
    (hs : a.eval s = v) (hx : a.eval x = .slice (some ⟨g, o', none⟩) m.length c) (hown : RowC W0 w v l) (hm : RdC w g o' m) (hlen : l.length + m.length < 1000000) (hQ : Q W0 w)
    (h : ∀ v' kk, RowC W0 (W0.jk kk) v' (l ++ m) → wpList Try.prog ops Q' rest (a.put o.dst v') (W0.jk kk)) : wpList Try.prog ops Q' (o :: rest) a w := by
  obtain ⟨i, hi, hz, hs1, hb⟩ := infoCur
  refine wpList_app hgd s x 50 ho W0 59 i _ 6 48 Try.underlying50 hi hz hs1 hb rfl (by decide) v _ _ hs hown ⟨g, o', none⟩ m.length c (m.flatMap curCells) hx (flat_len m) ?_ ?_ (by unfold maxLen; omega) (by omega) hQ ?_
  · intro j u hj
    have e : (⟨g, o', none⟩ : Addr).add j = ⟨g, o' + j, none⟩ := by unfold Addr.add; split <;> simp_all
    rw [e]
    exact rdc_flat hm j u hj
  · intro u hu
    obtain ⟨c, _, hu⟩ := List.mem_flatMap.1 hu
    simp only [curCells, List.mem_cons, List.mem_nil_iff, or_false] at hu
    rcases hu with rfl | rfl | rfl | rfl | rfl | rfl <;> rfl
  · intro v' kk h1 h2
    refine h v' kk ?_
    unfold RowC
    rw [List.length_append, List.flatMap_append]
    exact h1
theorem rdc_one {w : World} {g : Nat} {c : Cur} (h0 : w.cell? ⟨g, 0, none⟩ = some (.int .i64 c.i.a)) (h1 : w.cell? ⟨g, 1, none⟩ = some (.int .i64 c.i.b)) (h2 : w.cell? ⟨g, 2, none⟩ = some (.int .i64 c.i.c)) (h3 : w.cell? ⟨g, 3, none⟩ = some (.int .i64 c.i.d)) (h4 : w.cell? ⟨g, 4, none⟩ = some (.int .i64 c.r)) (h5 : w.cell? ⟨g, 5, none⟩ = some (.bool c.v)) : RdC w g 0 [c] := by
  intro k d hk
  match k, hk with
  | 0, hk =>
    simp only [List.getElem?_cons_zero, Option.some.injEq] at hk
    subst hk
    exact ⟨h0, h1, h2, h3, h4, h5⟩
theorem rdc_two {w : World} {g : Nat} {c d : Cur} (h0 : w.cell? ⟨g, 0, none⟩ = some (.int .i64 c.i.a)) (h1 : w.cell? ⟨g, 1, none⟩ = some (.int .i64 c.i.b)) (h2 : w.cell? ⟨g, 2, none⟩ = some (.int .i64 c.i.c)) (h3 : w.cell? ⟨g, 3, none⟩ = some (.int .i64 c.i.d)) (h4 : w.cell? ⟨g, 4, none⟩ = some (.int .i64 c.r)) (h5 : w.cell? ⟨g, 5, none⟩ = some (.bool c.v))
    (k0 : w.cell? ⟨g, 6, none⟩ = some (.int .i64 d.i.a)) (k1 : w.cell? ⟨g, 7, none⟩ = some (.int .i64 d.i.b)) (k2 : w.cell? ⟨g, 8, none⟩ = some (.int .i64 d.i.c)) (k3 : w.cell? ⟨g, 9, none⟩ = some (.int .i64 d.i.d)) (k4 : w.cell? ⟨g, 10, none⟩ = some (.int .i64 d.r)) (k5 : w.cell? ⟨g, 11, none⟩ = some (.bool d.v)) : RdC w g 0 [c, d] := by
  intro k e hk
  match k, hk with
  | 0, hk =>
    simp only [List.getElem?_cons_zero, Option.some.injEq] at hk
    subst hk
    exact ⟨h0, h1, h2, h3, h4, h5⟩
  | 1, hk =>
    simp only [List.getElem?_cons_succ, List.getElem?_cons_zero, Option.some.injEq] at hk
    subst hk
    exact ⟨k0, k1, k2, k3, k4, k5⟩
end Go.Proofs.Ytlhapbajllpcnaa
