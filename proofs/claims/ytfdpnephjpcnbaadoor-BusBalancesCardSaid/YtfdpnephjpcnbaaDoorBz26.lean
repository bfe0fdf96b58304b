
/- What measured returns: the fundamentals of the windows. -/
import Derived.Test.YtfdpnephjpcnbaaDoorBz25
import Derived.Test.YtfdpnephjpcnbaaDoorBz01
import Derived.Test.YtfdpnephjpcnbaaDoorBz12
import Derived.Test.YtfdpnephjpcnbaaDoorBz23
set_option linter.unusedSimpArgs false
set_option linter.unusedVariables false
/- Rows of currents: slices that a call has made, and append onto them. -/
namespace Go.Proofs.YtfdpnephjpcnbaaDoor
open Go.RowKit Go.Sub
def curCells (c : Cur) : List Value := [.int .i64 c.i.a, .int .i64 c.i.b, .int .i64 c.i.c, .int .i64 c.i.d, .int .i64 c.r, .bool c.v]
theorem flat_len (l : List Cur) : (l.flatMap curCells).length = l.length * 6 := by
  induction l with
  | nil => rfl
  | cons c l ih =>
    rw [List.flatMap_cons, List.length_append, ih]
    simp only [curCells, List.length_cons, List.length_nil]
    omega
theorem flat_get (l : List Cur) (k j : Nat) (c : Cur) (h : l[k]? = some c) (hj : j < 6) : (l.flatMap curCells)[k * 6 + j]? = (curCells c)[j]? := by
  induction l generalizing k with
  | nil => simp at h
  | cons d l ih =>
    rw [List.flatMap_cons]
    cases k with
    | zero =>
      simp only [List.getElem?_cons_zero, Option.some.injEq] at h
      subst h
      rw [List.getElem?_append_left (by simp only [curCells, List.length_cons, List.length_nil]; omega), Nat.zero_mul, Nat.zero_add]
    | succ k =>
      simp only [List.getElem?_cons_succ] at h
      rw [List.getElem?_append_right (by simp only [curCells, List.length_cons, List.length_nil]; omega)]
      have e : (k + 1) * 6 + j - (curCells d).length = k * 6 + j := by
        simp only [curCells, List.length_cons, List.length_nil]
        omega
      rw [e]
      exact ih k h
theorem rdc_flat {w : World} {g o : Nat} {m : List Cur} (h : RdC w g o m) (j : Nat) (u : Value) (hj : (m.flatMap curCells)[j]? = some u) : w.cell? ⟨g, o + j, none⟩ = some u := by
  have hlt := (List.getElem?_eq_some_iff.1 hj).1
  rw [flat_len] at hlt
  obtain ⟨q, r, hr, rfl⟩ : ∃ q r, r < 6 ∧ j = q * 6 + r := ⟨j / 6, j % 6, by omega, by omega⟩
  obtain ⟨c, hc⟩ : ∃ c, m[q]? = some c := ⟨_, List.getElem?_eq_getElem (by omega)⟩
  rw [flat_get m q r c hc hr] at hj
  obtain ⟨c0, c1, c2, c3, c4, c5⟩ := h q c hc
  match r, hr, hj with
  | 0, _, hj => rw [← hj, Nat.add_zero]; exact c0
  | 1, _, hj => rw [← hj, ← Nat.add_assoc]; exact c1
  | 2, _, hj => rw [← hj, ← Nat.add_assoc]; exact c2
  | 3, _, hj => rw [← hj, ← Nat.add_assoc]; exact c3
  | 4, _, hj => rw [← hj, ← Nat.add_assoc]; exact c4
  | 5, _, hj => rw [← hj, ← Nat.add_assoc]; exact c5
theorem flat_rdc {w : World} {g o : Nat} {m : List Cur} (h : ∀ j u, (m.flatMap curCells)[j]? = some u → w.cell? ⟨g, o + j, none⟩ = some u) : RdC w g o m := by
  intro k c hk
  refine ⟨?_, ?_, ?_, ?_, ?_, ?_⟩
  · exact h (k * 6) _ (by have := flat_get m k 0 c hk (by decide); rwa [Nat.add_zero] at this)
  · rw [Nat.add_assoc]; exact h (k * 6 + 1) _ (flat_get m k 1 c hk (by decide))
  · rw [Nat.add_assoc]; exact h (k * 6 + 2) _ (flat_get m k 2 c hk (by decide))
  · rw [Nat.add_assoc]; exact h (k * 6 + 3) _ (flat_get m k 3 c hk (by decide))
  · rw [Nat.add_assoc]; exact h (k * 6 + 4) _ (flat_get m k 4 c hk (by decide))
  · rw [Nat.add_assoc]; exact h (k * 6 + 5) _ (flat_get m k 5 c hk (by decide))
/-- The slice v holds the currents l, in a block behind W0's. -/
def RowC (W0 w : World) (v : Value) (l : List Cur) : Prop := w.ownsRow W0.heap.size 97 6 v l.length (l.flatMap curCells)
theorem RowC.nil (W0 w : World) : RowC W0 w (.slice none 0 0) [] := World.ownsRow_nil _ _ _ _
theorem RowC.q {W0 w w' : World} {v : Value} {l : List Cur} (h : RowC W0 w v l) (hq : Q w w') : RowC W0 w' v l := ownsRow_q h hq
theorem RowC.rd {W0 w : World} {v : Value} {l : List Cur} (h : RowC W0 w v l) (hn : l ≠ []) : ∃ g c, v = .slice (some ⟨g, 0, none⟩) l.length c ∧ W0.heap.size ≤ g ∧ l.length ≤ c ∧ c ≤ maxLen ∧ RdC w g 0 l := by
  have hl : l.length ≠ 0 := fun e => hn (List.eq_nil_of_length_eq_zero e)
  have hlt := h
  rcases h.2 with ⟨_, h0⟩ | ⟨g, cap, cur, rfl, hb, hg, hc, hmx, hcs, htake⟩
  · exact absurd h0 hl
  · refine ⟨g, cap, rfl, hb, hc, hmx, flat_rdc fun j u hj => ?_⟩
    have := hlt.cells (g := g) rfl j u hj
    have e : (⟨g, 0, none⟩ : Addr).add j = ⟨g, 0 + j, none⟩ := by unfold Addr.add; split <;> simp_all
    rw [e] at this
    exact this
theorem infoCur : ∃ i, Tryd.prog.info? 97 = some i ∧ i.zero = some (.agg #[.int .i64 0, .int .i64 0, .int .i64 0, .int .i64 0, .int .i64 0, .bool false]) ∧ i.size = 6 ∧ i.bytes = 48 := by
  have h : (Tryd.prog.info? 97).map (fun i => (i.zero, i.size, i.bytes)) = some (some (.agg #[.int .i64 0, .int .i64 0, .int .i64 0, .int .i64 0, .int .i64 0, .bool false]), 6, 48) := by kernel_rfl
  cases hi : Tryd.prog.info? 97 with
  | none => rw [hi] at h; cases h
  | some i =>
    rw [hi] at h
    simp only [Option.map_some, Option.some.injEq, Prod.mk.injEq] at h
    exact ⟨i, rfl, h.1, h.2.1, h.2.2⟩
theorem wpList_app_cur {ops : Array Oper} {rest : List Oper} {o : Oper} {a : Act} {w : World} {Q' : Exit → Act → World → Prop} (hgd : o.guard = none) (s x : Operand)
    (ho : o.op = .call { callee := .builtin .append, args := #[s, x], argTypes := #[51, 51] }) (W0 : World) (v : Value) (l m : List Cur) (g o' c : Nat)
    (hs : a.eval s = v) (hx : a.eval x = .slice (some ⟨g, o', none⟩) m.length c) (hown : RowC W0 w v l) (hm : RdC w g o' m) (hlen : l.length + m.length < 1000000) (hQ : Q W0 w)
    (h : ∀ v' kk, RowC W0 (W0.jk kk) v' (l ++ m) → wpList Tryd.prog ops Q' rest (a.put o.dst v') (W0.jk kk)) : wpList Tryd.prog ops Q' (o :: rest) a w := by
  obtain ⟨i, hi, hz, hs1, hb⟩ := infoCur
  refine wpList_app hgd s x 51 ho W0 97 i _ 6 48 Tryd.underlying51 hi hz hs1 hb rfl (by decide) v _ _ hs hown ⟨g, o', none⟩ m.length c (m.flatMap curCells) hx (flat_len m) ?_ ?_ (by unfold maxLen; omega) (by omega) hQ ?_
  · intro j u hj
    have e : (⟨g, o', none⟩ : Addr).add j = ⟨g, o' + j, none⟩ := by unfold Addr.add; split <;> simp_all
    rw [e]
    exact rdc_flat hm j u hj
  · intro u hu
    obtain ⟨c, _, hu⟩ := List.mem_flatMap.1 hu
    simp only [curCells, List.mem_cons, List.mem_nil_iff, or_false] at hu
    rcases hu with rfl | rfl | rfl | rfl | rfl | rfl <;> rfl
  · intro v' kk h1 h2
    refine h v' kk ?_
    unfold RowC
    rw [List.length_append, List.flatMap_append]
    exact h1
theorem rdc_one {w : World} {g : Nat} {c : Cur} (h0 : w.cell? ⟨g, 0, none⟩ = some (.int .i64 c.i.a)) (h1 : w.cell? ⟨g, 1, none⟩ = some (.int .i64 c.i.b)) (h2 : w.cell? ⟨g, 2, none⟩ = some (.int .i64 c.i.c)) (h3 : w.cell? ⟨g, 3, none⟩ = some (.int .i64 c.i.d)) (h4 : w.cell? ⟨g, 4, none⟩ = some (.int .i64 c.r)) (h5 : w.cell? ⟨g, 5, none⟩ = some (.bool c.v)) : RdC w g 0 [c] := by
  intro k d hk
  match k, hk with
  | 0, hk =>
    simp only [List.getElem?_cons_zero, Option.some.injEq] at hk
    subst hk
    exact ⟨h0, h1, h2, h3, h4, h5⟩
theorem rdc_two {w : World} {g : Nat} {c d : Cur} (h0 : w.cell? ⟨g, 0, none⟩ = some (.int .i64 c.i.a)) (h1 : w.cell? ⟨g, 1, none⟩ = some (.int .i64 c.i.b)) (h2 : w.cell? ⟨g, 2, none⟩ = some (.int .i64 c.i.c)) (h3 : w.cell? ⟨g, 3, none⟩ = some (.int .i64 c.i.d)) (h4 : w.cell? ⟨g, 4, none⟩ = some (.int .i64 c.r)) (h5 : w.cell? ⟨g, 5, none⟩ = some (.bool c.v))
    (k0 : w.cell? ⟨g, 6, none⟩ = some (.int .i64 d.i.a)) (k1 : w.cell? ⟨g, 7, none⟩ = some (.int .i64 d.i.b)) (k2 : w.cell? ⟨g, 8, none⟩ = some (.int .i64 d.i.c)) (k3 : w.cell? ⟨g, 9, none⟩ = some (.int .i64 d.i.d)) (k4 : w.cell? ⟨g, 10, none⟩ = some (.int .i64 d.r)) (k5 : w.cell? ⟨g, 11, none⟩ = some (.bool d.v)) : RdC w g 0 [c, d] := by
  intro k e hk
  match k, hk with
  | 0, hk =>
    simp only [List.getElem?_cons_zero, Option.some.injEq] at hk
    subst hk
    exact ⟨h0, h1, h2, h3, h4, h5⟩
  | 1, hk =>
    simp only [List.getElem?_cons_succ, List.getElem?_cons_zero, Option.some.injEq] at hk
    subst hk
    exact ⟨k0, k1, k2, k3, k4, k5⟩
end Go.Proofs.YtfdpnephjpcnbaaDoor
set_option linter.unusedVariables false
set_option linter.unusedSimpArgs false
namespace Go.Sub
open Go
/-- The fundamental of a channel as a current. -/
def curOf (r : Ch) : Cur := ⟨harm (fun j => r.l.getD j 0) 1, 1, false⟩
theorem harm1_in {x : Nat → Int} {l : Int} (hx : WinOK x l) : (harm x 1).In (4 * l) := by
  have h0 := hx 0 (by decide)
  have h1 := hx 1 (by decide)
  have h2 := hx 2 (by decide)
  have h3 := hx 3 (by decide)
  have h4 := hx 4 (by decide)
  have h5 := hx 5 (by decide)
  have h6 := hx 6 (by decide)
  have h7 := hx 7 (by decide)
  have h8 := hx 8 (by decide)
  have h9 := hx 9 (by decide)
  have h10 := hx 10 (by decide)
  have h11 := hx 11 (by decide)
  have e0 : hterm x 1 0 = ⟨x 0, 0, 0, 0⟩ := by
    unfold hterm; rw [show rootC (-1 * ((0 : Nat) : Int)) = ⟨1, 0, 0, 0⟩ by rfl]; apply Cy.ext' <;> simp [Cy.scl]
  have e1 : hterm x 1 1 = ⟨0, x 1, 0, -x 1⟩ := by
    unfold hterm; rw [show rootC (-1 * ((1 : Nat) : Int)) = ⟨0, 1, 0, -1⟩ by rfl]; apply Cy.ext' <;> simp [Cy.scl]
  have e2 : hterm x 1 2 = ⟨x 2, 0, -x 2, 0⟩ := by
    unfold hterm; rw [show rootC (-1 * ((2 : Nat) : Int)) = ⟨1, 0, -1, 0⟩ by rfl]; apply Cy.ext' <;> simp [Cy.scl]
  have e3 : hterm x 1 3 = ⟨0, 0, 0, -x 3⟩ := by
    unfold hterm; rw [show rootC (-1 * ((3 : Nat) : Int)) = ⟨0, 0, 0, -1⟩ by rfl]; apply Cy.ext' <;> simp [Cy.scl]
  have e4 : hterm x 1 4 = ⟨0, 0, -x 4, 0⟩ := by
    unfold hterm; rw [show rootC (-1 * ((4 : Nat) : Int)) = ⟨0, 0, -1, 0⟩ by rfl]; apply Cy.ext' <;> simp [Cy.scl]
  have e5 : hterm x 1 5 = ⟨0, -x 5, 0, 0⟩ := by
    unfold hterm; rw [show rootC (-1 * ((5 : Nat) : Int)) = ⟨0, -1, 0, 0⟩ by rfl]; apply Cy.ext' <;> simp [Cy.scl]
  have e6 : hterm x 1 6 = ⟨-x 6, 0, 0, 0⟩ := by
    unfold hterm; rw [show rootC (-1 * ((6 : Nat) : Int)) = ⟨-1, 0, 0, 0⟩ by rfl]; apply Cy.ext' <;> simp [Cy.scl]
  have e7 : hterm x 1 7 = ⟨0, -x 7, 0, x 7⟩ := by
    unfold hterm; rw [show rootC (-1 * ((7 : Nat) : Int)) = ⟨0, -1, 0, 1⟩ by rfl]; apply Cy.ext' <;> simp [Cy.scl]
  have e8 : hterm x 1 8 = ⟨-x 8, 0, x 8, 0⟩ := by
    unfold hterm; rw [show rootC (-1 * ((8 : Nat) : Int)) = ⟨-1, 0, 1, 0⟩ by rfl]; apply Cy.ext' <;> simp [Cy.scl]
  have e9 : hterm x 1 9 = ⟨0, 0, 0, x 9⟩ := by
    unfold hterm; rw [show rootC (-1 * ((9 : Nat) : Int)) = ⟨0, 0, 0, 1⟩ by rfl]; apply Cy.ext' <;> simp [Cy.scl]
  have e10 : hterm x 1 10 = ⟨0, 0, x 10, 0⟩ := by
    unfold hterm; rw [show rootC (-1 * ((10 : Nat) : Int)) = ⟨0, 0, 1, 0⟩ by rfl]; apply Cy.ext' <;> simp [Cy.scl]
  have e11 : hterm x 1 11 = ⟨0, x 11, 0, 0⟩ := by
    unfold hterm; rw [show rootC (-1 * ((11 : Nat) : Int)) = ⟨0, 1, 0, 0⟩ by rfl]; apply Cy.ext' <;> simp [Cy.scl]
  unfold harm
  simp only [sumC, e0, e1, e2, e3, e4, e5, e6, e7, e8, e9, e10, e11, Cy.add]
  clear e0 e1 e2 e3 e4 e5 e6 e7 e8 e9 e10 e11
  unfold Cy.In
  dsimp only
  refine ⟨?_, ?_, ?_, ?_, ?_, ?_, ?_, ?_⟩ <;> omega
end Go.Sub
namespace Go.Proofs.YtfdpnephjpcnbaaDoor
open Go.RowKit Go.Sub
theorem chAt_one {w : World} {g : Nat} {r : Ch} {t : TypeId} (hb : HB w g #[Value.slice (some ⟨r.g, 0, none⟩) 12 r.cap] t) (hr : RdN w (some ⟨r.g, 0, none⟩) 12 r.cap .i64 r.l) : ChAt w (some ⟨g, 0, none⟩) 1 1 [r] := by
  refine ⟨⟨rfl, Nat.le_refl _, fun _ => ⟨g, 0, rfl, hb.lt, fun i u hi => ?_⟩, fun e => by cases e⟩, fun x hx => ?_⟩
  · rw [hb.cell, Nat.zero_add, ← hi]
    simp [chC]
  · obtain rfl : x = r := by simpa using hx
    exact hr
/-- One channel, which has come back. -/
theorem ch_single {w : World} {g : Nat} {ys : List Ch} {l : List Int} (h : ChAt w (some ⟨g, 0, none⟩) 1 1 ys) (hl : ys.map Ch.l = [l]) : ∃ y, ys = [y] ∧ Win w y.g 0 (fun j => l.getD j 0) ∧ w.cell? ⟨g, 0, none⟩ = some (.slice (some ⟨y.g, 0, none⟩) 12 y.cap) ∧ Old g w := by
  match ys, hl with
  | [y], hl =>
    obtain rfl : y.l = l := by simpa using hl
    obtain ⟨_, _, e, o, c⟩ := h.at_ (by decide)
    cases e
    exact ⟨y, rfl, h.win (k := 0) rfl, by have := c.out 0 y rfl; unfold chC at this; rwa [Nat.zero_add] at this, o⟩
/-- Currents in a slice, and true. -/
def RetCurs (L : List Cur) (w : World) (e : Ending) (w' : World) : Prop := ∃ g cap, e = .returned (.tuple #[.slice (some ⟨g, 0, none⟩) L.length cap, .bool true]) ∧ Q w w' ∧ RdC w' g 0 L
set_option maxRecDepth 100000 in
set_option maxHeartbeats 8000000 in
theorem measured_c (x0 x1 x2 x3 : Int) (A : Option Addr) (m ca : Nat) (rows : List Ch) (w : World) (hr : RootsOK w) (h : ChAt w A m ca rows) (m0 : 1 ≤ m) (m1 : m ≤ 900) (bx : ∀ r ∈ rows, InB (-16383) 16383 r.l) :
    Calls Tryd.prog 13 #[.agg #[Value.int .i64 x0, Value.int .i64 x1, Value.int .i64 x2, Value.int .i64 x3], .slice A m ca] w (RetCurs (rows.map curOf) w) := by
  obtain ⟨g, o, rfl, ho, hc⟩ := h.at_ (by omega)
  have HCH := Lib.hid h
  have HL := Lib.hid h.len
  have BX := Lib.hid bx
  clear h bx
  go_enter Tryd.func13, Tryd.ntmps13
  go_wp2_with fail
  go_loopw [6, 7] (fun s6 s7 wr => ∃ (k : Nat) (kk : Jk), s7 = .int .i64 k ∧ k ≤ m ∧ wr = (w.alloc (Obj.cells #[Value.int .i64 x0, Value.int .i64 x1, Value.int .i64 x2, Value.int .i64 x3] 23)).jk kk ∧ Hid (RowC (w.alloc (Obj.cells #[Value.int .i64 x0, Value.int .i64 x1, Value.int .i64 x2, Value.int .i64 x3] 23)) ((w.alloc (Obj.cells #[Value.int .i64 x0, Value.int .i64 x1, Value.int .i64 x2, Value.int .i64 x3] 23)).jk kk) s6 ((rows.take k).map curOf))) (fun _ i _ => m - (intOf i).toNat)
  case atStart =>
    obtain ⟨kk, ek⟩ := Q.refl (w.alloc (Obj.cells #[Value.int .i64 x0, Value.int .i64 x1, Value.int .i64 x2, Value.int .i64 x3] 23))
    exact ⟨0, kk, rfl, Nat.zero_le _, ek, Lib.hid (RowC.nil _ _)⟩
  case round =>
    obtain ⟨k, kk, rfl, hk, rfl, HRow0⟩ := hrel
    by_cases hlt : k < m
    · obtain ⟨v6, rfl⟩ : ∃ v6, v6 = u6 := ⟨_, rfl⟩
      obtain ⟨r, hr'⟩ : ∃ r, rows[k]? = some r := ⟨_, List.getElem?_eq_getElem (by rw [HL.out]; exact hlt)⟩
      obtain ⟨M, hM⟩ : ∃ M, (rows.take k).map curOf = M := ⟨_, rfl⟩
      have EM : Hid ((rows.take (k + 1)).map curOf = M ++ [curOf r]) := Lib.hid (by rw [← hM, List.take_add_one, hr', List.map_append]; rfl)
      have EL : Hid (M.length = k) := Lib.hid (by rw [← hM, List.length_map, List.length_take, HL.out]; omega)
      rw [hM] at HRow0
      have HRow := Lib.hid HRow0.out
      clear HRow0 hM
      have g1 := hc.out k r hr'
      unfold chC at g1
      have hm := List.mem_of_getElem? hr'
      have HR := Lib.hid (HCH.out.2 r hm)
      have L12 : Hid (∀ q ∈ [r], q.l.length = 12) := Lib.hid (List.forall_mem_singleton.2 HR.out.len)
      have BR : Hid (∀ q ∈ [r], InB (-16383) 16383 q.l) := Lib.hid (List.forall_mem_singleton.2 (BX.out r hm))
      have WX := Lib.hid (winOK_of (BX.out r hm))
      clear hr' hm
      have k0 : (0 : Int) ≤ (k : Int) := by omega
      have k1 : (k : Int) < (m : Int) := by omega
      have k999 : (k : Int) ≤ 999 := by omega
      go_wp2_with (first
        | (go_at_call 7; (with_reducible refine (split_c (k : Int) (40 + (k : Int)) _ 1 1 [r] _ (chAt_one (HB.new _ _ _ _ (by simp [go_sem])) (HR.out.q (by repeat' (first | exact Q.refl _ | refine Q.alloc ?_ _ | refine Q.jk ?_ _ | refine Q.drew ?_)))) (by decide) (by decide) k0 k999 (by omega) (by omega) BR.out).mono ?_); rintro e w' ⟨gf, fs, rfl, ⟨ks, rfl⟩, hfs, hfd⟩; have HFS := Lib.hid hfs; have HFD := Lib.hid hfd; clear hfs hfd)
        | (go_at_call 8; (with_reducible refine (arrived_c x0 x1 x2 x3 2 (k : Int) gf 12 1 fs _ (HFS.out.q (by repeat' (first | exact Q.refl _ | refine Q.alloc ?_ _ | refine Q.jk ?_ _ | refine Q.drew ?_))) (dat_len HFD.out) (by decide) (by decide) k0 k999 (dat_c HFD.out) (dat_x HFD.out BR.out) (dat_q HFD.out)).mono ?_); rintro e w' ⟨go, co, os, rfl, ⟨ka, rfl⟩, hos, hod⟩; have HOS := Lib.hid hos; have HOD := Lib.hid (hod.trans HFD.out); clear hos hod)
        | (go_at_call 9; (with_reducible refine (collect_lit (k : Int) (40 + (k : Int)) 1 go 1 co os _ rfl (HOS.out.q (by repeat' (first | exact Q.refl _ | refine Q.alloc ?_ _ | refine Q.jk ?_ _ | refine Q.drew ?_))) (dat_len HOD.out) (by decide) (by decide) k0 k999 (by omega) (by omega) (fun k f hk => (dat_at HOD.out hk).2.1) (dat_x HOD.out BR.out) (dat_q0 HOD.out)).mono ?_); rintro e w' ⟨gy, ys, rfl, ⟨ky, rfl⟩, hys, hyl⟩; obtain ⟨y, rfl, hyr, hycell, hyo⟩ := ch_single hys (hyl.trans (dat_back HOD.out L12.out)); have HY := Lib.hid hyr; clear hys hyl hyr)
        | (go_at_call 16; (with_reducible refine (phharm_c 1 y.g 0 y.cap (fun j => r.l.getD j 0) _ (by repeat' (first | with_reducible exact hr | refine RootsOK.alloc ?_ _ | refine RootsOK.jk ?_ _ | refine RootsOK.drew ?_)) (HY.out.q (by repeat' (first | exact Q.refl _ | refine Q.alloc ?_ _ | refine Q.jk ?_ _ | refine Q.drew ?_))) WX.out).mono ?_); rintro e w' ⟨rfl, kv, rfl⟩)
        | (at_builtin; refine wpList_app_cur rfl _ _ rfl (w.alloc (Obj.cells #[Value.int .i64 x0, Value.int .i64 x1, Value.int .i64 x2, Value.int .i64 x3] 23)) v6 M [curOf r] _ 0 _ (by rfl) (by rfl) (HRow.out.q ?c1) ?c2 ?c3 ?c4 ?_)
        | fail)
      case c1 => repeat' (first | exact Q.refl _ | refine Q.alloc ?_ _ | refine Q.jk ?_ _ | refine Q.drew ?_)
      case c2 => exact rdc_one (by simp [go_sem, curOf]) (by simp [go_sem, curOf]) (by simp [go_sem, curOf]) (by simp [go_sem, curOf]) (by simp [go_sem, curOf]) (by simp [go_sem, curOf])
      case c3 => rw [EL.out]; simp only [List.length_cons, List.length_nil]; omega
      case c4 => repeat' (first | exact Q.refl _ | refine Q.alloc ?_ _ | refine Q.jk ?_ _ | refine Q.drew ?_)
      intro v' k2 hr2
      rw [← EM.out] at hr2
      have HR2 := Lib.hid hr2
      clear hr2
      go_wp2_with fail
      go_roundw
      case rel => exact ⟨k + 1, k2, by go_num, by omega, rfl, HR2⟩
      case measure => simp [intOf]; omega
    · obtain rfl : m = k := by omega
      have e : (rows.take m).map curOf = rows.map curOf := by rw [List.take_of_length_le (by rw [HL.out]; exact Nat.le_refl _)]
      rw [e] at HRow0
      obtain ⟨gc, cc, e6, _, _, _, hrd⟩ := HRow0.out.rd (by intro e; have := congrArg List.length e; rw [List.length_map, HL.out] at this; simp at this; omega)
      subst e6
      have HRD := Lib.hid hrd
      clear hrd e HRow0
      go_wp2_with fail
      go_ret2
      refine ⟨gc, cc, rfl, ?_, ?_⟩
      · repeat' (first | exact Q.refl _ | refine Q.alloc ?_ _ | refine Q.jk ?_ _ | refine Q.drew ?_)
      · exact HRD.out.q (by repeat' (first | exact Q.refl _ | refine Q.alloc ?_ _ | refine Q.jk ?_ _ | refine Q.drew ?_))
end Go.Proofs.YtfdpnephjpcnbaaDoor
