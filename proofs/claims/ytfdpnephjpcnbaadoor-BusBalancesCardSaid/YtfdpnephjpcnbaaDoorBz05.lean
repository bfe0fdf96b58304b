
/- The map of the networks; Send. -/
import Derived.Test.YtfdpnephjpcnbaaDoorBz03
import Derived.Maps.RangeWalk
import Derived.Maps.OwnSet
import Derived.Maps.Views
import Derived.Test.YtfdpnephjpcnbaaDoorBz04
import Derived.Test.YtfdpnephjpcnbaaDoorBz02
import Derived.Maps.OwnOps
import Derived.Maps.Ext
set_option linter.unusedSimpArgs false
set_option linter.unusedVariables false
/- append into the room of a row that has just been made; what a world's growth keeps. -/
set_option linter.unusedVariables false
set_option linter.unusedSimpArgs false
namespace Go
open Go.RowKit Go.Sub
theorem splice_cons (cur : List Int) (o : Nat) (v : Int) (r : List Int) (h : o + (v :: r).length ≤ cur.length) : splice (cur.set o v) (o + 1) r = splice cur o (v :: r) := by
  simp only [List.length_cons] at h
  unfold splice
  apply List.ext_getElem?
  intro j
  simp only [List.append_assoc, List.getElem?_append, List.length_take, List.length_set, List.getElem?_take, List.getElem?_set, List.getElem?_drop, List.length_cons]
  by_cases h1 : j < o
  · have e1 : j < o + 1 := by omega
    have e2 : j < cur.length := by omega
    have e3 : ¬ o = j := by omega
    have e4 : j < min (o + 1) cur.length := by omega
    have e5 : j < min o cur.length := by omega
    rw [if_pos e4, if_pos e1, if_neg e3, if_pos e5, if_pos h1]
  · by_cases h2 : j = o
    · subst h2
      have e1 : min (j + 1) cur.length = j + 1 := by omega
      have e2 : min j cur.length = j := by omega
      have e3 : j < cur.length := by omega
      simp [e1, e2, e3]
    · by_cases h3 : j < o + 1 + r.length
      · rw [if_neg (by omega), if_pos (by omega), if_neg (by omega), if_pos (by omega), show j - min o cur.length = (j - min (o + 1) cur.length) + 1 by omega, List.getElem?_cons_succ]
      · rw [if_neg (by omega), if_neg (by omega), if_neg (by omega), if_neg (by omega), if_neg (by omega)]
        congr 1
        omega
theorem setCells_last (w : World) (q : IntKind) (t : TypeId) (g : Nat) (hg : g = w.heap.size) : ∀ (vs : List Int) (o : Nat) (cur : List Int), o + vs.length ≤ cur.length →
    (w.alloc (.cells (cellsN q cur) t)).setCells g o (vs.map (Value.int q)) = w.alloc (.cells (cellsN q (splice cur o vs)) t)
  | [], o, cur, h => by simp [World.setCells, splice]
  | v :: r, o, cur, h => by
    rw [List.map_cons, World.setCells, World.setCell_alloc_at _ _ _ _ _ hg, cellsN_set, setCells_last w q t g hg r (o + 1) (cur.set o v) (by simp only [List.length_cons, List.length_set] at *; omega), splice_cons cur o v r h]
theorem setCells_past (ob : Obj) (g : Nat) : ∀ (vs : List Value) (o : Nat) (w : World), g < w.heap.size → (w.alloc ob).setCells g o vs = (w.setCells g o vs).alloc ob
  | [], _, _, _ => rfl
  | v :: r, o, w, h => by
    rw [World.setCells, World.setCells, World.setCell_alloc_past _ _ _ _ h, setCells_past ob g r (o + 1) _ (by simpa using h)]
/-- append into the room of the row that lies ahead of the world's last block. -/
theorem run_append_al {P : Program} (W : World) (ob : Obj) (t e ty : TypeId) (q : IntKind) (i : TypeInfo) (g n cap m c : Nat) (a : Addr) (cur cs : List Int)
    (hu : P.underlying t = some (.slice e)) (hi : P.info? e = some i) (hs : i.size = 1) (hg : g = W.heap.size) (hm : cs.length = m) (hn : n + m ≤ cap) (hcap : n + m ≤ cur.length)
    (hsrc : ∀ j v, cs[j]? = some v → ((W.alloc (.cells (cellsN q cur) e)).alloc ob).cell? (a.add j) = some (Value.int q v)) :
    (Builtin.append_ #[t, t] ty #[.slice (some ⟨g, 0, none⟩) n cap, .slice (some a) m c]).run P ((W.alloc (.cells (cellsN q cur) e)).alloc ob)
      = .ok (.slice (some ⟨g, 0, none⟩) (n + m) cap) ((W.alloc (.cells (cellsN q (splice cur n cs)) e)).alloc ob) := by
  have hrow : ((W.alloc (.cells (cellsN q cur) e)).alloc ob).heap[g]? = some (.cells (cellsN q cur) e (0, 0)) := by
    subst hg
    show ((W.heap.push (.cells (cellsN q cur) e)).push ob)[W.heap.size]? = _
    rw [Array.getElem?_push, if_neg (by simp <;> omega), Array.getElem?_push, if_pos rfl]
  rw [run_append_room_cells (P := P) _ t ty e i hu hi g 0 n cap a m c (cs.map (Value.int q)) (by rw [List.length_map, hs, hm, Nat.mul_one]) (by
    intro j v hv
    rw [List.getElem?_map] at hv
    cases hc : cs[j]? with
    | none => rw [hc] at hv; cases hv
    | some x => rw [hc] at hv; cases hv; exact hsrc j x hc) (one_ints q cs) hn (by
    intro j hj
    rw [List.length_map, hm] at hj
    rw [hs, cell_of_row _ _ _ (cellsN q cur) _ (0, 0) hrow, cellsN_at (by omega)]
    rfl) (by
    intro j hj
    simp [World.frozen?, hrow]), hs, Nat.mul_one, Nat.zero_add, setCells_past _ _ _ _ _ (by simp [hg]), setCells_last W q e g hg cs n cur (by omega)]
theorem grownBy_setCell (w : World) (b i : Nat) (v : Value) : w.grownBy (w.setCell ⟨b, i, none⟩ v) (some b) := by
  refine ⟨rfl, rfl, rfl, by simp, fun j hj hne => ?_⟩
  have : ¬ b = j := fun e => hne (by rw [e])
  simp [World.setCell, Array.getElem?_modify, this]
theorem Q.grown {w w' : World} (h : Q w w') (row : Option Nat) : w.grownBy w' row := ⟨h.below.os, h.below.tape, h.below.output, h.below.size, fun j hj _ => h.below.block j hj⟩
theorem HB.grown {w w' : World} {b : Nat} {cs : Array Value} {t : TypeId} {row : Option Nat} (h : HB w b cs t) (hg : w.grownBy w' row) (hne : some b ≠ row) : HB w' b cs t := (hg.block b h.lt hne).trans h
end Go
/- Frames in memory; channels in memory. -/
set_option linter.unusedVariables false
set_option linter.unusedSimpArgs false
namespace Go.Sub
/-- A frame: its count, where its samples and its qualities lie, and what they are. -/
structure Fm where
  c : Int
  a : Nat
  b : Nat
  xs : List Int
  qs : List Int
/-- What a frame says. -/
def Fm.dat (f : Fm) : Int × List Int × List Int := (f.c, f.xs, f.qs)
/-- A channel: where it lies, and its samples. -/
structure Ch where
  g : Nat
  cap : Nat
  l : List Int
open Go in
def fmC (u : Int) (n : Nat) (f : Fm) : List Value := [.int .i64 u, .int .i64 f.c, .bool true, .slice (some ⟨f.a, 0, none⟩) n n, .slice (some ⟨f.b, 0, none⟩) n n]
open Go in
def chC (r : Ch) : Value := .slice (some ⟨r.g, 0, none⟩) 12 r.cap
open Go in
theorem fmC_len (u : Int) (n : Nat) (l : List Fm) : (l.flatMap (fmC u n)).length = l.length * 5 := by
  induction l with
  | nil => rfl
  | cons c l ih =>
    rw [List.flatMap_cons, List.length_append, ih]
    simp only [fmC, List.length_cons, List.length_nil]
    omega
open Go in
theorem fmC_get (u : Int) (n : Nat) (l : List Fm) (k j : Nat) (f : Fm) (h : l[k]? = some f) (hj : j < 5) : (l.flatMap (fmC u n))[k * 5 + j]? = (fmC u n f)[j]? := by
  induction l generalizing k with
  | nil => simp at h
  | cons d l ih =>
    rw [List.flatMap_cons]
    cases k with
    | zero =>
      simp only [List.getElem?_cons_zero, Option.some.injEq] at h
      subst h
      rw [List.getElem?_append_left (by simp only [fmC, List.length_cons, List.length_nil]; omega), Nat.zero_mul, Nat.zero_add]
    | succ k =>
      simp only [List.getElem?_cons_succ] at h
      rw [List.getElem?_append_right (by simp only [fmC, List.length_cons, List.length_nil]; omega)]
      have e : (k + 1) * 5 + j - (fmC u n d).length = k * 5 + j := by
        simp only [fmC, List.length_cons, List.length_nil]
        omega
      rw [e]
      exact ih k h
open Go in
theorem set5 (L : List Value) (i : Nat) (a b c d e : Value) (h : i + 5 ≤ L.length) : (((((L.set i a).set (i + 1) b).set (i + 2) c).set (i + 3) d).set (i + 4) e) = L.take i ++ [a, b, c, d, e] ++ L.drop (i + 5) := by
  apply List.ext_getElem?
  intro j
  simp only [List.append_assoc, List.getElem?_append, List.length_take, List.length_set, List.getElem?_take, List.getElem?_set, List.getElem?_drop, List.length_cons, List.length_nil]
  rcases Nat.lt_or_ge j i with h1 | h1
  · have e1 : j < min i L.length := by omega
    have e2 : ¬ i + 4 = j := by omega
    have e3 : ¬ i + 3 = j := by omega
    have e4 : ¬ i + 2 = j := by omega
    have e5 : ¬ i + 1 = j := by omega
    have e6 : ¬ i = j := by omega
    rw [if_neg e2, if_neg e3, if_neg e4, if_neg e5, if_neg e6, if_pos e1, if_pos h1]
  · have em : min i L.length = i := by omega
    rw [em]
    rcases Nat.lt_or_ge j (i + 5) with h2 | h2
    · obtain ⟨q, rfl⟩ : ∃ q, j = i + q := ⟨j - i, by omega⟩
      have hq : q < 5 := by omega
      have e0 : ¬ i + q < i := by omega
      rw [if_neg e0, Nat.add_sub_cancel_left]
      match q, hq with
      | 0, _ => simp; omega
      | 1, _ => simp; omega
      | 2, _ => simp; omega
      | 3, _ => simp; omega
      | 4, _ => simp; omega
    · have e2 : ¬ i + 4 = j := by omega
      have e3 : ¬ i + 3 = j := by omega
      have e4 : ¬ i + 2 = j := by omega
      have e5 : ¬ i + 1 = j := by omega
      have e6 : ¬ i = j := by omega
      have e7 : ¬ j < i := by omega
      have e8 : ¬ j - i < 0 + 1 + 1 + 1 + 1 + 1 := by omega
      rw [if_neg e2, if_neg e3, if_neg e4, if_neg e5, if_neg e6, if_neg e7, if_neg e8]
      congr 1
      omega
end Go.Sub
namespace Go.Proofs.YtfdpnephjpcnbaaDoor
open Go.RowKit Go.Sub
/-- The frame's samples and qualities lie where it says. -/
def FmAt (w : World) (n : Nat) (f : Fm) : Prop := HB w f.a (cellsN .i64 f.xs) 3 ∧ HB w f.b (cellsN .i64 f.qs) 3 ∧ f.xs.length = n ∧ f.qs.length = n
theorem FmAt.q {w w' : World} {n : Nat} {f : Fm} (h : FmAt w n f) (hq : Q w w') : FmAt w' n f := ⟨h.1.q hq, h.2.1.q hq, h.2.2⟩
theorem FmAt.rx {w : World} {n : Nat} {f : Fm} (h : FmAt w n f) : RdN w (some ⟨f.a, 0, none⟩) n n .i64 f.xs := rdn_of_hb h.1 _ h.2.2.1.symm _ (Nat.le_refl _)
theorem FmAt.rq {w : World} {n : Nat} {f : Fm} (h : FmAt w n f) : RdN w (some ⟨f.b, 0, none⟩) n n .i64 f.qs := rdn_of_hb h.2.1 _ h.2.2.2.symm _ (Nat.le_refl _)
/-- A slice of frames. -/
def FrAt (w : World) (g : Nat) (u : Int) (n : Nat) (l : List Fm) : Prop := g < w.heap.size ∧ (∀ i v, (l.flatMap (fmC u n))[i]? = some v → w.cell? ⟨g, i, none⟩ = some v) ∧ ∀ f ∈ l, FmAt w n f
theorem FrAt.q {w w' : World} {g : Nat} {u : Int} {n : Nat} {l : List Fm} (h : FrAt w g u n l) (hq : Q w w') : FrAt w' g u n l :=
  ⟨Nat.lt_of_lt_of_le h.1 hq.below.size, fun i v hi => (hq.below.cell (p := ⟨g, i, none⟩) h.1).trans (h.2.1 i v hi), fun f hf => (h.2.2 f hf).q hq⟩
theorem FrAt.cells {w : World} {g : Nat} {u : Int} {n : Nat} {l : List Fm} (h : FrAt w g u n l) (k : Nat) (f : Fm) (hk : l[k]? = some f) :
    w.cell? ⟨g, k * 5, none⟩ = some (.int .i64 u) ∧ w.cell? ⟨g, k * 5 + 1, none⟩ = some (.int .i64 f.c) ∧ w.cell? ⟨g, k * 5 + 2, none⟩ = some (.bool true) ∧ w.cell? ⟨g, k * 5 + 3, none⟩ = some (.slice (some ⟨f.a, 0, none⟩) n n) ∧ w.cell? ⟨g, k * 5 + 4, none⟩ = some (.slice (some ⟨f.b, 0, none⟩) n n) :=
  ⟨h.2.1 (k * 5) _ (by have := fmC_get u n l k 0 f hk (by decide); rwa [Nat.add_zero] at this), h.2.1 _ _ (fmC_get u n l k 1 f hk (by decide)), h.2.1 _ _ (fmC_get u n l k 2 f hk (by decide)), h.2.1 _ _ (fmC_get u n l k 3 f hk (by decide)), h.2.1 _ _ (fmC_get u n l k 4 f hk (by decide))⟩
/-- Channels. -/
def ChAt (w : World) (A : Option Addr) (n ca : Nat) (rows : List Ch) : Prop := RdV w A n ca 1 (rows.map chC) ∧ ∀ r ∈ rows, RdN w (some ⟨r.g, 0, none⟩) 12 r.cap .i64 r.l
theorem ChAt.q {w w' : World} {A : Option Addr} {n ca : Nat} {rows : List Ch} (h : ChAt w A n ca rows) (hq : Q w w') : ChAt w' A n ca rows := ⟨h.1.q hq, fun r hr => (h.2 r hr).q hq⟩
theorem ChAt.len {w : World} {A : Option Addr} {n ca : Nat} {rows : List Ch} (h : ChAt w A n ca rows) : rows.length = n := by
  have := h.1.1
  simpa using this
end Go.Proofs.YtfdpnephjpcnbaaDoor
set_option linter.unusedVariables false
set_option linter.unusedSimpArgs false
namespace Go.Proofs.YtfdpnephjpcnbaaDoor
open Go.RowKit Go.Sub
open Go.Maps in
theorem lawU8 : Keyed Tryd.prog 5 := int_keyed Tryd.underlying5
/-- What the map of the networks reads as. -/
def netD : DataW Unit := ((DataW.map []).put (.int .u8 160) (.lit (.int .i64 0))).put (.int .u8 161) (.lit (.int .i64 1))
/-- Block b is the map of the networks. -/
def NetM (w : World) (b : Nat) : Prop := w.ownsMap Tryd.prog 5 (plainElem Tryd.prog 3) b 2 netD
set_option maxRecDepth 100000 in
theorem networks_c (w : World) : Calls Tryd.prog 45 #[] w fun e w' => e = .returned (.map (some w.heap.size)) ∧ Q w w' ∧ NetM w' w.heap.size := by
  have hmm := @run_makeMap Tryd.prog
  have h0 : (w.alloc (.map #[] 0)).ownsMap Tryd.prog 5 (plainElem (H := Unit) Tryd.prog 3) w.heap.size 0 (.map []) := World.ownsMap_made w _ _ _
  have k0 : keyOf Tryd.prog 5 (.int .u8 160) = some (Lit.int .u8 160) := Maps.keyOf_int_mk Tryd.underlying5 (by decide)
  have k1 : keyOf Tryd.prog 5 (.int .u8 161) = some (Lit.int .u8 161) := Maps.keyOf_int_mk Tryd.underlying5 (by decide)
  obtain ⟨w1, r1, h1, g1⟩ := h0.update lawU8 Tryd.underlying115 (by decide) k0 (plainElem_int (a := 0) Tryd.underlying3 (by decide))
  obtain ⟨w2, r2, h2, g2⟩ := h1.update lawU8 Tryd.underlying115 (by decide) k1 (plainElem_int (a := 1) Tryd.underlying3 (by decide))
  go_enter Tryd.func45, Tryd.ntmps45
  go_wp2
  go_ret
  refine ⟨rfl, ?_, h2⟩
  have hq : Q w (w.alloc (.map #[] 0)) := .alloc (.refl _) _
  refine grown_Q (grown_Q hq g1 ?_) g2 ?_
  · rintro g ⟨⟩; exact Nat.le_refl _
  · rintro g ⟨⟩; exact Nat.le_refl _
theorem netD_inv (x c : Int) (h : ∀ zd, netD.atKey (.int .u8 x) zd = .lit (.int .i64 c)) : (x = 160 ∧ c = 0) ∨ (x = 161 ∧ c = 1) := by
  unfold netD at h
  by_cases h1 : x = 161
  · subst h1
    have := h (.lit (.int .i64 0))
    rw [Maps.atKey_put_same (k := Lit.int .u8 161) (Maps.isMap_empty.put _ _) trivial] at this
    refine .inr ⟨rfl, ?_⟩
    injection this with this
    injection this with _ this
    exact this.symm
  · by_cases h2 : x = 160
    · subst h2
      have := h (.lit (.int .i64 0))
      rw [Maps.atKey_put_other (k := Lit.int .u8 161) (k' := Lit.int .u8 160) (by simp), Maps.atKey_put_same (k := Lit.int .u8 160) Maps.isMap_empty trivial] at this
      refine .inl ⟨rfl, ?_⟩
      injection this with this
      injection this with _ this
      exact this.symm
    · have e0 := h (.lit (.int .i64 0))
      have e1 := h (.lit (.int .i64 1))
      rw [Maps.atKey_put_other (by simpa using h1), Maps.atKey_put_other (by simpa using h2)] at e0 e1
      have e : ∀ z : DataW Unit, (DataW.map []).atKey (Lit.int .u8 x) z = z := fun z => by simp [DataW.atKey]
      rw [e] at e0 e1
      rw [← e1] at e0
      injection e0 with e0
      injection e0 with _ e0
      cases e0
/-- The trailer of a copy. -/
def trl (src seq mark : Int) (n : Nat) : List Int := [src / 256, src % 256, seq / 256, seq % 256, mark, 0, (n : Int) / 256, (n : Int) % 256]
theorem wpList_append_run {P : Program} {ops : Array Oper} {rest : List Oper} {o : Oper} {a : Act} {w w' : World} {Q' : Exit → Act → World → Prop} {t : TypeId} {sv xv v : Value} (hg : o.guard = none) (s x : Operand)
    (hop : o.op = .call { callee := .builtin .append, args := #[s, x], argTypes := #[t, t] }) (hs : a.eval s = sv) (hx : a.eval x = xv) (hrun : (Builtin.append_ #[t, t] o.type #[sv, xv]).run P w = .ok v w')
    (h : wpList P ops Q' rest (a.put o.dst v) w') : wpList P ops Q' (o :: rest) a w := by
  refine wpList_plain hg fun K' hK' => ?_
  unfold Oper.wp
  simp [execOp, hop, resolve, invoke, builtin, hs, hx, hrun, Result.andThen]
  exact hK' _ _ h
/-- What is known of a copy: none while its mark is still to come. -/
def CopyS (w : World) (left : Lit → Bool) (mark : Int) (l : List Int) (v : Value) : Prop :=
  (left (.int .u8 mark) = true ∧ v = .slice none 0 0) ∨ (left (.int .u8 mark) = false ∧ ∃ g, v = .slice (some ⟨g, 0, none⟩) l.length l.length ∧ HB w g (cellsN .u8 l) 5)
theorem hb_ne_iter {H : Type} {P : Program} {w : World} {g : Nat} {cs : Array Value} {t k : TypeId} {R : Value → Option (DataW H × List MemPlace)} {b r n : Nat} {D : DataW H} {left : Lit → Bool} {cnt : Nat} (h : HB w g cs t) (hr : w.ranges P k R b r n D left cnt) : g ≠ r := by
  obtain ⟨es, clock, since, seen, c0, _, _, _, _, h2, _⟩ := hr
  rintro rfl
  have h' : w.heap[g]? = some (.cells cs t) := h
  rw [h'] at h2
  cases h2
theorem hb_ne_type {w : World} {g b : Nat} {cs cs' : Array Value} {t t' : TypeId} (h : HB w g cs t) (h' : HB w b cs' t') (hne : t ≠ t') : g ≠ b := by
  rintro rfl
  have e : w.heap[g]? = some (.cells cs t) := h
  have e' : w.heap[g]? = some (.cells cs' t') := h'
  rw [e] at e'
  injection e' with e'
  injection e' with _ e' _
  exact hne e'
/-- What is known of the copies stands behind the iterator's turn, and behind a store into the array of the copies. -/
theorem CopyS.grown {w w' : World} {left left' : Lit → Bool} {mark : Int} {l : List Int} {v : Value} {row : Nat} (h : CopyS w left mark l v) (hg : w.grownBy w' (some row)) (hl : left' (.int .u8 mark) = left (.int .u8 mark))
    (hne : ∀ g, HB w g (cellsN .u8 l) 5 → g ≠ row) : CopyS w' left' mark l v := by
  rcases h with ⟨h, e⟩ | ⟨h, g, e, r⟩
  · exact .inl ⟨hl.trans h, e⟩
  · exact .inr ⟨hl.trans h, g, e, r.grown hg (fun q => hne g r (Option.some.inj q))⟩
/-- Both copies, and the next number. -/
def RetSend (l0 l1 : List Int) (next : Int) (w : World) (e : Ending) (w' : World) : Prop := ∃ g0 g1 n, e = .returned (.tuple #[.agg #[.slice (some ⟨g0, 0, none⟩) n n, .slice (some ⟨g1, 0, none⟩) n n], .int .i64 next, .int .i64 0]) ∧ Q w w' ∧ l0.length = n ∧ l1.length = n ∧ HB w' g0 (cellsN .u8 l0) 5 ∧ HB w' g1 (cellsN .u8 l1) 5
theorem grown3 (w1 : World) (b i : Nat) (v : Value) (o1 o2 : Obj) : w1.grownBy (((w1.setCell ⟨b, i, none⟩ v).alloc o1).alloc o2) (some b) :=
  (grownBy_setCell w1 _ _ _).trans ((World.grownBy_alloc _ _ _).trans (World.grownBy_alloc _ _ _))
set_option maxRecDepth 100000 in
set_option maxHeartbeats 2000000 in
theorem send_c (A : Option Addr) (n ca : Nat) (l : List Int) (src seq : Int) (w : World) (h : RdN w A n ca .u8 l) (n0 : 1 ≤ n) (n1 : n ≤ 1500) (s0 : 0 ≤ src) (s1 : src < 65536) (q0 : 0 ≤ seq) (q1 : seq < 65536) :
    Calls Tryd.prog 24 #[Value.slice A n ca, Value.int .i64 src, Value.int .i64 seq] w (RetSend (l ++ trl src seq 160 n) (l ++ trl src seq 161 n) ((seq + 1) % 65536) w) := by
  obtain ⟨g, o, rfl, ho, hc⟩ := h.at_ (by omega)
  have HL := Lib.hid h.len
  clear h
  go_enter Tryd.func24, Tryd.ntmps24
  go_wp2_with (first
    | (go_at_call 45; refine (networks_c _).mono ?_; rintro e w' ⟨rfl, ⟨kn, rfl⟩, hm⟩; simp only [World.size_alloc, NetM] at hm)
    | (at_range; refine wpList_range_own _ rfl _ 115 rfl 5 3 lawU8 Tryd.underlying115 (plainElem Tryd.prog 3) (w.heap.size + 1 + 1) 2 netD rfl hm ?_; intro w0 hrg0 hg0 hs0)
    | fail)
  have hr : ∃ r, (((w.alloc (.cells #[Value.slice none 0 0, Value.slice none 0 0] 76)).alloc (.cells #[Value.slice none 0 0, Value.slice none 0 0] 76)).jk kn).heap.size = r := ⟨_, rfl⟩
  obtain ⟨r, hr⟩ := hr
  have hb1 := hm.lt
  rw [hr] at hb1
  have hcb : HB (((w.alloc (.cells #[Value.slice none 0 0, Value.slice none 0 0] 76)).alloc (.cells #[Value.slice none 0 0, Value.slice none 0 0] 76)).jk kn) (w.heap.size + 1) #[Value.slice none 0 0, Value.slice none 0 0] 76 := (HB.new _ _ _ _ (by simp)).jk kn
  have hQ : Q (w.alloc (.cells #[Value.slice none 0 0, Value.slice none 0 0] 76)) (((w.alloc (.cells #[Value.slice none 0 0, Value.slice none 0 0] 76)).alloc (.cells #[Value.slice none 0 0, Value.slice none 0 0] 76)).jk kn) := (Q.alloc (Q.refl _) _).jk kn
  rw [hr] at hrg0
  have hcb0 := hcb.grown hg0 (by simp)
  have hQ0 := grown_Q hQ hg0 (by simp)
  go_frame
  rw [hr]
  clear hs0 hm hcb hQ hg0 hr
  have HR0 := Lib.hid hrg0
  have HC0 := Lib.hid hcb0
  have HQ0 := Lib.hid hQ0
  clear hrg0 hcb0 hQ0
  go_loopw [11] (fun _ wr => ∃ (left : Lit → Bool) (cnt : Nat) (v0 v1 : Value), Hid (wr.ranges Tryd.prog 5 (plainElem Tryd.prog 3) (w.heap.size + 1 + 1) r 2 netD left cnt) ∧ Hid (Q (w.alloc (.cells #[Value.slice none 0 0, Value.slice none 0 0] 76)) wr) ∧ Hid (HB wr (w.heap.size + 1) #[v0, v1] 76) ∧ Hid (CopyS wr left 160 (l ++ trl src seq 160 n) v0) ∧ Hid (CopyS wr left 161 (l ++ trl src seq 161 n) v1)) (fun _ wr => wr.rangeLeft (w.heap.size + 1 + 1) r)
  case atStart =>
    exact ⟨_, _, _, _, HR0, HQ0, HC0, Lib.hid (.inl ⟨by kernel_rfl, rfl⟩), Lib.hid (.inl ⟨by kernel_rfl, rfl⟩)⟩
  case round =>
    clear HR0 HC0 HQ0
    obtain ⟨left, cnt, v0, v1, HRG, HQ, HC, H0, H1⟩ := hrel
    have hrg := HRG.out
    go_wp2_with (first
      | (at_next; refine wpList_next_ranges_ii _ rfl _ rfl 5 3 .u8 .i64 lawU8 Tryd.underlying5 Tryd.underlying3 (w.heap.size + 1 + 1) r 2 _ _ _ rfl hrg ?_ ?_)
      | fail)
    · intro hc0 hl0
      have h0 := H0.out
      have h1 := H1.out
      rw [CopyS, hl0] at h0 h1
      rcases h0 with ⟨h0, _⟩ | ⟨_, g0, rfl, b0⟩
      · cases h0
      rcases h1 with ⟨h1, _⟩ | ⟨_, g1, rfl, b1⟩
      · cases h1
      have hl8 : (l ++ trl src seq 160 n).length = n + 8 := by simp [HL.out, trl]
      have hl9 : (l ++ trl src seq 161 n).length = n + 8 := by simp [HL.out, trl]
      rw [hl8, hl9] at HC
      obtain ⟨k2, ek⟩ := HQ.out
      have b0' := Lib.hid b0
      have b1' := Lib.hid b1
      have hcb := HC.out
      have L8 := Lib.hid hl8
      have L9 := Lib.hid hl9
      clear b0 b1 H0 H1 HRG hrg hl0 hc0 HQ HC hl8 hl9
      subst ek
      have c0 := hcb.cell 0
      have c1 := hcb.cell 1
      have oc := hcb.old
      simp only [List.getElem?_toArray, List.getElem?_cons_zero, List.getElem?_cons_succ] at c0 c1
      clear hcb
      go_wp2_with fail
      refine bodyPost_ret (v := .tuple #[.agg #[.slice (some ⟨g0, 0, none⟩) (n + 8) (n + 8), .slice (some ⟨g1, 0, none⟩) (n + 8) (n + 8)], .int .i64 ((seq + 1) % 65536), .int .i64 0]) (by simp [results, Tryd.results24, go_sem]) rfl ?_
      have hR : HB ((w.alloc (.cells #[Value.slice none 0 0, Value.slice none 0 0] 76)).jk k2) w.heap.size #[Value.slice none 0 0, Value.slice none 0 0] 76 := (HB.new _ _ _ _ rfl).jk k2
      refine ⟨g0, g1, n + 8, rfl, ?_, L8.out, L9.out, hb_swap b0'.out (hb_ne_type b0'.out hR (by decide)), hb_swap b1'.out (hb_ne_type b1'.out hR (by decide))⟩
      repeat' (first | exact Q.refl _ | refine Q.alloc ?_ _ | refine Q.jk ?_ _ | refine Q.drew ?_)
    · intro x c w1 cnt1 hwx hwc hlx hat hrg1 hlt hg1 hs1 hen
      have hn := netD_inv x c hat
      clear hat hwx hwc hs1
      have hQ1 : Q (w.alloc (.cells #[Value.slice none 0 0, Value.slice none 0 0] 76)) w1 := grown_Q HQ.out hg1 (by rintro g ⟨⟩; simp; omega)
      have hcb1 := HC.out.grown hg1 (by simp; omega)
      have c0 : w1.cell? ⟨w.heap.size + 1, 0, none⟩ = some v0 := hcb1.cell 0
      have c1 : w1.cell? ⟨w.heap.size + 1, 1, none⟩ = some v1 := hcb1.cell 1
      have f0 : w1.frozen? ⟨w.heap.size + 1, 0, none⟩ = false := hcb1.soft 0
      have f1 : w1.frozen? ⟨w.heap.size + 1, 1, none⟩ = false := hcb1.soft 1
      have oc := hcb1.old
      have HCB := Lib.hid hcb1
      have HQ1 := Lib.hid hQ1
      have HMK := make_u8 w1 (n : Int) ((n : Int) + 8) n (n + 8) rfl (by omega) (by omega) (by omega)
      have HCP := run_copy_last (P := Tryd.prog) w1 73 73 3 5 5 .u8 w1.heap.size 0 n (n + 8) n ca ⟨g, o, none⟩ (List.replicate (n + 8) 0) l (by kernel_rfl) (by kernel_rfl) rfl (by rw [HL.out]; simp [Nat.min_def]) (by
        intro j v hj
        have hjn : j < n := by rw [← HL.out]; exact (List.getElem?_eq_some_iff.1 hj).1
        have e : l.getD j 0 = v := by rw [List.getD_eq_getElem?_getD, hj]; rfl
        rw [addr_add0]
        refine Eq.trans ?_ ((hc.out j hjn).trans (by rw [e]))
        exact ((((Q.alloc (Q.refl w) _).trans hQ1).alloc _).below.cell (p := ⟨g, o + j, none⟩) ho.lt)) (by rw [HL.out, List.length_replicate]; omega)
      rw [HL.out] at HCP
      have es : splice (List.replicate (n + 8) 0) 0 l = l ++ List.replicate 8 0 := by
        unfold splice
        rw [List.take_zero, List.nil_append, HL.out, Nat.zero_add, List.drop_replicate, Nat.add_sub_cancel_left]
      rw [es] at HCP
      clear es hcb1 hQ1
      have HAP : ∀ s0 s1 s2 s3 s4 s5 s6 s7 : Int, (Builtin.append_ #[73, 73] 73 #[.slice (some ⟨w1.heap.size, 0, none⟩) n (n + 8), .slice (some ⟨w1.heap.size + 1, 0, none⟩) 8 8]).run Tryd.prog ((w1.alloc (.cells (cellsN .u8 (l ++ List.replicate 8 0)) 5)).alloc (.cells #[Value.int .u8 s0, Value.int .u8 s1, Value.int .u8 s2, Value.int .u8 s3, Value.int .u8 s4, Value.int .u8 s5, Value.int .u8 s6, Value.int .u8 s7] 5))
          = .ok (.slice (some ⟨w1.heap.size, 0, none⟩) (n + 8) (n + 8)) ((w1.alloc (.cells (cellsN .u8 (l ++ [s0, s1, s2, s3, s4, s5, s6, s7])) 5)).alloc (.cells #[Value.int .u8 s0, Value.int .u8 s1, Value.int .u8 s2, Value.int .u8 s3, Value.int .u8 s4, Value.int .u8 s5, Value.int .u8 s6, Value.int .u8 s7] 5)) := by
        intro s0 s1 s2 s3 s4 s5 s6 s7
        obtain ⟨iu, hiu, _, hsu, _⟩ := infoU8
        have := run_append_al (P := Tryd.prog) w1 (.cells (cellsN .u8 [s0, s1, s2, s3, s4, s5, s6, s7]) 5) 73 5 73 .u8 iu w1.heap.size n (n + 8) 8 8 ⟨w1.heap.size + 1, 0, none⟩ (l ++ List.replicate 8 0) [s0, s1, s2, s3, s4, s5, s6, s7] Tryd.underlying73 hiu hsu rfl rfl (Nat.le_refl _) (by simp [HL.out]) (fun j v hj => lit_cell _ _ _ _ _ (by simp) j v hj)
        have es : splice (l ++ List.replicate 8 0) n [s0, s1, s2, s3, s4, s5, s6, s7] = l ++ [s0, s1, s2, s3, s4, s5, s6, s7] := by
          unfold splice
          rw [List.take_append_of_le_length (by rw [HL.out]; exact Nat.le_refl _), List.take_of_length_le (by rw [HL.out]; exact Nat.le_refl _), List.drop_append, List.drop_of_length_le (by rw [HL.out]; omega), HL.out]
          simp
        rw [es] at this
        exact this
      rcases hn with ⟨rfl, rfl⟩ | ⟨rfl, rfl⟩
      · skip
        have hv : v0 = .slice none 0 0 := by
          rcases H0.out with ⟨_, e⟩ | ⟨e, _⟩
          · exact e
          · rw [e] at hlx; cases hlx
        have HO := Lib.hid (CopyS.grown (left' := fun z => left z && !z.sameKey (.int .u8 160)) H1.out hg1 (by simp [Lit.sameKey]) (fun g hg => hb_ne_iter hg hrg))
        subst hv
        clear H0 H1 hlx HQ HC
        have HRG1 := Lib.hid hrg1
        have HLT := Lib.hid hlt
        have HLE := Lib.hid hrg.left_eq
        clear hrg1 hlt HRG hrg hg1
        have HAQ := HAP (src / 256) (src % 256) (seq / 256) (seq % 256) (160) (0) ((n : Int) / 256) ((n : Int) % 256)
        clear HAP
        go_wp2_with (first
          | (at_builtin; refine wpList_append_run rfl _ _ rfl rfl rfl HAQ ?_)
          | fail)
        go_roundw
        case rel =>
          have hg : w1.grownBy (((w1.setCell ⟨w.heap.size + 1, 0, none⟩ (.slice (some ⟨w1.heap.size, 0, none⟩) (n + 8) (n + 8))).alloc (.cells (cellsN .u8 (l ++ trl src seq 160 n)) 5)).alloc (.cells #[Value.int .u8 (src / 256), Value.int .u8 (src % 256), Value.int .u8 (seq / 256), Value.int .u8 (seq % 256), Value.int .u8 160, Value.int .u8 0, Value.int .u8 ((n : Int) / 256), Value.int .u8 ((n : Int) % 256)] 5)) (some (w.heap.size + 1)) :=
            (grownBy_setCell w1 _ _ _).trans ((World.grownBy_alloc _ _ _).trans (World.grownBy_alloc _ _ _))
          have hl8 : (l ++ trl src seq 160 n).length = n + 8 := by simp [HL.out, trl]
          refine ⟨_, cnt1, _, v1, Lib.hid (HRG1.out.kept hg (by simp) (by simp; omega)), Lib.hid (grown_Q HQ1.out hg (by rintro g ⟨⟩; simp)), Lib.hid ((((HCB.out.set 0 _).alloc _).alloc _)), Lib.hid ?h0, Lib.hid ?h1⟩
          case h0 => exact .inr ⟨by simp [Lit.sameKey], w1.heap.size, by rw [hl8], (HB.new _ _ _ _ (by simp)).alloc _⟩
          case h1 => exact HO.out.grown hg (by simp) (fun g hgb => hb_ne_type hgb HCB.out (by decide))
        case measure =>
          rw [(HRG1.out.kept (grown3 _ _ _ _ _ _) (by simp) (by simp; omega)).left_eq, HLE.out]
          exact HLT.out
      · skip
        have hv : v1 = .slice none 0 0 := by
          rcases H1.out with ⟨_, e⟩ | ⟨e, _⟩
          · exact e
          · rw [e] at hlx; cases hlx
        have HO := Lib.hid (CopyS.grown (left' := fun z => left z && !z.sameKey (.int .u8 161)) H0.out hg1 (by simp [Lit.sameKey]) (fun g hg => hb_ne_iter hg hrg))
        subst hv
        clear H0 H1 hlx HQ HC
        have HRG1 := Lib.hid hrg1
        have HLT := Lib.hid hlt
        have HLE := Lib.hid hrg.left_eq
        clear hrg1 hlt HRG hrg hg1
        have HAQ := HAP (src / 256) (src % 256) (seq / 256) (seq % 256) (161) (0) ((n : Int) / 256) ((n : Int) % 256)
        clear HAP
        go_wp2_with (first
          | (at_builtin; refine wpList_append_run rfl _ _ rfl rfl rfl HAQ ?_)
          | fail)
        go_roundw
        case rel =>
          have hg : w1.grownBy (((w1.setCell ⟨w.heap.size + 1, 1, none⟩ (.slice (some ⟨w1.heap.size, 0, none⟩) (n + 8) (n + 8))).alloc (.cells (cellsN .u8 (l ++ trl src seq 161 n)) 5)).alloc (.cells #[Value.int .u8 (src / 256), Value.int .u8 (src % 256), Value.int .u8 (seq / 256), Value.int .u8 (seq % 256), Value.int .u8 161, Value.int .u8 0, Value.int .u8 ((n : Int) / 256), Value.int .u8 ((n : Int) % 256)] 5)) (some (w.heap.size + 1)) :=
            (grownBy_setCell w1 _ _ _).trans ((World.grownBy_alloc _ _ _).trans (World.grownBy_alloc _ _ _))
          have hl8 : (l ++ trl src seq 161 n).length = n + 8 := by simp [HL.out, trl]
          refine ⟨_, cnt1, v0, _, Lib.hid (HRG1.out.kept hg (by simp) (by simp; omega)), Lib.hid (grown_Q HQ1.out hg (by rintro g ⟨⟩; simp)), Lib.hid ((((HCB.out.set 1 _).alloc _).alloc _)), Lib.hid ?h1, Lib.hid ?h0⟩
          case h0 => exact .inr ⟨by simp [Lit.sameKey], w1.heap.size, by rw [hl8], (HB.new _ _ _ _ (by simp)).alloc _⟩
          case h1 => exact HO.out.grown hg (by simp) (fun g hgb => hb_ne_type hgb HCB.out (by decide))
        case measure =>
          rw [(HRG1.out.kept (grown3 _ _ _ _ _ _) (by simp) (by simp; omega)).left_eq, HLE.out]
          exact HLT.out
end Go.Proofs.YtfdpnephjpcnbaaDoor
