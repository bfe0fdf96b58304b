
/- What arrived returns. -/
import Derived.Test.YtfdpnephjpcnbaaDoorBz21
import Derived.Test.YtfdpnephjpcnbaaDoorBz22
set_option linter.unusedSimpArgs false
set_option linter.unusedVariables false
set_option linter.unusedVariables false
set_option linter.unusedSimpArgs false
namespace Go
section
variable {P : Program} {ops : Array Oper} {Q' : Exit → Act → World → Prop} {md : Region.Mode} {S : Array Bool → World → Prop}
/-- Whichever of two comes up. -/
theorem GoS.two {i j : Nat} {oi oj : Oper} {fuel : Nat} {listed : Array Bool} {a : Act} {w : World} (hr : Region.ready md ops listed = [i, j]) (hi : ops[i]? = some oi) (hj : ops[j]? = some oj)
    (h : ∀ K : Act → World → Prop, (∀ a' w', S (listed.setIfInBounds i true) w' → GoS P md ops Q' S fuel (listed.setIfInBounds i true) a' w' → K a' w') → if Region.wanted oi (yielded ops a.tmps) then oi.wp P a w K Q' else K (a.put oi.dst undef) w)
    (h' : ∀ K : Act → World → Prop, (∀ a' w', S (listed.setIfInBounds j true) w' → GoS P md ops Q' S fuel (listed.setIfInBounds j true) a' w' → K a' w') → if Region.wanted oj (yielded ops a.tmps) then oj.wp P a w K Q' else K (a.put oj.dst undef) w) : GoS P md ops Q' S (fuel + 1) listed a w := by
  intro hc _
  refine ⟨fun h0 => (by rw [hr] at h0; cases h0), fun m hm => ?_⟩
  have key : ∀ (m : Nat) (o : Oper), ops[m]? = some o → m ∈ Region.ready md ops listed → (∀ K : Act → World → Prop, (∀ a' w', S (listed.setIfInBounds m true) w' → GoS P md ops Q' S fuel (listed.setIfInBounds m true) a' w' → K a' w') → if Region.wanted o (yielded ops a.tmps) then o.wp P a w K Q' else K (a.put o.dst undef) w) →
      wpOp P ops Q' m (fun a' w' => S (listed.setIfInBounds m true) w' ∧ wpAnyT P md ops Q' S fuel (listed.setIfInBounds m true) a' w') a w := by
    intro m o ho hm h
    have h1 := h (fun a' w' => S (listed.setIfInBounds m true) w' ∧ wpAnyT P md ops Q' S fuel (listed.setIfInBounds m true) a' w') fun a' w' hs hg => ⟨hs, hg (hc.set hm) hs⟩
    unfold wpOp
    rw [ho]
    dsimp only
    split
    · rename_i hw
      rw [if_pos hw] at h1
      exact .inl h1
    · rename_i hw
      rw [if_neg hw] at h1
      exact h1
  rw [hr] at hm
  have hm' := hm
  rw [List.mem_cons, List.mem_singleton] at hm
  rcases hm with rfl | rfl
  · exact key _ _ hi (by rw [hr]; exact hm') h
  · exact key _ _ hj (by rw [hr]; exact hm') h'
end
theorem GoS.turnW {P : Program} {ops : Array Oper} {Q' : Exit → Act → World → Prop} {md : Region.Mode} {S : Array Bool → World → Prop} {i : Nat} {o : Oper} {fuel : Nat} {listed : Array Bool} {a : Act} {w : World} (hr : Region.ready md ops listed = [i]) (ho : ops[i]? = some o) (hg : o.guard = none)
    (h : ∀ K : Act → World → Prop, (∀ a' w', S (listed.setIfInBounds i true) w' → GoS P md ops Q' S fuel (listed.setIfInBounds i true) a' w' → K a' w') → o.wp P a w K Q') : GoS P md ops Q' S (fuel + 1) listed a w :=
  GoS.turn hr ho fun K hK => by rw [if_pos (by simp [Region.wanted, hg])]; exact h K hK
theorem GoS.twoW {P : Program} {ops : Array Oper} {Q' : Exit → Act → World → Prop} {md : Region.Mode} {S : Array Bool → World → Prop} {i j : Nat} {oi oj : Oper} {fuel : Nat} {listed : Array Bool} {a : Act} {w : World} (hr : Region.ready md ops listed = [i, j]) (hi : ops[i]? = some oi) (hj : ops[j]? = some oj) (gi : oi.guard = none) (gj : oj.guard = none)
    (h : ∀ K : Act → World → Prop, (∀ a' w', S (listed.setIfInBounds i true) w' → GoS P md ops Q' S fuel (listed.setIfInBounds i true) a' w' → K a' w') → oi.wp P a w K Q')
    (h' : ∀ K : Act → World → Prop, (∀ a' w', S (listed.setIfInBounds j true) w' → GoS P md ops Q' S fuel (listed.setIfInBounds j true) a' w' → K a' w') → oj.wp P a w K Q') : GoS P md ops Q' S (fuel + 1) listed a w :=
  GoS.two hr hi hj (fun K hK => by rw [if_pos (by simp [Region.wanted, gi])]; exact h K hK) (fun K hK => by rw [if_pos (by simp [Region.wanted, gj])]; exact h' K hK)
/-- A fact of the world at hand. -/
theorem GoS.fact {P : Program} {ops : Array Oper} {Q' : Exit → Act → World → Prop} {md : Region.Mode} {S : Array Bool → World → Prop} {R : World → Prop} {fuel : Nat} {listed : Array Bool} {a : Act} {w : World} (h : R w) (k : R w → GoS P md ops Q' S fuel listed a w) : GoS P md ops Q' S fuel listed a w := k h
/-- A world, and four of its cells. -/
structure WC (cb p : Nat) (v0 v1 c0 c1 : Value) where
  w : World
  h0 : w.cell? ⟨cb, 0, none⟩ = some v0
  h1 : w.cell? ⟨cb, 1, none⟩ = some v1
  h2 : w.cell? ⟨p, 0, none⟩ = some c0
  h3 : w.cell? ⟨p, 1, none⟩ = some c1
/-- What holds in a region whose operation 13 is the first store into the block cb. -/
def SR (cb p : Nat) (v0 v1 c0 c1 : Value) (l : Array Bool) (w : World) : Prop := (l.getD 13 false = false → w.cell? ⟨cb, 0, none⟩ = some v0 ∧ w.cell? ⟨cb, 1, none⟩ = some v1) ∧ w.cell? ⟨p, 0, none⟩ = some c0 ∧ w.cell? ⟨p, 1, none⟩ = some c1
theorem SR.idle {cb p : Nat} {v0 v1 c0 c1 : Value} {i : Nat} (hi : i ≠ 13) (l : Array Bool) (w : World) : SR cb p v0 v1 c0 c1 (l.setIfInBounds i true) w ↔ SR cb p v0 v1 c0 c1 l w := by
  unfold SR
  rw [getD_set_ne false hi]
theorem SR.pre {cb b : Nat} {v0 v1 c0 c1 : Value} {md : Region.Mode} {ops : Array Oper} {i : Nat} {p : List Nat} (hp : pathB md ops (i :: p) = true) (hm : 13 ∈ p) (l : Array Bool) (w : World) (hc : ClosedL md ops l) (hi : l.getD i true = false) (h : SR cb b v0 v1 c0 c1 l w) : ∃ q : WC cb b v0 v1 c0 c1, w = q.w := by
  have h1 := h.1 (path_false hc p i hp (getD_both' hi) 13 hm)
  exact ⟨⟨w, h1.1, h1.2, h.2.1, h.2.2⟩, rfl⟩
end Go
namespace Go.Proofs.YtfdpnephjpcnbaaDoor
open Go.RowKit Go.Sub
/-- The row of frames that a call lays down. -/
def RowO (W0 w : World) (u : Int) (n : Nat) (v : Value) (fl : List Fm) : Prop := w.ownsRow W0.heap.size 63 5 v fl.length (fl.flatMap (fmC u n))
theorem infoFm : ∃ i, Tryd.prog.info? 63 = some i ∧ i.zero = some (.agg #[.int .i64 0, .int .i64 0, .bool false, .slice none 0 0, .slice none 0 0]) ∧ i.size = 5 ∧ i.bytes = 72 := by
  have h : (Tryd.prog.info? 63).map (fun i => (i.zero, i.size, i.bytes)) = some (some (.agg #[.int .i64 0, .int .i64 0, .bool false, .slice none 0 0, .slice none 0 0]), 5, 72) := by kernel_rfl
  cases hi : Tryd.prog.info? 63 with
  | none => rw [hi] at h; cases h
  | some i =>
    rw [hi] at h
    simp only [Option.map_some, Option.some.injEq, Prod.mk.injEq] at h
    exact ⟨i, rfl, h.1, h.2.1, h.2.2⟩
/-- append of one frame onto a row of frames. -/
theorem wpList_app_fm {ops : Array Oper} {rest : List Oper} {o : Oper} {a : Act} {w : World} {Q' : Exit → Act → World → Prop} (hgd : o.guard = none) (s x : Operand)
    (ho : o.op = .call { callee := .builtin .append, args := #[s, x], argTypes := #[32, 32] }) (W0 : World) (u : Int) (n : Nat) (v : Value) (fl : List Fm) (f : Fm) (g : Nat)
    (hs : a.eval s = v) (hx : a.eval x = .slice (some ⟨g, 0, none⟩) 1 1) (hown : RowO W0 w u n v fl) (c0 : w.cell? ⟨g, 0, none⟩ = some (.int .i64 u)) (c1 : w.cell? ⟨g, 1, none⟩ = some (.int .i64 f.c)) (c2 : w.cell? ⟨g, 2, none⟩ = some (.bool true)) (c3 : w.cell? ⟨g, 3, none⟩ = some (.slice (some ⟨f.a, 0, none⟩) n n)) (c4 : w.cell? ⟨g, 4, none⟩ = some (.slice (some ⟨f.b, 0, none⟩) n n)) (hlen : fl.length < 10000) (hQ : Q W0 w)
    (h : ∀ v' kk, RowO W0 (W0.jk kk) u n v' (fl ++ [f]) → w.grownBy (W0.jk kk) v.ownBlock → (v'.ownBlock = v.ownBlock ∨ v'.ownBlock = some w.heap.size) → wpList Tryd.prog ops Q' rest (a.put o.dst v') (W0.jk kk)) : wpList Tryd.prog ops Q' (o :: rest) a w := by
  obtain ⟨i, hi, hz, hs1, hb⟩ := infoFm
  obtain ⟨v', w', hr, h2, h3, _, h5⟩ := run_append_own_at (P := Tryd.prog) w W0.heap.size 32 o.type 63 i _ 5 72 Tryd.underlying32 hi hz hs1 hb rfl (by decide) v _ _ hown ⟨g, 0, none⟩ 1 1 (fmC u n f) rfl
    (fun j y hj => by
      rw [addr_add0, Nat.zero_add]
      match j, hj with
      | 0, hj => cases hj; exact c0
      | 1, hj => cases hj; exact c1
      | 2, hj => cases hj; exact c2
      | 3, hj => cases hj; exact c3
      | 4, hj => cases hj; exact c4)
    (fun y hy => by
      simp only [fmC, List.mem_cons, List.mem_nil_iff, or_false] at hy
      rcases hy with rfl | rfl | rfl | rfl | rfl <;> rfl) (by unfold maxLen; omega) (by omega) hQ.below.size
  refine wpList_append_run hgd s x ho hs hx hr ?_
  obtain ⟨kk, rfl⟩ := grown_Q hQ h3 (fun g hg => (hown.lt g hg).1)
  refine h v' kk ?_ h3 h5
  unfold RowO
  rw [List.length_append, List.flatMap_append, List.flatMap_singleton]
  exact h2
/-- Open on a copy. -/
theorem open_cp (u F : Int) (n : Nat) (mark net : Int) (k : Nat) (f : Fm) (g M : Nat) (w : World) (hM : 8 + 3 * n + 8 = M) (h : HB w g (cellsN .u8 (cpF u F n mark k f)) 5) (hx : f.xs.length = n) (hq : f.qs.length = n) (n1 : n ≤ 8) (f0 : 0 ≤ F) (f1 : F < 65536) (hmn : (mark = 160 ∧ net = 0) ∨ (mark = 161 ∧ net = 1)) :
    Calls Tryd.prog 26 #[.slice (some ⟨g, 0, none⟩) M M] w (RetCopy F (seqK k) net (encL u f.c f.xs f.qs) w) := by
  subst hM
  have hl : (encL u f.c f.xs f.qs).length = 8 + 3 * n := by rw [encL_len _ _ _ _ (by omega), hx]
  exact open_c g 0 (8 + 3 * n) (8 + 3 * n + 8) (encL u f.c f.xs f.qs) F (seqK k) mark net w (rdn_of_hb h _ (by unfold cpF; rw [List.length_append, hl]; rfl) _ (Nat.le_refl _)) hl (by omega) (by omega) f0 f1 (seq_in k).1 (seq_in k).2 hmn
theorem rdn_set {w : World} {g b n c : Nat} {l : List Int} {A : Option Addr} {m k : Nat} {y : Value} {t : TypeId} (h : RdN w (some ⟨g, 0, none⟩) n c .u8 l) (n0 : 1 ≤ n) (hb : HB w b #[.slice A m k] t) : RdN (w.setCell ⟨b, 0, none⟩ y) (some ⟨g, 0, none⟩) n c .u8 l := by
  have h' := h
  obtain ⟨hl, hcap, hat, h0⟩ := h
  obtain ⟨g', o', e, hg, hc⟩ := hat n0
  cases e
  have hne : b ≠ g := by
    rintro rfl
    have h1 := hc 0 _ (List.getElem?_eq_getElem (by rw [hl]; omega))
    rw [hb.cell] at h1
    simp at h1
  refine ⟨hl, hcap, fun hn => ⟨g, 0, rfl, by simpa using hg, fun i v hi => ?_⟩, h0⟩
  rw [World.cell?_setCell_far _ _ _ _ hne]
  exact hc i v hi
theorem SrcAt.set {w : World} {g b : Nat} {o t s : Int} {cs : Array Value} {y : Value} (h : SrcAt w g o t s) (hb : HB w b cs 81) : SrcAt (w.setCell ⟨b, 0, none⟩ y) g o t s := by
  obtain ⟨cur, h, h0⟩ := h
  exact ⟨cur, h.other (hb_ne_type hb h (by decide)), h0⟩
theorem FmAt.set {w : World} {n b : Nat} {f : Fm} {cs : Array Value} {y : Value} (h : FmAt w n f) (hb : HB w b cs 81) : FmAt (w.setCell ⟨b, 0, none⟩ y) n f :=
  ⟨h.1.other (hb_ne_type hb h.1 (by decide)), h.2.1.other (hb_ne_type hb h.2.1 (by decide)), h.2.2⟩
theorem RowO.set {W0 w : World} {u : Int} {n b : Nat} {v y : Value} {fl : List Fm} {cs : Array Value} (h : RowO W0 w u n v fl) (hb : HB w b cs 81) : RowO W0 (w.setCell ⟨b, 0, none⟩ y) u n v fl := by
  refine World.ownsRow.kept h (grownBy_setCell w b 0 y) ?_
  have := hb_ne_own hb h (by decide)
  cases e : v.ownBlock with
  | none => exact .inl rfl
  | some g => exact .inr fun e3 => this (by rw [e]; exact e3.symm)
theorem FmAt.grown {W0 w w' : World} {u : Int} {n : Nat} {f : Fm} {v : Value} {fl : List Fm} (h : FmAt w n f) (ho : RowO W0 w u n v fl) (hg : w.grownBy w' v.ownBlock) : FmAt w' n f :=
  ⟨h.1.grown hg (hb_ne_own h.1 ho (by decide)), h.2.1.grown hg (hb_ne_own h.2.1 ho (by decide)), h.2.2⟩
theorem SrcAt.grown {W0 w w' : World} {u : Int} {n g : Nat} {o t s : Int} {v : Value} {fl : List Fm} (h : SrcAt w g o t s) (ho : RowO W0 w u n v fl) (hg : w.grownBy w' v.ownBlock) : SrcAt w' g o t s := by
  obtain ⟨cur, h, h0⟩ := h
  exact ⟨cur, h.grown hg (hb_ne_own h ho (by decide)), h0⟩
/-- What is known of what has been reached. -/
def RC (g T : Nat) (w : World) : Prop := g < w.heap.size ∧ w.cell? ⟨g, T, none⟩ = some (.bool true)
theorem RC.q {g T : Nat} {w w' : World} (h : RC g T w) (hq : Q w w') : RC g T w' := ⟨Nat.lt_of_lt_of_le h.1 hq.below.size, (hq.below.cell (p := ⟨g, T, none⟩) h.1).trans h.2⟩
theorem RC.set {g T b : Nat} {w : World} {A : Option Addr} {m c : Nat} {y : Value} {t : TypeId} (h : RC g T w) (hb : HB w b #[.slice A m c] t) : RC g T (w.setCell ⟨b, 0, none⟩ y) := by
  have hne : b ≠ g := by
    rintro rfl
    have h1 := h.2
    rw [hb.cell] at h1
    match T with
    | 0 => simp at h1
    | T + 1 => simp at h1
  exact ⟨by simpa using h.1, by rw [World.cell?_setCell_far _ _ _ _ hne]; exact h.2⟩
theorem RC.grown {g T : Nat} {w w' : World} {row : Option Nat} (h : RC g T w) (hg : w.grownBy w' row) (hr : row ≠ some g) : RC g T w' :=
  ⟨Nat.lt_of_lt_of_le h.1 hg.size, (World.cell?_of_block (a := ⟨g, T, none⟩) (hg.block g h.1 (fun e => hr e.symm))).trans h.2⟩
theorem RC.ne {g T : Nat} {w w' : World} {row : Option Nat} {v v' : Value} (h : RC g T w) (_ : w.grownBy w' row) (hne : v.ownBlock ≠ some g) (h3 : v'.ownBlock = v.ownBlock ∨ v'.ownBlock = some w.heap.size) : v'.ownBlock ≠ some g := by
  rcases h3 with h3 | h3
  · rw [h3]
    exact hne
  · rw [h3]
    intro e
    have h1 := h.1
    have h2 := Option.some.inj e
    omega
/-- A row of frames that is whole. -/
theorem frAt_own {W0 w : World} {u : Int} {n : Nat} {v : Value} {fl : List Fm} (h : RowO W0 w u n v fl) (hf : ∀ f ∈ fl, FmAt w n f) (hn : fl ≠ []) : ∃ g c, v = .slice (some ⟨g, 0, none⟩) fl.length c ∧ FrAt w g u n fl := by
  obtain ⟨A, c, rfl, hr⟩ := rdv_of_own h (fmC_len u n fl)
  have hl : 0 < fl.length := List.length_pos_iff.2 hn
  have hown := h.2
  rcases hown with ⟨e, _⟩ | ⟨g, cap, cur, e, _⟩
  · injection e with _ _ e
    have := hr.2.1
    omega
  · cases e
    obtain ⟨g', o, e, hg, hc⟩ := hr.2.2.1 hl
    cases e
    exact ⟨_, _, rfl, hg, fun i v hi => by have := hc i v hi; rwa [Nat.zero_add] at this, hf⟩
/-- Twelve frames of a unit, as they were. -/
def RetOut (u : Int) (n : Nat) (D : List (Int × List Int × List Int)) (w : World) (e : Ending) (w' : World) : Prop := ∃ g cap l, e = .returned (.slice (some ⟨g, 0, none⟩) 12 cap) ∧ Q w w' ∧ FrAt w' g u n l ∧ l.map Fm.dat = D
theorem row_slice {W0 w : World} {M : Nat} {v : Value} {gs : List Nat} (h : RowB W0 w M v gs) : ∃ A m c, v = .slice A m c := by
  rcases h.2 with ⟨rfl, _⟩ | ⟨g1, _, cur, rfl, _⟩
  · exact ⟨_, _, _, rfl⟩
  · exact ⟨_, _, _, rfl⟩
theorem cellz {w w' : World} {b : Nat} {x v : Value} {t : TypeId} (hz : HB w b #[x] t) (hlt : ∀ g, v.ownBlock = some g → g < b) (h2 : w.grownBy w' v.ownBlock) : w'.cell? ⟨b, 0, none⟩ = some x :=
  (hz.grown h2 (fun e => Nat.lt_irrefl _ (hlt _ e.symm))).cell 0
/-- append of one copy onto a row of copies. -/
theorem oper_app_cp {o : Oper} {a : Act} {w : World} {K : Act → World → Prop} {Q' : Exit → Act → World → Prop} (hgd : o.guard = none) (s x : Operand)
    (ho : o.op = .call { callee := .builtin .append, args := #[s, x], argTypes := #[71, 71] }) (W0 : World) (M : Nat) (v : Value) (gs : List Nat) (g g1 : Nat)
    (hs : a.eval s = v) (hx : a.eval x = .slice (some ⟨g1, 0, none⟩) 1 1) (hown : RowB W0 w M v gs) (hg1 : w.cell? ⟨g1, 0, none⟩ = some (.slice (some ⟨g, 0, none⟩) M M)) (hlen : gs.length < 100000) (hQ : Q W0 w)
    (h : ∀ v' kk, RowB W0 (W0.jk kk) M v' (gs ++ [g]) → w.grownBy (W0.jk kk) v.ownBlock → Grown W0.heap.size v v' w (W0.jk kk) → K (a.put o.dst v') (W0.jk kk)) : Oper.wp Tryd.prog o a w K Q' := by
  have h' := step_app_cp (ops := #[]) (Q' := Q') (E := False) hgd s x ho W0 M v gs g g1 hs hx hown hg1 hlen hQ h
  rwa [if_pos (by simp [Region.wanted, hgd])] at h'
/-- What holds in the region that lays two copies down. -/
structure AR (u F : Int) (n : Nat) (l : List Fm) (W0 : World) (M p g0 g1 : Nat) (v0 v1 : Value) (b0 b1 : List Int) (gs0 gs1 : List Nat) (va : Value) (ga : List Nat) (vb : Value) (gb : List Nat) (w : World) : Prop where
  q : Q W0 w
  c : HB w W0.heap.size #[v0, v1] 72
  p : HB w p #[Value.slice (some ⟨g0, 0, none⟩) M M, Value.slice (some ⟨g1, 0, none⟩) M M] 76
  a : RowB W0 w M va ga
  b : RowB W0 w M vb gb
  ap : Apart va vb
  x : HB w g0 (cellsN .u8 b0) 5
  y : HB w g1 (cellsN .u8 b1) 5
  d : Cop u F n 160 l w gs0
  e : Cop u F n 161 l w gs1
theorem AR.step {u F : Int} {n : Nat} {l : List Fm} {W0 : World} {M p g0 g1 : Nat} {v0 v1 : Value} {b0 b1 : List Int} {gs0 gs1 : List Nat} {va : Value} {ga : List Nat} {vb : Value} {gb : List Nat} {w w' : World} (h : AR u F n l W0 M p g0 g1 v0 v1 b0 b1 gs0 gs1 va ga vb gb w) (hq : Q w w') : AR u F n l W0 M p g0 g1 v0 v1 b0 b1 gs0 gs1 va ga vb gb w' :=
  ⟨h.q.trans hq, h.c.q hq, h.p.q hq, ownsRow_q h.a hq, ownsRow_q h.b hq, h.ap, h.x.q hq, h.y.q hq, fun i f' g' h1 h2 => (h.d i f' g' h1 h2).q hq, fun i f' g' h1 h2 => (h.e i f' g' h1 h2).q hq⟩
theorem AR.app0 {u F : Int} {n : Nat} {l : List Fm} {W0 : World} {M p g0 g1 : Nat} {v0 v1 : Value} {b0 b1 : List Int} {gs0 gs1 : List Nat} {va va' : Value} {ga ga' : List Nat} {vb : Value} {gb : List Nat} {w w' : World} (h : AR u F n l W0 M p g0 g1 v0 v1 b0 b1 gs0 gs1 va ga vb gb w) (hq : Q W0 w') (h1 : RowB W0 w' M va' ga') (h2 : w.grownBy w' va.ownBlock) (h3 : Grown W0.heap.size va va' w w') : AR u F n l W0 M p g0 g1 v0 v1 b0 b1 gs0 gs1 va' ga' vb gb w' :=
  ⟨hq, h.c.grown h2 (hb_ne_own h.c h.a (by decide)), h.p.grown h2 (hb_ne_own h.p h.a (by decide)), h1, (h3 _ _ _ _ _ h.b h.ap).1, (h3 _ _ _ _ _ h.b h.ap).2, h.x.grown h2 (hb_ne_own h.x h.a (by decide)), h.y.grown h2 (hb_ne_own h.y h.a (by decide)),
    fun i f' g' e1 e2 => (h.d i f' g' e1 e2).grown h2 (hb_ne_own (h.d i f' g' e1 e2) h.a (by decide)), fun i f' g' e1 e2 => (h.e i f' g' e1 e2).grown h2 (hb_ne_own (h.e i f' g' e1 e2) h.a (by decide))⟩
theorem AR.app1 {u F : Int} {n : Nat} {l : List Fm} {W0 : World} {M p g0 g1 : Nat} {v0 v1 : Value} {b0 b1 : List Int} {gs0 gs1 : List Nat} {va : Value} {ga : List Nat} {vb vb' : Value} {gb gb' : List Nat} {w w' : World} (h : AR u F n l W0 M p g0 g1 v0 v1 b0 b1 gs0 gs1 va ga vb gb w) (hq : Q W0 w') (h1 : RowB W0 w' M vb' gb') (h2 : w.grownBy w' vb.ownBlock) (h3 : Grown W0.heap.size vb vb' w w') : AR u F n l W0 M p g0 g1 v0 v1 b0 b1 gs0 gs1 va ga vb' gb' w' :=
  ⟨hq, h.c.grown h2 (hb_ne_own h.c h.b (by decide)), h.p.grown h2 (hb_ne_own h.p h.b (by decide)), (h3 _ _ _ _ _ h.a (fun g e1 e2 => h.ap g e2 e1)).1, h1, fun g e1 e2 => (h3 _ _ _ _ _ h.a (fun g e1 e2 => h.ap g e2 e1)).2 g e2 e1, h.x.grown h2 (hb_ne_own h.x h.b (by decide)), h.y.grown h2 (hb_ne_own h.y h.b (by decide)),
    fun i f' g' e1 e2 => (h.d i f' g' e1 e2).grown h2 (hb_ne_own (h.d i f' g' e1 e2) h.b (by decide)), fun i f' g' e1 e2 => (h.e i f' g' e1 e2).grown h2 (hb_ne_own (h.e i f' g' e1 e2) h.b (by decide))⟩
theorem AR.sr {u F : Int} {n : Nat} {l : List Fm} {W0 : World} {M p g0 g1 : Nat} {v0 v1 : Value} {b0 b1 : List Int} {gs0 gs1 : List Nat} {va : Value} {ga : List Nat} {vb : Value} {gb : List Nat} {w : World} (h : AR u F n l W0 M p g0 g1 v0 v1 b0 b1 gs0 gs1 va ga vb gb w) (L : Array Bool) : SR W0.heap.size p v0 v1 (.slice (some ⟨g0, 0, none⟩) M M) (.slice (some ⟨g1, 0, none⟩) M M) L w :=
  ⟨fun _ => ⟨h.c.cell 0, h.c.cell 1⟩, h.p.cell 0, h.p.cell 1⟩
theorem AR.sr' {u F : Int} {n : Nat} {l : List Fm} {W0 : World} {M p g0 g1 : Nat} {v0 v1 : Value} {b0 b1 : List Int} {gs0 gs1 : List Nat} {va : Value} {ga : List Nat} {vb : Value} {gb : List Nat} {w : World} (h : AR u F n l W0 M p g0 g1 v0 v1 b0 b1 gs0 gs1 va ga vb gb w) (L : Array Bool) (hL : L.getD 13 false = true) : SR W0.heap.size p v0 v1 (.slice (some ⟨g0, 0, none⟩) M M) (.slice (some ⟨g1, 0, none⟩) M M) L (w.setCell ⟨W0.heap.size, 0, none⟩ va) ∧
    SR W0.heap.size p v0 v1 (.slice (some ⟨g0, 0, none⟩) M M) (.slice (some ⟨g1, 0, none⟩) M M) L ((w.setCell ⟨W0.heap.size, 0, none⟩ va).setCell ⟨W0.heap.size, 1, none⟩ vb) := by
  have hne := hb_ne_type h.c h.p (by decide)
  have h1 := h.p.other (i := 0) (v := va) hne
  have h2 := h1.other (i := 1) (v := vb) hne
  exact ⟨⟨fun h0 => (by rw [hL] at h0; cases h0), h1.cell 0, h1.cell 1⟩, ⟨fun h0 => (by rw [hL] at h0; cases h0), h2.cell 0, h2.cell 1⟩⟩
theorem row_set {W0 w : World} {M b i : Nat} {v x : Value} {gs : List Nat} {cs : Array Value} (h : RowB W0 w M v gs) (hc : HB w b cs 72) : RowB W0 (w.setCell ⟨b, i, none⟩ x) M v gs := by
  refine World.ownsRow.kept h (grownBy_setCell w b i x) ?_
  have := hb_ne_own hc h (by decide)
  cases e : v.ownBlock with
  | none => exact .inl rfl
  | some g => exact .inr fun e3 => this (by rw [e]; exact e3.symm)
/-- Behind both stores. -/
theorem AR.stored {u F : Int} {n : Nat} {l : List Fm} {W0 : World} {M p g0 g1 : Nat} {v0 v1 : Value} {b0 b1 : List Int} {gs0 gs1 : List Nat} {va : Value} {ga : List Nat} {vb : Value} {gb : List Nat} {w : World} (h : AR u F n l W0 M p g0 g1 v0 v1 b0 b1 gs0 gs1 va ga vb gb w) (w2 : World) (e : w2 = (w.setCell ⟨W0.heap.size, 0, none⟩ va).setCell ⟨W0.heap.size, 1, none⟩ vb) :
    Q W0 w2 ∧ HB w2 W0.heap.size #[va, vb] 72 ∧ RowB W0 w2 M va ga ∧ RowB W0 w2 M vb gb ∧ Apart va vb ∧ HB w2 g0 (cellsN .u8 b0) 5 ∧ HB w2 g1 (cellsN .u8 b1) 5 ∧ Cop u F n 160 l w2 gs0 ∧ Cop u F n 161 l w2 gs1 := by
  subst e
  have k : ∀ {g : Nat} {cs : Array Value}, HB w g cs 5 → HB ((w.setCell ⟨W0.heap.size, 0, none⟩ va).setCell ⟨W0.heap.size, 1, none⟩ vb) g cs 5 := fun {g cs} hg => by
    have hne := hb_ne_type h.c hg (by decide)
    exact (hg.other hne).other hne
  have hc1 := h.c.set 0 va
  exact ⟨(h.q.setCell (Nat.le_refl _) _).setCell (Nat.le_refl _) _, hc1.set 1 vb, row_set (row_set h.a h.c) hc1, row_set (row_set h.b h.c) hc1, h.ap, k h.x, k h.y, fun i f' g' e1 e2 => k (h.d i f' g' e1 e2), fun i f' g' e1 e2 => k (h.e i f' g' e1 e2)⟩
theorem Cop.snoc {u F : Int} {n : Nat} {mark : Int} {l : List Fm} {w : World} {gs : List Nat} {k g : Nat} {f : Fm} (h : Cop u F n mark l w gs) (hk : gs.length = k) (hf : l[k]? = some f) (hg : HB w g (cellsN .u8 (cpF u F n mark k f)) 5) : Cop u F n mark l w (gs ++ [g]) := by
  intro i f' g' h1 h2
  rcases Nat.lt_trichotomy i gs.length with hi | hi | hi
  · rw [List.getElem?_append_left hi] at h2
    exact h i f' g' h1 h2
  · subst hk
    subst hi
    rw [List.getElem?_append_right (Nat.le_refl _), Nat.sub_self] at h2
    rw [hf] at h1
    cases h1
    cases h2
    exact hg
  · rw [List.getElem?_eq_none (by rw [List.length_append, List.length_singleton]; omega)] at h2
    cases h2
attribute [local go_sem ↓] Go.wp_at_zero Go.wp_at_succ
set_option maxRecDepth 100000 in
set_option maxHeartbeats 8000000 in
theorem arrived_c (x0 x1 x2 x3 lost u : Int) (g cap n : Nat) (l : List Fm) (w : World) (h : FrAt w g u n l) (hl : l.length = 12) (n0 : 1 ≤ n) (n1 : n ≤ 8) (u0 : 0 ≤ u) (u1 : u ≤ 999)
    (hc : ∀ f ∈ l, 0 ≤ f.c ∧ f.c ≤ 599) (bx : ∀ f ∈ l, InB (-16383) 16383 f.xs) (bq : ∀ f ∈ l, InB 0 255 f.qs) :
    Calls Tryd.prog 8 #[.agg #[Value.int .i64 x0, Value.int .i64 x1, Value.int .i64 x2, Value.int .i64 x3], .slice (some ⟨g, 0, none⟩) 12 cap, .int .i64 lost] w (RetOut u n (l.map Fm.dat) w) := by
  obtain ⟨N, hN⟩ : ∃ N : Nat, 3 + x0 % 12 = (N : Int) := ⟨(3 + x0 % 12).toNat, by omega⟩
  have n3 : 3 ≤ N := by omega
  have n14 : N ≤ 14 := by omega
  obtain ⟨F, hF⟩ : ∃ F : Nat, x1 % (N : Int) = (F : Int) := ⟨(x1 % (N : Int)).toNat, by have := Int.emod_nonneg x1 (show (N : Int) ≠ 0 by omega); omega⟩
  have hFN : F < N := by have := Int.emod_lt_of_pos x1 (show (0 : Int) < N by omega); omega
  obtain ⟨e0, he0⟩ : ∃ e0, x0 % ((N : Int) - 1) = e0 := ⟨_, rfl⟩
  have he1 : 0 ≤ e0 := by rw [← he0]; exact Int.emod_nonneg x0 (by omega)
  have he2 : e0 < (N : Int) - 1 := by rw [← he0]; exact Int.emod_lt_of_pos x0 (by omega)
  have HE0 := Lib.hid he0
  clear he0
  obtain ⟨TO, hTO⟩ : ∃ TO : Nat, ((F : Int) + 1 + e0) % (N : Int) = (TO : Int) := ⟨(((F : Int) + 1 + e0) % (N : Int)).toNat, by have := Int.emod_nonneg ((F : Int) + 1 + e0) (show (N : Int) ≠ 0 by omega); omega⟩
  have hTN : TO < N := by have := Int.emod_lt_of_pos ((F : Int) + 1 + e0) (show (0 : Int) < N by omega); omega
  have hT2 : ((F : Int) + 1 + e0).tmod (N : Int) = (TO : Int) := by rw [Int.tmod_eq_emod_of_nonneg (by omega), hTO]
  have HTO := Lib.hid hTO
  have HT2 := Lib.hid hT2
  clear hTO hT2
  have FC := Lib.hid fun (w' : World) => fine_c x0 x1 x2 x3 N F w' hN hF
  clear hN hF
  have H := Lib.hid h
  have HL := Lib.hid hl
  have HC := Lib.hid hc
  have BX := Lib.hid bx
  have BQ := Lib.hid bq
  have hTO' := HTO.out
  have hT2' := HT2.out
  clear h hl hc bx bq
  go_enter Tryd.func8, Tryd.ntmps8
  go_wp2_with (first
    | (go_at_call 22; (with_reducible refine (FC.out _).mono ?_); rintro e w' ⟨ra, rb, rfl, ⟨kf, rfl⟩, hra, hrb⟩)
    | (go_at_call 5; (with_reducible refine (tpwithin_any _ _ _ (by omega) (by omega)).mono ?_); rintro e w' ⟨rfl, rfl⟩; rw [HE0.out])
    | fail)
  clear FC hTO' hT2'
  obtain ⟨W0, eW0⟩ : ∃ W0, ((w.alloc (.cells #[Value.int .i64 x0, Value.int .i64 x1, Value.int .i64 x2, Value.int .i64 x3] 23)).jk kf).alloc (.cells #[Value.slice (some ⟨ra, 0, none⟩) N N, Value.slice (some ⟨rb, 0, none⟩) N N] 68) = W0 := ⟨_, rfl⟩
  obtain ⟨gb, egb⟩ : ∃ gb, w.heap.size + 1 + kf.os.size = gb := ⟨_, rfl⟩
  have HQ0 : Hid (Q w W0) := Lib.hid (by rw [← eW0]; repeat' (first | exact Q.refl _ | refine Q.alloc ?_ _ | refine Q.jk ?_ _ | refine Q.drew ?_))
  have HRA : Hid (HB W0 ra (cellsB (cutL x2 N)) 4) := Lib.hid (by rw [← eW0]; exact hra.alloc _)
  have HRB : Hid (HB W0 rb (cellsB (cutL x3 N)) 4) := Lib.hid (by rw [← eW0]; exact hrb.alloc _)
  have HGB : Hid (HB W0 gb #[Value.slice (some ⟨ra, 0, none⟩) N N, Value.slice (some ⟨rb, 0, none⟩) N N] 68) := Lib.hid (by rw [← eW0]; exact HB.new _ _ _ _ (by rw [← egb, World.size_jk, World.size_alloc]))
  have e1 : gb + 1 = W0.heap.size := by rw [← eW0, World.size_alloc, World.size_jk, World.size_alloc, egb]
  rw [egb, e1, eW0]
  clear hra hrb eW0 egb
  obtain ⟨M, hM⟩ : ∃ M, 8 + 3 * n + 8 = M := ⟨_, rfl⟩
  go_loopw [12, 13] (fun s12 s13 wr => ∃ (k : Nat) (v0 v1 : Value) (gs0 gs1 : List Nat), s13 = .int .i64 k ∧ s12 = .int .i64 (seqK k) ∧ k ≤ 12 ∧ Hid (gs0.length = k) ∧ Hid (gs1.length = k) ∧ Hid (Q W0 wr) ∧ Hid (HB wr W0.heap.size #[v0, v1] 72) ∧ Hid (RowB W0 wr M v0 gs0) ∧ Hid (RowB W0 wr M v1 gs1) ∧ Hid (Apart v0 v1) ∧ Hid (Cop u F n 160 l wr gs0) ∧ Hid (Cop u F n 161 l wr gs1)) (fun _ i _ => 12 - (intOf i).toNat)
  case atStart =>
    refine ⟨0, .slice none 0 0, .slice none 0 0, [], [], rfl, rfl, by omega, Lib.hid rfl, Lib.hid rfl, Lib.hid (by repeat' (first | exact Q.refl _ | refine Q.alloc ?_ _ | refine Q.jk ?_ _ | refine Q.drew ?_)), Lib.hid (HB.new _ _ _ _ rfl), Lib.hid (World.ownsRow_nil _ _ _ _), Lib.hid (World.ownsRow_nil _ _ _ _), Lib.hid (Apart.nil _), Lib.hid ?_, Lib.hid ?_⟩
    · intro i f g' _ h2; cases h2
    · intro i f g' _ h2; cases h2
  case round =>
    obtain ⟨k, v0, v1, gs0, gs1, rfl, rfl, hk, L0, L1, HQ, HCB, HR0, HR1, HAP, HC0, HC1⟩ := hrel
    by_cases hlt : k < 12
    · obtain ⟨f, hf⟩ : ∃ f, l[k]? = some f := ⟨_, List.getElem?_eq_getElem (by rw [HL.out]; exact hlt)⟩
      have hfm := List.mem_of_getElem? hf
      have HW := Lib.hid (H.out.q (HQ0.out.trans HQ.out))
      obtain ⟨f0, f1, f2, f3, f4⟩ := HW.out.cells k f hf
      have HFA := Lib.hid (HW.out.2.2 f hfm)
      have d0 := (HC.out f hfm).1
      have d1 := (HC.out f hfm).2
      have BXF := Lib.hid (BX.out f hfm)
      have BQF := Lib.hid (BQ.out f hfm)
      have HF := Lib.hid hf
      have og : Old g wr := ⟨HW.out.1⟩
      have k0 : (0 : Int) ≤ (k : Int) := by omega
      have k1 : (k : Int) < 12 := by omega
      have hsq := seq_in k
      have hsn := seq_next k
      obtain ⟨sq, esq⟩ : ∃ sq, seqK k = sq := ⟨_, rfl⟩
      obtain ⟨sn, esn⟩ : ∃ sn, seqK (k + 1) = sn := ⟨_, rfl⟩
      rw [esq] at hsq hsn
      rw [esn] at hsn
      rw [esq]
      obtain ⟨hs0, hs1⟩ := hsq
      have ESQ := Lib.hid esq
      have ESN := Lib.hid esn
      have HSN := Lib.hid hsn
      clear esq esn hsn hf hfm
      obtain ⟨wo, rfl⟩ : ∃ wo : World, wo = wr := ⟨_, rfl⟩
      have hlx := HFA.out.2.2.1
      have hlq := HFA.out.2.2.2
      go_upto_region 13 with (first
        | (go_at_call 23; (with_reducible refine (enc_c u f.c _ n n _ n f.xs f.qs _ (HFA.out.rx.q (by repeat' (first | exact Q.refl _ | refine Q.alloc ?_ _ | refine Q.jk ?_ _ | refine Q.drew ?_))) (HFA.out.rq.q (by repeat' (first | exact Q.refl _ | refine Q.alloc ?_ _ | refine Q.jk ?_ _ | refine Q.drew ?_))) u0 u1 d0 d1 n0 n1 BXF.out BQF.out).mono ?_); rintro e w' ⟨ge, me, rfl, ⟨ke, rfl⟩, hre⟩; obtain rfl : me = 8 + 3 * n := (by have := hre.len; rw [encL_len _ _ _ _ (by omega)] at this; omega))
        | (go_at_call 24; (with_reducible refine (send_c _ _ _ (encL u f.c f.xs f.qs) (F : Int) sq _ (hre.q (by repeat' (first | exact Q.refl _ | refine Q.alloc ?_ _ | refine Q.jk ?_ _ | refine Q.drew ?_))) (by omega) (by omega) (by omega) (by omega) hs0 hs1).mono ?_); rintro e w' ⟨g0, g1, m1, rfl, ⟨ks, rfl⟩, hm0, hm1, hg0, hg1⟩; obtain rfl : M = m1 := (by rw [← hm0, ← hM, List.length_append, encL_len _ _ _ _ (by omega)]; simp only [trl, List.length_cons, List.length_nil]; omega); rw [HSN.out])
        | fail)
      obtain ⟨W1, eW1⟩ : ∃ W1, ((wo.jk ke).jk ks).alloc (.cells #[Value.slice (some ⟨g0, 0, none⟩) M M, Value.slice (some ⟨g1, 0, none⟩) M M] 76) = W1 := ⟨_, rfl⟩
      obtain ⟨p, ep⟩ : ∃ p, wo.heap.size + ke.os.size + ks.os.size = p := ⟨_, rfl⟩
      have HQW : Hid (Q wo W1) := Lib.hid (by rw [← eW1]; repeat' (first | exact Q.refl _ | refine Q.alloc ?_ _ | refine Q.jk ?_ _ | refine Q.drew ?_))
      have HG0 : Hid (HB W1 g0 (cellsN .u8 (encL u f.c f.xs f.qs ++ trl (F : Int) sq 160 (8 + 3 * n))) 5) := Lib.hid (by rw [← eW1]; exact hg0.alloc _)
      have HG1 : Hid (HB W1 g1 (cellsN .u8 (encL u f.c f.xs f.qs ++ trl (F : Int) sq 161 (8 + 3 * n))) 5) := Lib.hid (by rw [← eW1]; exact hg1.alloc _)
      have HP : Hid (HB W1 p #[Value.slice (some ⟨g0, 0, none⟩) M M, Value.slice (some ⟨g1, 0, none⟩) M M] 76) := Lib.hid (by rw [← eW1]; exact HB.new _ _ _ _ (by rw [← ep, World.size_jk, World.size_jk]))
      rw [ep, eW1]
      clear eW1 ep hg0 hg1 hre hm0 hm1 f0 f1 f2 f3 f4 og hlx hlq
      have HQ1 := Lib.hid (HQ.out.trans HQW.out)
      have HB1 := Lib.hid (HCB.out.q HQW.out)
      have HS0 : Hid (RowB W0 W1 M v0 gs0) := Lib.hid (ownsRow_q HR0.out HQW.out)
      have HS1 : Hid (RowB W0 W1 M v1 gs1) := Lib.hid (ownsRow_q HR1.out HQW.out)
      have HD0 : Hid (Cop u F n 160 l W1 gs0) := Lib.hid (fun i f' g' h1 h2 => (HC0.out i f' g' h1 h2).q HQW.out)
      have HD1 : Hid (Cop u F n 161 l W1 gs1) := Lib.hid (fun i f' g' h1 h2 => (HC1.out i f' g' h1 h2).q HQW.out)
      clear HQ HCB HR0 HR1 HC0 HC1 HW HFA HQW
      have hcb : ∀ i, W1.cell? ⟨W0.heap.size, i, none⟩ = #[v0, v1][i]? := fun i => HB1.out.cell i
      have hpp : ∀ i, W1.cell? ⟨p, i, none⟩ = #[Value.slice (some ⟨g0, 0, none⟩) M M, Value.slice (some ⟨g1, 0, none⟩) M M][i]? := fun i => HP.out.cell i
      have q0 : ∀ q : WC W0.heap.size p v0 v1 (.slice (some ⟨g0, 0, none⟩) M M) (.slice (some ⟨g1, 0, none⟩) M M), q.w.cell? ⟨W0.heap.size, 0, none⟩ = some v0 := fun q => q.h0
      have q1 : ∀ q : WC W0.heap.size p v0 v1 (.slice (some ⟨g0, 0, none⟩) M M) (.slice (some ⟨g1, 0, none⟩) M M), q.w.cell? ⟨W0.heap.size, 1, none⟩ = some v1 := fun q => q.h1
      have q2 : ∀ q : WC W0.heap.size p v0 v1 (.slice (some ⟨g0, 0, none⟩) M M) (.slice (some ⟨g1, 0, none⟩) M M), q.w.cell? ⟨p, 0, none⟩ = some (.slice (some ⟨g0, 0, none⟩) M M) := fun q => q.h2
      have q3 : ∀ q : WC W0.heap.size p v0 v1 (.slice (some ⟨g0, 0, none⟩) M M) (.slice (some ⟨g1, 0, none⟩) M M), q.w.cell? ⟨p, 1, none⟩ = some (.slice (some ⟨g1, 0, none⟩) M M) := fun q => q.h3
      refine wp_region_S 16 rfl (SR W0.heap.size p v0 v1 (.slice (some ⟨g0, 0, none⟩) M M) (.slice (some ⟨g1, 0, none⟩) M M)) (by kernel_rfl) ⟨fun _ => ⟨hcb 0, hcb 1⟩, hpp 0, hpp 1⟩ ?_
      refine GoS.take (i := 0) (fun _ => True) (fun _ _ _ _ _ => trivial) rfl rfl (by kernel_rfl) (by kernel_rfl) (by kernel_rfl) (fun _ _ _ _ h => h) (SR.idle (by decide)) ?_
      simp only [List.getElem_toArray, List.getElem_cons_zero]
      go_big_quiet_step (fail)
      refine wpQuiet_nil ?_
      refine GoS.take (i := 1) (fun w' => ∃ q : WC W0.heap.size p v0 v1 (.slice (some ⟨g0, 0, none⟩) M M) (.slice (some ⟨g1, 0, none⟩) M M), w' = q.w) (SR.pre (p := [5, 11, 13]) (by kernel_rfl) (by decide)) rfl rfl (by kernel_rfl) (by kernel_rfl) (by kernel_rfl) (fun _ _ _ _ h => h) (SR.idle (by decide)) ?_
      simp only [List.getElem_toArray, List.getElem_cons_zero, List.getElem_cons_succ]
      go_big_quiet_step (rfl)
      refine wpQuiet_nil ?_
      refine GoS.take (i := 2) (fun _ => True) (fun _ _ _ _ _ => trivial) rfl rfl (by kernel_rfl) (by kernel_rfl) (by kernel_rfl) (fun _ _ _ _ h => h) (SR.idle (by decide)) ?_
      simp only [List.getElem_toArray, List.getElem_cons_zero, List.getElem_cons_succ]
      go_big_quiet_step (fail)
      refine wpQuiet_nil ?_
      refine GoS.take (i := 3) (fun w' => ∃ q : WC W0.heap.size p v0 v1 (.slice (some ⟨g0, 0, none⟩) M M) (.slice (some ⟨g1, 0, none⟩) M M), w' = q.w) (SR.pre (p := [4, 5, 11, 13]) (by kernel_rfl) (by decide)) rfl rfl (by kernel_rfl) (by kernel_rfl) (by kernel_rfl) (fun _ _ _ _ h => h) (SR.idle (by decide)) ?_
      simp only [List.getElem_toArray, List.getElem_cons_zero, List.getElem_cons_succ]
      go_big_quiet_step (rfl)
      refine wpQuiet_nil ?_
      refine GoS.take (i := 6) (fun _ => True) (fun _ _ _ _ _ => trivial) rfl rfl (by kernel_rfl) (by kernel_rfl) (by kernel_rfl) (fun _ _ _ _ h => h) (SR.idle (by decide)) ?_
      simp only [List.getElem_toArray, List.getElem_cons_zero, List.getElem_cons_succ]
      go_big_quiet_step (fail)
      refine wpQuiet_nil ?_
      refine GoS.take (i := 7) (fun w' => ∃ q : WC W0.heap.size p v0 v1 (.slice (some ⟨g0, 0, none⟩) M M) (.slice (some ⟨g1, 0, none⟩) M M), w' = q.w) (SR.pre (p := [11, 13]) (by kernel_rfl) (by decide)) rfl rfl (by kernel_rfl) (by kernel_rfl) (by kernel_rfl) (fun _ _ _ _ h => h) (SR.idle (by decide)) ?_
      simp only [List.getElem_toArray, List.getElem_cons_zero, List.getElem_cons_succ]
      go_big_quiet_step (rfl)
      refine wpQuiet_nil ?_
      refine GoS.take (i := 8) (fun _ => True) (fun _ _ _ _ _ => trivial) rfl rfl (by kernel_rfl) (by kernel_rfl) (by kernel_rfl) (fun _ _ _ _ h => h) (SR.idle (by decide)) ?_
      simp only [List.getElem_toArray, List.getElem_cons_zero, List.getElem_cons_succ]
      go_big_quiet_step (fail)
      refine wpQuiet_nil ?_
      refine GoS.take (i := 9) (fun w' => ∃ q : WC W0.heap.size p v0 v1 (.slice (some ⟨g0, 0, none⟩) M M) (.slice (some ⟨g1, 0, none⟩) M M), w' = q.w) (SR.pre (p := [10, 11, 13]) (by kernel_rfl) (by decide)) rfl rfl (by kernel_rfl) (by kernel_rfl) (by kernel_rfl) (fun _ _ _ _ h => h) (SR.idle (by decide)) ?_
      simp only [List.getElem_toArray, List.getElem_cons_zero, List.getElem_cons_succ]
      go_big_quiet_step (rfl)
      refine wpQuiet_nil ?_
      clear q0 q1 q2 q3 hcb hpp
      have AR0 : Hid (AR u F n l W0 M p g0 g1 v0 v1 (encL u f.c f.xs f.qs ++ trl (F : Int) sq 160 (8 + 3 * n)) (encL u f.c f.xs f.qs ++ trl (F : Int) sq 161 (8 + 3 * n)) gs0 gs1 v0 gs0 v1 gs1 W1) := Lib.hid ⟨HQ1.out, HB1.out, HP.out, HS0.out, HS1.out, HAP.out, HG0.out, HG1.out, HD0.out, HD1.out⟩
      clear HQ1 HB1 HP HS0 HS1 HAP HG0 HG1 HD0 HD1
      refine GoS.twoW (i := 4) (j := 10) (by kernel_rfl) rfl rfl rfl rfl ?_ ?_
      · intro K hK
        simp only [List.getElem_toArray, List.getElem_cons_zero, List.getElem_cons_succ]
        go_simp
        refine hK _ _ (AR.sr (AR0.out.step (by repeat' (first | exact Q.refl _ | refine Q.alloc ?_ _ | refine Q.jk ?_ _ | refine Q.drew ?_))) _) ?_
        clear hK K
        refine GoS.fact (R := AR u F n l W0 M p g0 g1 v0 v1 _ _ gs0 gs1 v0 gs0 v1 gs1) (AR0.out.step (by repeat' (first | exact Q.refl _ | refine Q.alloc ?_ _ | refine Q.jk ?_ _ | refine Q.drew ?_))) ?_
        intro hAR
        have AR1 := Lib.hid hAR
        clear hAR
        refine GoS.twoW (i := 5) (j := 10) (by kernel_rfl) rfl rfl rfl rfl ?_ ?_
        · intro K hK
          simp only [List.getElem_toArray, List.getElem_cons_zero, List.getElem_cons_succ]
          refine oper_app_cp rfl _ _ rfl W0 M v0 gs0 g0 _ rfl rfl AR1.out.a (by simp [go_sem]) (by rw [L0.out]; omega) AR1.out.q ?_
          intro v0' kv0 h1 h2 h3
          have AR2 := Lib.hid (AR1.out.app0 (.jk (.refl _) _) h1 h2 h3)
          clear h1 h2 h3
          go_simp
          refine hK _ _ (AR2.out.sr _) ?_
          clear hK K
          refine GoS.take (i := 12) (fun _ => True) (fun _ _ _ _ _ => trivial) rfl rfl (by kernel_rfl) (by kernel_rfl) (by kernel_rfl) (fun _ _ _ _ h => h) (SR.idle (by decide)) ?_
          simp only [List.getElem_toArray, List.getElem_cons_zero, List.getElem_cons_succ]
          go_big_quiet_step (fail)
          refine wpQuiet_nil ?_
          refine GoS.turnW (i := 10) (by kernel_rfl) rfl rfl ?_
          intro K hK
          simp only [List.getElem_toArray, List.getElem_cons_zero, List.getElem_cons_succ]
          go_simp
          refine hK _ _ (AR.sr (AR2.out.step (by repeat' (first | exact Q.refl _ | refine Q.alloc ?_ _ | refine Q.jk ?_ _ | refine Q.drew ?_))) _) ?_
          clear hK K
          refine GoS.fact (R := AR u F n l W0 M p g0 g1 v0 v1 _ _ gs0 gs1 v0' (gs0 ++ [g0]) v1 gs1) (AR2.out.step (by repeat' (first | exact Q.refl _ | refine Q.alloc ?_ _ | refine Q.jk ?_ _ | refine Q.drew ?_))) ?_
          intro hAR
          have AR3 := Lib.hid hAR
          clear hAR
          refine GoS.turnW (i := 11) (by kernel_rfl) rfl rfl ?_
          intro K hK
          simp only [List.getElem_toArray, List.getElem_cons_zero, List.getElem_cons_succ]
          refine oper_app_cp rfl _ _ rfl W0 M v1 gs1 g1 _ rfl rfl AR3.out.b (by simp [go_sem]) (by rw [L1.out]; omega) AR3.out.q ?_
          intro v1' kv1 h1 h2 h3
          have AR4 := Lib.hid (AR3.out.app1 (.jk (.refl _) _) h1 h2 h3)
          clear h1 h2 h3
          go_simp
          refine hK _ _ (AR4.out.sr _) ?_
          clear hK K
          refine GoS.turnW (i := 13) (by kernel_rfl) rfl rfl ?_
          intro K hK
          simp only [List.getElem_toArray, List.getElem_cons_zero, List.getElem_cons_succ]
          obtain ⟨A0, m0, c0, rfl⟩ := row_slice AR4.out.a
          obtain ⟨A1, m1, c1, rfl⟩ := row_slice AR4.out.b
          have hc0 := (AR4.out.c.cell 0).trans (rfl : _ = some v0)
          have hf0 := AR4.out.c.soft 0
          have hc1 := ((AR4.out.c.set 0 (.slice A0 m0 c0)).cell 1).trans (rfl : _ = some v1)
          have hf1 := (AR4.out.c.set 0 (.slice A0 m0 c0)).soft 1
          go_simp
          refine hK _ _ (AR4.out.sr' _ rfl).1 ?_
          clear hK K
          refine GoS.take (i := 14) (fun _ => True) (fun _ _ _ _ _ => trivial) rfl rfl (by kernel_rfl) (by kernel_rfl) (by kernel_rfl) (fun _ _ _ _ h => h) (SR.idle (by decide)) ?_
          simp only [List.getElem_toArray, List.getElem_cons_zero, List.getElem_cons_succ]
          go_big_quiet_step (fail)
          refine wpQuiet_nil ?_
          refine GoS.turnW (i := 15) (by kernel_rfl) rfl rfl ?_
          intro K hK
          simp only [List.getElem_toArray, List.getElem_cons_zero, List.getElem_cons_succ]
          go_simp
          refine hK _ _ (AR4.out.sr' _ rfl).2 ?_
          clear hK K hc0 hf0 hc1 hf1
          refine GoS.done (by kernel_rfl) ?_
          obtain ⟨z1, z2, z3, z4, z5, z6, z7, z8, z9⟩ := AR4.out.stored _ rfl
          clear AR4 AR3 AR2 AR1 AR0
          go_wp2_with fail
          go_roundw
          case rel =>
            exact ⟨k + 1, _, _, gs0 ++ [g0], gs1 ++ [g1], by go_num, by rw [ESN.out], by omega, Lib.hid (by rw [List.length_append, L0.out]; rfl), Lib.hid (by rw [List.length_append, L1.out]; rfl), Lib.hid z1, Lib.hid z2, Lib.hid z3, Lib.hid z4, Lib.hid z5, Lib.hid (z8.snoc L0.out HF.out (by unfold cpF; rw [ESQ.out]; exact z6)), Lib.hid (z9.snoc L1.out HF.out (by unfold cpF; rw [ESQ.out]; exact z7))⟩
          case measure => simp [intOf]; omega
        · intro K hK
          simp only [List.getElem_toArray, List.getElem_cons_zero, List.getElem_cons_succ]
          go_simp
          refine hK _ _ (AR.sr (AR1.out.step (by repeat' (first | exact Q.refl _ | refine Q.alloc ?_ _ | refine Q.jk ?_ _ | refine Q.drew ?_))) _) ?_
          clear hK K
          refine GoS.fact (R := AR u F n l W0 M p g0 g1 v0 v1 _ _ gs0 gs1 v0 gs0 v1 gs1) (AR1.out.step (by repeat' (first | exact Q.refl _ | refine Q.alloc ?_ _ | refine Q.jk ?_ _ | refine Q.drew ?_))) ?_
          intro hAR
          have AR2 := Lib.hid hAR
          clear hAR
          refine GoS.turnW (i := 5) (by kernel_rfl) rfl rfl ?_
          intro K hK
          simp only [List.getElem_toArray, List.getElem_cons_zero, List.getElem_cons_succ]
          refine oper_app_cp rfl _ _ rfl W0 M v0 gs0 g0 _ rfl rfl AR2.out.a (by simp [go_sem]) (by rw [L0.out]; omega) AR2.out.q ?_
          intro v0' kv0 h1 h2 h3
          have HZ := Lib.hid (cellz (b := W1.heap.size + 1) (x := .slice (some ⟨g1, 0, none⟩) M M) (t := 73) (by (repeat' (first | (with_reducible refine HB.drew ?_) | (with_reducible refine HB.jk ?_ _) | ((with_reducible refine HB.new _ _ _ _ ?_); simp only [World.size_jk, World.size_alloc, World.size_drew]; done) | (with_reducible refine HB.alloc ?_ _)))) (fun g hg => Nat.lt_of_lt_of_le (AR0.out.a.lt g hg).2 (by omega)) h2)
          have AR3 := Lib.hid (AR2.out.app0 (.jk (.refl _) _) h1 h2 h3)
          clear h1 h2 h3
          go_simp
          refine hK _ _ (AR3.out.sr _) ?_
          clear hK K
          refine GoS.take (i := 12) (fun _ => True) (fun _ _ _ _ _ => trivial) rfl rfl (by kernel_rfl) (by kernel_rfl) (by kernel_rfl) (fun _ _ _ _ h => h) (SR.idle (by decide)) ?_
          simp only [List.getElem_toArray, List.getElem_cons_zero, List.getElem_cons_succ]
          go_big_quiet_step (fail)
          refine wpQuiet_nil ?_
          refine GoS.turnW (i := 11) (by kernel_rfl) rfl rfl ?_
          intro K hK
          simp only [List.getElem_toArray, List.getElem_cons_zero, List.getElem_cons_succ]
          refine oper_app_cp rfl _ _ rfl W0 M v1 gs1 g1 _ rfl rfl AR3.out.b HZ.out (by rw [L1.out]; omega) AR3.out.q ?_
          intro v1' kv1 h1 h2 h3
          have AR4 := Lib.hid (AR3.out.app1 (.jk (.refl _) _) h1 h2 h3)
          clear h1 h2 h3
          go_simp
          refine hK _ _ (AR4.out.sr _) ?_
          clear hK K
          refine GoS.turnW (i := 13) (by kernel_rfl) rfl rfl ?_
          intro K hK
          simp only [List.getElem_toArray, List.getElem_cons_zero, List.getElem_cons_succ]
          obtain ⟨A0, m0, c0, rfl⟩ := row_slice AR4.out.a
          obtain ⟨A1, m1, c1, rfl⟩ := row_slice AR4.out.b
          have hc0 := (AR4.out.c.cell 0).trans (rfl : _ = some v0)
          have hf0 := AR4.out.c.soft 0
          have hc1 := ((AR4.out.c.set 0 (.slice A0 m0 c0)).cell 1).trans (rfl : _ = some v1)
          have hf1 := (AR4.out.c.set 0 (.slice A0 m0 c0)).soft 1
          go_simp
          refine hK _ _ (AR4.out.sr' _ rfl).1 ?_
          clear hK K
          refine GoS.take (i := 14) (fun _ => True) (fun _ _ _ _ _ => trivial) rfl rfl (by kernel_rfl) (by kernel_rfl) (by kernel_rfl) (fun _ _ _ _ h => h) (SR.idle (by decide)) ?_
          simp only [List.getElem_toArray, List.getElem_cons_zero, List.getElem_cons_succ]
          go_big_quiet_step (fail)
          refine wpQuiet_nil ?_
          refine GoS.turnW (i := 15) (by kernel_rfl) rfl rfl ?_
          intro K hK
          simp only [List.getElem_toArray, List.getElem_cons_zero, List.getElem_cons_succ]
          go_simp
          refine hK _ _ (AR4.out.sr' _ rfl).2 ?_
          clear hK K hc0 hf0 hc1 hf1
          refine GoS.done (by kernel_rfl) ?_
          obtain ⟨z1, z2, z3, z4, z5, z6, z7, z8, z9⟩ := AR4.out.stored _ rfl
          clear AR4 AR3 AR2 AR1 AR0
          go_wp2_with fail
          go_roundw
          case rel =>
            exact ⟨k + 1, _, _, gs0 ++ [g0], gs1 ++ [g1], by go_num, by rw [ESN.out], by omega, Lib.hid (by rw [List.length_append, L0.out]; rfl), Lib.hid (by rw [List.length_append, L1.out]; rfl), Lib.hid z1, Lib.hid z2, Lib.hid z3, Lib.hid z4, Lib.hid z5, Lib.hid (z8.snoc L0.out HF.out (by unfold cpF; rw [ESQ.out]; exact z6)), Lib.hid (z9.snoc L1.out HF.out (by unfold cpF; rw [ESQ.out]; exact z7))⟩
          case measure => simp [intOf]; omega
      · intro K hK
        simp only [List.getElem_toArray, List.getElem_cons_zero, List.getElem_cons_succ]
        go_simp
        refine hK _ _ (AR.sr (AR0.out.step (by repeat' (first | exact Q.refl _ | refine Q.alloc ?_ _ | refine Q.jk ?_ _ | refine Q.drew ?_))) _) ?_
        clear hK K
        refine GoS.fact (R := AR u F n l W0 M p g0 g1 v0 v1 _ _ gs0 gs1 v0 gs0 v1 gs1) (AR0.out.step (by repeat' (first | exact Q.refl _ | refine Q.alloc ?_ _ | refine Q.jk ?_ _ | refine Q.drew ?_))) ?_
        intro hAR
        have AR1 := Lib.hid hAR
        clear hAR
        refine GoS.turnW (i := 4) (by kernel_rfl) rfl rfl ?_
        intro K hK
        simp only [List.getElem_toArray, List.getElem_cons_zero, List.getElem_cons_succ]
        go_simp
        refine hK _ _ (AR.sr (AR1.out.step (by repeat' (first | exact Q.refl _ | refine Q.alloc ?_ _ | refine Q.jk ?_ _ | refine Q.drew ?_))) _) ?_
        clear hK K
        refine GoS.fact (R := AR u F n l W0 M p g0 g1 v0 v1 _ _ gs0 gs1 v0 gs0 v1 gs1) (AR1.out.step (by repeat' (first | exact Q.refl _ | refine Q.alloc ?_ _ | refine Q.jk ?_ _ | refine Q.drew ?_))) ?_
        intro hAR
        have AR2 := Lib.hid hAR
        clear hAR
        refine GoS.turnW (i := 5) (by kernel_rfl) rfl rfl ?_
        intro K hK
        simp only [List.getElem_toArray, List.getElem_cons_zero, List.getElem_cons_succ]
        refine oper_app_cp rfl _ _ rfl W0 M v0 gs0 g0 _ rfl rfl AR2.out.a (by simp [go_sem]) (by rw [L0.out]; omega) AR2.out.q ?_
        intro v0' kv0 h1 h2 h3
        have HZ := Lib.hid (cellz (b := W1.heap.size) (x := .slice (some ⟨g1, 0, none⟩) M M) (t := 73) (by (repeat' (first | (with_reducible refine HB.drew ?_) | (with_reducible refine HB.jk ?_ _) | ((with_reducible refine HB.new _ _ _ _ ?_); simp only [World.size_jk, World.size_alloc, World.size_drew]; done) | (with_reducible refine HB.alloc ?_ _)))) (fun g hg => Nat.lt_of_lt_of_le (AR0.out.a.lt g hg).2 (by omega)) h2)
        have AR3 := Lib.hid (AR2.out.app0 (.jk (.refl _) _) h1 h2 h3)
        clear h1 h2 h3
        go_simp
        refine hK _ _ (AR3.out.sr _) ?_
        clear hK K
        refine GoS.take (i := 12) (fun _ => True) (fun _ _ _ _ _ => trivial) rfl rfl (by kernel_rfl) (by kernel_rfl) (by kernel_rfl) (fun _ _ _ _ h => h) (SR.idle (by decide)) ?_
        simp only [List.getElem_toArray, List.getElem_cons_zero, List.getElem_cons_succ]
        go_big_quiet_step (fail)
        refine wpQuiet_nil ?_
        refine GoS.turnW (i := 11) (by kernel_rfl) rfl rfl ?_
        intro K hK
        simp only [List.getElem_toArray, List.getElem_cons_zero, List.getElem_cons_succ]
        refine oper_app_cp rfl _ _ rfl W0 M v1 gs1 g1 _ rfl rfl AR3.out.b HZ.out (by rw [L1.out]; omega) AR3.out.q ?_
        intro v1' kv1 h1 h2 h3
        have AR4 := Lib.hid (AR3.out.app1 (.jk (.refl _) _) h1 h2 h3)
        clear h1 h2 h3
        go_simp
        refine hK _ _ (AR4.out.sr _) ?_
        clear hK K
        refine GoS.turnW (i := 13) (by kernel_rfl) rfl rfl ?_
        intro K hK
        simp only [List.getElem_toArray, List.getElem_cons_zero, List.getElem_cons_succ]
        obtain ⟨A0, m0, c0, rfl⟩ := row_slice AR4.out.a
        obtain ⟨A1, m1, c1, rfl⟩ := row_slice AR4.out.b
        have hc0 := (AR4.out.c.cell 0).trans (rfl : _ = some v0)
        have hf0 := AR4.out.c.soft 0
        have hc1 := ((AR4.out.c.set 0 (.slice A0 m0 c0)).cell 1).trans (rfl : _ = some v1)
        have hf1 := (AR4.out.c.set 0 (.slice A0 m0 c0)).soft 1
        go_simp
        refine hK _ _ (AR4.out.sr' _ rfl).1 ?_
        clear hK K
        refine GoS.take (i := 14) (fun _ => True) (fun _ _ _ _ _ => trivial) rfl rfl (by kernel_rfl) (by kernel_rfl) (by kernel_rfl) (fun _ _ _ _ h => h) (SR.idle (by decide)) ?_
        simp only [List.getElem_toArray, List.getElem_cons_zero, List.getElem_cons_succ]
        go_big_quiet_step (fail)
        refine wpQuiet_nil ?_
        refine GoS.turnW (i := 15) (by kernel_rfl) rfl rfl ?_
        intro K hK
        simp only [List.getElem_toArray, List.getElem_cons_zero, List.getElem_cons_succ]
        go_simp
        refine hK _ _ (AR4.out.sr' _ rfl).2 ?_
        clear hK K hc0 hf0 hc1 hf1
        refine GoS.done (by kernel_rfl) ?_
        obtain ⟨z1, z2, z3, z4, z5, z6, z7, z8, z9⟩ := AR4.out.stored _ rfl
        clear AR4 AR3 AR2 AR1 AR0
        go_wp2_with fail
        go_roundw
        case rel =>
          exact ⟨k + 1, _, _, gs0 ++ [g0], gs1 ++ [g1], by go_num, by rw [ESN.out], by omega, Lib.hid (by rw [List.length_append, L0.out]; rfl), Lib.hid (by rw [List.length_append, L1.out]; rfl), Lib.hid z1, Lib.hid z2, Lib.hid z3, Lib.hid z4, Lib.hid z5, Lib.hid (z8.snoc L0.out HF.out (by unfold cpF; rw [ESQ.out]; exact z6)), Lib.hid (z9.snoc L1.out HF.out (by unfold cpF; rw [ESQ.out]; exact z7))⟩
        case measure => simp [intOf]; omega
    · --PARTB
      obtain rfl : k = 12 := by omega
      obtain ⟨W3, rfl⟩ : ∃ W3 : World, W3 = wr := ⟨_, rfl⟩
      have HNET : Hid (∀ j : Nat, j < 2 → ∃ (gv cv : Nat) (gs : List Nat) (mk net : Int) (rj : Nat) (cj : Int), W3.cell? ⟨W0.heap.size, j, none⟩ = some (.slice (some ⟨gv, 0, none⟩) 12 cv) ∧ gv < W3.heap.size ∧ (∀ i g', gs[i]? = some g' → W3.cell? ⟨gv, i, none⟩ = some (.slice (some ⟨g', 0, none⟩) M M)) ∧ gs.length = 12 ∧ Cop u F n mk l W3 gs ∧ ((mk = 160 ∧ net = 0) ∨ (mk = 161 ∧ net = 1)) ∧
          W3.cell? ⟨gb, j, none⟩ = some (.slice (some ⟨rj, 0, none⟩) N N) ∧ HB W3 rj (cellsB (cutL cj N)) 4) := Lib.hid (by
        have row : ∀ v gs, RowB W0 W3 M v gs → gs.length = 12 → ∃ gv cv, v = .slice (some ⟨gv, 0, none⟩) 12 cv ∧ gv < W3.heap.size ∧ ∀ i g', gs[i]? = some g' → W3.cell? ⟨gv, i, none⟩ = some (.slice (some ⟨g', 0, none⟩) M M) := by
          intro v gs h hl
          obtain ⟨A, c, rfl, hr⟩ := rdv_of_own h (by simp)
          rw [hl] at hr ⊢
          rcases h.2 with ⟨e, _⟩ | ⟨g1, cap1, cur, e, _⟩
          · injection e with _ e
            omega
          · cases e
            obtain ⟨g', o, e, hg, hc⟩ := hr.2.2.1 (by omega)
            cases e
            refine ⟨_, _, rfl, hg, fun i g' hi => ?_⟩
            have := hc i _ (by rw [List.getElem?_map, hi]; rfl)
            rwa [Nat.zero_add] at this
        obtain ⟨g0, c0, rfl, hg0, hr0⟩ := row _ _ HR0.out L0.out
        obtain ⟨g1, c1, rfl, hg1, hr1⟩ := row _ _ HR1.out L1.out
        have hb := HGB.out.q HQ.out
        intro j hj
        match j, hj with
        | 0, _ => exact ⟨g0, c0, gs0, 160, 0, ra, x2, HCB.out.cell 0, hg0, hr0, L0.out, HC0.out, .inl ⟨rfl, rfl⟩, hb.cell 0, HRA.out.q HQ.out⟩
        | 1, _ => exact ⟨g1, c1, gs1, 161, 1, rb, x3, HCB.out.cell 1, hg1, hr1, L1.out, HC1.out, .inr ⟨rfl, rfl⟩, hb.cell 1, HRB.out.q HQ.out⟩)
      have OC : Old W0.heap.size W3 := HCB.out.old
      have OG : Old gb W3 := (HGB.out.q HQ.out).old
      have HQ3 := Lib.hid (HQ0.out.trans HQ.out)
      clear L0 L1 HQ HCB HR0 HR1 HAP HC0 HC1 HRA HRB HGB HQ0
      clear v0 v1 gs0 gs1 hlt hk
      have HM := Lib.hid hM
      rw [show ((12 : Nat) : Int) = 12 from rfl]
      go_wp2_with fail
      go_loopw [19, 21] (fun s19 s21 wr => ∃ j : Nat, s21 = .int .i64 j ∧ j ≤ 2 ∧ Hid (Q W3 wr) ∧ ((s19 = .slice none 0 0 ∧ Hid (j = 0 ∨ (j = 1 ∧ lost = 0)) ∧ Hid (HB wr W3.heap.size #[.slice none 0 0] 81)) ∨ (∃ gs cs fl, Hid (HB wr W3.heap.size #[.slice (some ⟨gs, 0, none⟩) 1 cs] 81) ∧ Hid (SrcAt wr gs F (seqK 11) (seenK 11)) ∧ Hid (RowO W3 wr u n s19 fl) ∧ Hid (∀ f ∈ fl, FmAt wr n f) ∧ Hid (fl.map Fm.dat = l.map Fm.dat)))) (fun _ i _ => 2 - (intOf i).toNat)
      case atStart => exact ⟨0, rfl, by omega, Lib.hid (by repeat' (first | exact Q.refl _ | refine Q.alloc ?_ _ | refine Q.jk ?_ _ | refine Q.drew ?_)), .inl ⟨rfl, Lib.hid (.inl rfl), Lib.hid (HB.new _ _ _ _ rfl)⟩⟩
      case round =>
        obtain ⟨j, rfl, hj, HQ, hcase⟩ := hrel
        obtain ⟨wo, rfl⟩ : ∃ wo : World, wo = wr := ⟨_, rfl⟩
        by_cases hj2 : j < 2
        · rcases hcase with ⟨rfl, HJ, HBX⟩ | ⟨gs, cs, fl, HBX, HS, HO, HF, HD⟩
          · skip
            obtain ⟨gv, cv, gsj, mk, net, rj, cj, hcb, hgv, hcv, hgl, hcp, hmk, hgb, hrj⟩ := HNET.out j hj2
            have CB := Lib.hid hcb
            have OV : Old gv W3 := ⟨hgv⟩
            have CV := Lib.hid hcv
            have GL := Lib.hid hgl
            have CP := Lib.hid hcp
            have MK := Lib.hid hmk
            have cgb : wo.cell? ⟨gb, j, none⟩ = some (.slice (some ⟨rj, 0, none⟩) N N) := (HQ.out.below.cell (p := ⟨gb, j, none⟩) OG.lt).trans hgb
            have ogb : Old gb wo := ⟨Nat.lt_of_lt_of_le OG.lt HQ.out.below.size⟩
            have HRJ := Lib.hid (hrj.q HQ.out)
            clear hcb hgv hcv hgl hcp hmk hgb hrj
            have j0 : (0 : Int) ≤ (j : Int) := by omega
            have j2 : (j : Int) < 2 := by omega
            go_wp2_with (first
              | (go_at_call 25; (with_reducible refine (reached_c rj 0 N N (fun i => i == cutP cj N) F _ (fun i hi => by rw [Nat.zero_add, HRJ.out.cell, cellsB_at (by rw [cutL_len]; exact hi), cutL_at cj N i (by omega) hi]) HRJ.out.lt hFN n3 n14).mono ?_); rintro e w' ⟨gR, fR, rfl, ⟨kR, rfl⟩, hgR, hcR, hsR, haR, hdR⟩)
              | fail)
            have HRC : Hid (RC gR TO (wo.jk kR)) := Lib.hid ⟨hgR, by
              rw [hcR TO hTN]
              have := reach_all N (by omega) n3 F hFN (cutP cj N) (by have := cutP_lt cj N (by omega); omega) TO hTN
              rw [Bool.or_eq_true, Bool.or_eq_true] at this
              rcases this with (h | h) | h
              · rw [beq_iff_eq] at h
                rw [h, hsR]
              · obtain ⟨x, hx, he⟩ := List.any_eq_true.1 h
                rw [beq_iff_eq] at he
                rw [← he, haR x hx]
              · obtain ⟨x, hx, he⟩ := List.any_eq_true.1 h
                rw [beq_iff_eq] at he
                rw [← he, hdR x hx]⟩
            clear hgR hcR hsR haR hdR HRJ cgb ogb
            have HQ4 := Lib.hid (HQ.out.jk kR)
            have HB4 := Lib.hid (HBX.out.jk kR)
            clear HQ HBX
            obtain ⟨W4, e4⟩ : ∃ W4, wo.jk kR = W4 := ⟨_, rfl⟩
            rw [e4] at HRC HQ4 HB4 ⊢
            clear e4
            by_cases hlo : (j : Int) = lost
            · subst hlo
              have ccb : W4.cell? ⟨W0.heap.size, j, none⟩ = some (.slice (some ⟨gv, 0, none⟩) 12 cv) := (HQ4.out.below.cell (p := ⟨W0.heap.size, j, none⟩) OC.lt).trans CB.out
              have ocb : Old W0.heap.size W4 := ⟨Nat.lt_of_lt_of_le OC.lt HQ4.out.below.size⟩
              go_loopw [19, 23] (fun s19 s23 wr => s19 = .slice none 0 0 ∧ s23 = .int .i64 (0 : Nat) ∧ wr = W4) (fun _ _ _ => 0)
              case atStart => exact ⟨rfl, rfl, rfl⟩
              case round =>
                obtain ⟨rfl, rfl, rfl⟩ := hrel
                go_wp2_with fail
                go_roundw
                case rel => exact ⟨j + 1, by go_num, by omega, HQ4, .inl ⟨rfl, Lib.hid (by rcases HJ.out with h | ⟨h, h1⟩ <;> omega), HB4⟩⟩
                case measure => simp [intOf]; omega
            · skip
              go_loopw [19, 23] (fun s19 s23 wr => ∃ (k : Nat) (As : Option Addr) (ms cs : Nat) (fl : List Fm), s23 = .int .i64 k ∧ k ≤ 12 ∧ Hid (Q W3 wr) ∧ Hid (HB wr W3.heap.size #[.slice As ms cs] 81) ∧ Hid ((k = 0 ∧ As = none ∧ ms = 0 ∧ cs = 0) ∨ ∃ m gs, k = m + 1 ∧ As = some ⟨gs, 0, none⟩ ∧ ms = 1 ∧ SrcAt wr gs F (seqK m) (seenK m)) ∧ Hid (RowO W3 wr u n s19 fl) ∧ Hid (fl.length = k) ∧ Hid (∀ f ∈ fl, FmAt wr n f) ∧ Hid (fl.map Fm.dat = (l.take k).map Fm.dat) ∧ Hid (RC gR TO wr) ∧ Hid (s19.ownBlock ≠ some gR)) (fun _ i _ => 12 - (intOf i).toNat)
              case atStart => exact ⟨0, none, 0, 0, [], rfl, by omega, HQ4, HB4, Lib.hid (.inl ⟨rfl, rfl, rfl, rfl⟩), Lib.hid (World.ownsRow_nil _ _ _ _), Lib.hid rfl, Lib.hid (fun f hf => by cases hf), Lib.hid rfl, HRC, Lib.hid (by simp [Value.ownBlock])⟩
              case round =>
                clear HQ4 HB4 HRC
                obtain ⟨k, As, ms, cs, fl, rfl, hk, HQ, HBX, HST, HO, HFL, HFM, HD, HR, HNE⟩ := hrel
                obtain ⟨v19, rfl⟩ : ∃ v19, v19 = u19 := ⟨_, rfl⟩
                obtain ⟨wi, rfl⟩ : ∃ wi : World, wi = wr := ⟨_, rfl⟩
                have ccb : wi.cell? ⟨W0.heap.size, j, none⟩ = some (.slice (some ⟨gv, 0, none⟩) 12 cv) := (HQ.out.below.cell (p := ⟨W0.heap.size, j, none⟩) OC.lt).trans CB.out
                have ocb : Old W0.heap.size wi := ⟨Nat.lt_of_lt_of_le OC.lt HQ.out.below.size⟩
                have cgr : wi.cell? ⟨gR, TO, none⟩ = some (.bool true) := HR.out.2
                have ogr : Old gR wi := ⟨HR.out.1⟩
                have k0 : (0 : Int) ≤ (k : Int) := by omega
                by_cases hk1 : k < 12
                · have k1 : (k : Int) < 12 := by omega
                  obtain ⟨f, hf⟩ : ∃ f, l[k]? = some f := ⟨_, List.getElem?_eq_getElem (by rw [HL.out]; exact hk1)⟩
                  have hfm := List.mem_of_getElem? hf
                  obtain ⟨gk, hgk⟩ : ∃ gk, gsj[k]? = some gk := ⟨_, List.getElem?_eq_getElem (by rw [GL.out]; exact hk1)⟩
                  have HCK : Hid (HB wi gk (cellsN .u8 (cpF u F n mk k f)) 5) := Lib.hid ((CP.out k f gk hf hgk).q HQ.out)
                  have cgk : wi.cell? ⟨gv, k, none⟩ = some (.slice (some ⟨gk, 0, none⟩) M M) := (HQ.out.below.cell (p := ⟨gv, k, none⟩) OV.lt).trans (CV.out k gk hgk)
                  have ogk : Old gv wi := ⟨Nat.lt_of_lt_of_le OV.lt HQ.out.below.size⟩
                  have HX : Hid (f.xs.length = n ∧ f.qs.length = n) := Lib.hid (H.out.2.2 f hfm).2.2
                  have d0 := (HC.out f hfm).1
                  have d1 := (HC.out f hfm).2
                  have BXF := Lib.hid (BX.out f hfm)
                  have BQF := Lib.hid (BQ.out f hfm)
                  have HF := Lib.hid hf
                  clear hf hgk hfm
                  have ACC : Hid (∀ w', Q wi w' → Calls Tryd.prog 27 #[.agg #[.slice As ms cs], .int .i64 (F : Int), .int .i64 (seqK k)] w' (RetState (F : Int) (seqK k) (seenK k) true w')) := Lib.hid (fun w' hq => by
                    have hs := seq_in k
                    rcases HST.out with ⟨rfl, rfl, rfl, rfl⟩ | ⟨m, gs, rfl, rfl, rfl, hsr⟩
                    · exact accept_nil (F : Int) (seqK 0) w' (by omega) (by omega) hs.1 hs.2
                    · exact accept_one gs cs (F : Int) (seqK m) (seenK m) (seqK (m + 1)) (seqK (m + 1)) (seenK (m + 1)) true w' (hsr.q hq) (by omega) (by omega) hs.1 hs.2 (Lib.hid fun w'' => take_newK (F : Int) m (by omega) w''))
                  clear HST
                  have cst := HBX.out.cell 0
                  have fst := HBX.out.soft 0
                  have ost := HBX.out.old
                  go_upto_region 26 with (first
                    | (go_at_call 26; (with_reducible refine (open_cp u F n mk net k f gk M _ HM.out (HCK.out.q (by repeat' (first | exact Q.refl _ | refine Q.alloc ?_ _ | refine Q.jk ?_ _ | refine Q.drew ?_))) HX.out.1 HX.out.2 n1 (by omega) (by omega) MK.out).mono ?_); rintro e w' ⟨gp, np, cp, rfl, ⟨kp, rfl⟩, hrp⟩)
                    | (go_at_call 27; (with_reducible refine (ACC.out _ (by repeat' (first | exact Q.refl _ | refine Q.alloc ?_ _ | refine Q.jk ?_ _ | refine Q.drew ?_))).mono ?_); rintro e w' ⟨gs', cs', rfl, ⟨ka, rfl⟩, hsr⟩)
                    | fail)
                  have hnp : np = 8 + 3 * n := by
                    have := hrp.len
                    rw [encL_len _ _ _ _ (by rw [HX.out.1, HX.out.2]), HX.out.1] at this
                    omega
                  subst hnp
                  refine wp_world (fun W5 e5 => ?_)
                  obtain ⟨Wp, ep⟩ : ∃ Wp, (((wi.jk kp).alloc (.cells #[Value.int .i64 (F : Int), Value.int .i64 (seqK k), Value.int .i64 net, Value.slice (some ⟨gp, 0, none⟩) (8 + 3 * n) cp] 84)).jk ka).alloc (.cells #[Value.slice (some ⟨gs', 0, none⟩) 1 cs'] 81) = Wp := ⟨_, rfl⟩
                  have e6 : W5 = Wp.setCell ⟨W3.heap.size, 0, none⟩ (.slice (some ⟨gs', 0, none⟩) 1 cs') := by rw [e5, ← ep]; simp [go_sem]
                  have hqp : Q wi Wp := by rw [← ep]; repeat' (first | exact Q.refl _ | refine Q.alloc ?_ _ | refine Q.jk ?_ _ | refine Q.drew ?_)
                  have hb5 := HBX.out.q hqp
                  have HQ5 : Hid (Q W3 W5) := Lib.hid (by rw [e6]; exact Q.setCell (HQ.out.trans hqp) (Nat.le_refl _) _)
                  have HB5 : Hid (HB W5 W3.heap.size #[.slice (some ⟨gs', 0, none⟩) 1 cs'] 81) := Lib.hid (by rw [e6]; exact hb5.set 0 _)
                  have HS5 : Hid (SrcAt W5 gs' F (seqK k) (seenK k)) := Lib.hid (by rw [e6]; exact SrcAt.set (hsr.q (by rw [← ep]; repeat' (first | exact Q.refl _ | refine Q.alloc ?_ _ | refine Q.jk ?_ _ | refine Q.drew ?_))) hb5)
                  have HO5 : Hid (RowO W3 W5 u n v19 fl) := Lib.hid (by rw [e6]; exact RowO.set (ownsRow_q HO.out hqp) hb5)
                  have HFM5 : Hid (∀ f ∈ fl, FmAt W5 n f) := Lib.hid (by rw [e6]; exact fun f hf => ((HFM.out f hf).q hqp).set hb5)
                  have HR5 : Hid (RC gR TO W5) := Lib.hid (by rw [e6]; exact (HR.out.q hqp).set hb5)
                  have HP5 : Hid (RdN W5 (some ⟨gp, 0, none⟩) (8 + 3 * n) cp .u8 (encL u f.c f.xs f.qs)) := Lib.hid (by rw [e6]; exact rdn_set (hrp.q (by rw [← ep]; repeat' (first | exact Q.refl _ | refine Q.alloc ?_ _ | refine Q.jk ?_ _ | refine Q.drew ?_))) (by omega) hb5)
                  obtain ⟨p24, ep24⟩ : ∃ p24, wi.heap.size + kp.os.size = p24 := ⟨_, rfl⟩
                  have HX5 : Hid (HB W5 p24 #[Value.int .i64 (F : Int), Value.int .i64 (seqK k), Value.int .i64 net, Value.slice (some ⟨gp, 0, none⟩) (8 + 3 * n) cp] 84) := Lib.hid (by
                    have h1 : HB Wp p24 #[Value.int .i64 (F : Int), Value.int .i64 (seqK k), Value.int .i64 net, Value.slice (some ⟨gp, 0, none⟩) (8 + 3 * n) cp] 84 := by
                      rw [← ep]
                      exact ((HB.new _ _ _ _ (by rw [← ep24, World.size_jk])).jk _).alloc _
                    rw [e6]
                    exact h1.other (hb_ne_type hb5 h1 (by decide)))
                  rw [ep24]
                  have hx5 := HX5.out.cell 3
                  have ox5 := HX5.out.old
                  clear e5 ep e6 hqp hb5 hrp hsr ACC HCK cst fst ost ccb ocb cgr ogr cgk ogk ep24
                  clear HQ HBX HO HFM HR
                  go_wp2_with (first
                    | (go_at_call 28; go_loud (with_reducible refine (dec_c u f.c n _ _ cp f.xs f.qs _ (HP5.out.q (by repeat' (first | exact Q.refl _ | refine Q.alloc ?_ _ | refine Q.jk ?_ _ | refine Q.drew ?_))) HX.out.1 HX.out.2 u0 u1 d0 d1 n0 n1 BXF.out BQF.out).mono ?_); rintro e w' ⟨ga, gq, nn, rfl, ⟨kd, rfl⟩, hnn, hga, hgq⟩; obtain rfl : n = nn := (by rw [hnn]; exact HX.out.1.symm); clear hnn)
                    | (at_builtin; refine wpList_app_fm rfl _ _ rfl W3 u n v19 fl ⟨f.c, ga, gq, f.xs, f.qs⟩ _ rfl rfl (ownsRow_q HO5.out (by repeat' (first | exact Q.refl _ | refine Q.alloc ?_ _ | refine Q.jk ?_ _ | refine Q.drew ?_))) (by simp [go_sem]) (by simp [go_sem]) (by simp [go_sem]) (by simp [go_sem]) (by simp [go_sem]) (by rw [HFL.out]; omega) (HQ5.out.trans (by repeat' (first | exact Q.refl _ | refine Q.alloc ?_ _ | refine Q.jk ?_ _ | refine Q.drew ?_))) ?_; intro v' kk h1 h2 h3)
                    | fail)
                  go_roundw
                  case rel =>
                    refine ⟨k + 1, some ⟨gs', 0, none⟩, 1, cs', fl ++ [⟨f.c, ga, gq, f.xs, f.qs⟩], by go_num, by omega, Lib.hid (.jk (.refl _) kk), Lib.hid ((HB5.out.q (by repeat' (first | exact Q.refl _ | refine Q.alloc ?_ _ | refine Q.jk ?_ _ | refine Q.drew ?_))).grown h2 (hb_ne_own (HB5.out.q (by repeat' (first | exact Q.refl _ | refine Q.alloc ?_ _ | refine Q.jk ?_ _ | refine Q.drew ?_))) (ownsRow_q HO5.out (by repeat' (first | exact Q.refl _ | refine Q.alloc ?_ _ | refine Q.jk ?_ _ | refine Q.drew ?_))) (by decide))), Lib.hid (.inr ⟨k, gs', rfl, rfl, rfl, SrcAt.grown (HS5.out.q (by repeat' (first | exact Q.refl _ | refine Q.alloc ?_ _ | refine Q.jk ?_ _ | refine Q.drew ?_))) (ownsRow_q HO5.out (by repeat' (first | exact Q.refl _ | refine Q.alloc ?_ _ | refine Q.jk ?_ _ | refine Q.drew ?_))) h2⟩), Lib.hid h1, Lib.hid (by rw [List.length_append, HFL.out]; rfl), Lib.hid (fun f' hf' => ?_), Lib.hid ?_, Lib.hid ((HR5.out.q (by repeat' (first | exact Q.refl _ | refine Q.alloc ?_ _ | refine Q.jk ?_ _ | refine Q.drew ?_))).grown h2 HNE.out), Lib.hid ?_⟩
                    · rcases List.mem_append.1 hf' with hf' | hf'
                      · exact FmAt.grown ((HFM5.out f' hf').q (by repeat' (first | exact Q.refl _ | refine Q.alloc ?_ _ | refine Q.jk ?_ _ | refine Q.drew ?_))) (ownsRow_q HO5.out (by repeat' (first | exact Q.refl _ | refine Q.alloc ?_ _ | refine Q.jk ?_ _ | refine Q.drew ?_))) h2
                      · rw [List.mem_singleton] at hf'
                        subst hf'
                        exact FmAt.grown (fl := fl) ⟨hga.q (by repeat' (first | exact Q.refl _ | refine Q.alloc ?_ _ | refine Q.jk ?_ _ | refine Q.drew ?_)), hgq.q (by repeat' (first | exact Q.refl _ | refine Q.alloc ?_ _ | refine Q.jk ?_ _ | refine Q.drew ?_)), HX.out.1, HX.out.2⟩ (ownsRow_q HO5.out (by repeat' (first | exact Q.refl _ | refine Q.alloc ?_ _ | refine Q.jk ?_ _ | refine Q.drew ?_))) h2
                    · rw [List.map_append, HD.out, List.take_add_one, HF.out, List.map_append]
                      rfl
                    · exact RC.ne (HR5.out.q (by repeat' (first | exact Q.refl _ | refine Q.alloc ?_ _ | refine Q.jk ?_ _ | refine Q.drew ?_))) h2 HNE.out h3
                  case measure => simp [intOf]; omega
                · obtain rfl : k = 12 := by omega
                  go_wp2_with fail
                  go_roundw
                  case rel =>
                    obtain ⟨gs, rfl, rfl, hsr⟩ : ∃ gs, As = some ⟨gs, 0, none⟩ ∧ ms = 1 ∧ SrcAt wi gs F (seqK 11) (seenK 11) := by
                      rcases HST.out with ⟨h, _⟩ | ⟨m, gs, h, h1, h2, h3⟩
                      · omega
                      · obtain rfl : m = 11 := by omega
                        exact ⟨gs, h1, h2, h3⟩
                    exact ⟨j + 1, by go_num, by omega, HQ, .inr ⟨gs, cs, fl, HBX, Lib.hid hsr, HO, HFM, Lib.hid (by rw [HD.out, List.take_of_length_le (by rw [HL.out]; exact Nat.le_refl _)])⟩⟩
                  case measure => simp [intOf]; omega
          · obtain ⟨v19, rfl⟩ : ∃ v19, v19 = u19 := ⟨_, rfl⟩
            obtain ⟨gv, cv, gsj, mk, net, rj, cj, hcb, hgv, hcv, hgl, hcp, hmk, hgb, hrj⟩ := HNET.out j hj2
            have CB := Lib.hid hcb
            have OV : Old gv W3 := ⟨hgv⟩
            have CV := Lib.hid hcv
            have GL := Lib.hid hgl
            have CP := Lib.hid hcp
            have MK := Lib.hid hmk
            have cgb : wo.cell? ⟨gb, j, none⟩ = some (.slice (some ⟨rj, 0, none⟩) N N) := (HQ.out.below.cell (p := ⟨gb, j, none⟩) OG.lt).trans hgb
            have ogb : Old gb wo := ⟨Nat.lt_of_lt_of_le OG.lt HQ.out.below.size⟩
            have HRJ := Lib.hid (hrj.q HQ.out)
            clear hcb hgv hcv hgl hcp hmk hgb hrj
            have j0 : (0 : Int) ≤ (j : Int) := by omega
            have j2 : (j : Int) < 2 := by omega
            go_wp2_with (first
              | (go_at_call 25; (with_reducible refine (reached_c rj 0 N N (fun i => i == cutP cj N) F _ (fun i hi => by rw [Nat.zero_add, HRJ.out.cell, cellsB_at (by rw [cutL_len]; exact hi), cutL_at cj N i (by omega) hi]) HRJ.out.lt hFN n3 n14).mono ?_); rintro e w' ⟨gR, fR, rfl, ⟨kR, rfl⟩, hgR, hcR, hsR, haR, hdR⟩)
              | fail)
            have HRC : Hid (RC gR TO (wo.jk kR)) := Lib.hid ⟨hgR, by
              rw [hcR TO hTN]
              have := reach_all N (by omega) n3 F hFN (cutP cj N) (by have := cutP_lt cj N (by omega); omega) TO hTN
              rw [Bool.or_eq_true, Bool.or_eq_true] at this
              rcases this with (h | h) | h
              · rw [beq_iff_eq] at h
                rw [h, hsR]
              · obtain ⟨x, hx, he⟩ := List.any_eq_true.1 h
                rw [beq_iff_eq] at he
                rw [← he, haR x hx]
              · obtain ⟨x, hx, he⟩ := List.any_eq_true.1 h
                rw [beq_iff_eq] at he
                rw [← he, hdR x hx]⟩
            clear hgR hcR hsR haR hdR HRJ cgb ogb
            have HQ4 := Lib.hid (HQ.out.jk kR)
            have HB4 := Lib.hid (HBX.out.jk kR)
            have HS4 := Lib.hid (HS.out.q (.jk (.refl _) kR))
            have HO4 : Hid (RowO W3 (wo.jk kR) u n v19 fl) := Lib.hid (ownsRow_q HO.out (.jk (.refl _) kR))
            have HF4 : Hid (∀ f ∈ fl, FmAt (wo.jk kR) n f) := Lib.hid (fun f hf => (HF.out f hf).q (.jk (.refl _) kR))
            clear HS HO HF
            clear HQ HBX
            obtain ⟨W4, e4⟩ : ∃ W4, wo.jk kR = W4 := ⟨_, rfl⟩
            rw [e4] at HRC HQ4 HB4 HS4 HO4 HF4 ⊢
            clear e4
            by_cases hlo : (j : Int) = lost
            · subst hlo
              have ccb : W4.cell? ⟨W0.heap.size, j, none⟩ = some (.slice (some ⟨gv, 0, none⟩) 12 cv) := (HQ4.out.below.cell (p := ⟨W0.heap.size, j, none⟩) OC.lt).trans CB.out
              have ocb : Old W0.heap.size W4 := ⟨Nat.lt_of_lt_of_le OC.lt HQ4.out.below.size⟩
              go_loopw [19, 23] (fun s19 s23 wr => s19 = v19 ∧ s23 = .int .i64 (0 : Nat) ∧ wr = W4) (fun _ _ _ => 0)
              case atStart => exact ⟨rfl, rfl, rfl⟩
              case round =>
                obtain ⟨rfl, rfl, rfl⟩ := hrel
                go_wp2_with fail
                go_roundw
                case rel => exact ⟨j + 1, by go_num, by omega, HQ4, .inr ⟨gs, cs, fl, HB4, HS4, HO4, HF4, HD⟩⟩
                case measure => simp [intOf]; omega
            · skip
              go_loopw [19, 23] (fun s19 s23 wr => ∃ (k gs cs : Nat), s19 = v19 ∧ s23 = .int .i64 k ∧ k ≤ 12 ∧ Hid (Q W3 wr) ∧ Hid (HB wr W3.heap.size #[.slice (some ⟨gs, 0, none⟩) 1 cs] 81) ∧ Hid (SrcAt wr gs F (seqK 11) (seenK 11)) ∧ Hid (RowO W3 wr u n v19 fl) ∧ Hid (∀ f ∈ fl, FmAt wr n f) ∧ Hid (RC gR TO wr)) (fun _ i _ => 12 - (intOf i).toNat)
              case atStart => exact ⟨0, gs, cs, rfl, rfl, by omega, HQ4, HB4, HS4, HO4, HF4, HRC⟩
              case round =>
                clear HQ4 HB4 HRC HS4 HO4 HF4
                obtain ⟨k, gs, cs, rfl, rfl, hk, HQ, HBX, HST, HO, HFM, HR⟩ := hrel
                obtain ⟨v19, rfl⟩ : ∃ v19, v19 = u19 := ⟨_, rfl⟩
                obtain ⟨wi, rfl⟩ : ∃ wi : World, wi = wr := ⟨_, rfl⟩
                have ccb : wi.cell? ⟨W0.heap.size, j, none⟩ = some (.slice (some ⟨gv, 0, none⟩) 12 cv) := (HQ.out.below.cell (p := ⟨W0.heap.size, j, none⟩) OC.lt).trans CB.out
                have ocb : Old W0.heap.size wi := ⟨Nat.lt_of_lt_of_le OC.lt HQ.out.below.size⟩
                have cgr : wi.cell? ⟨gR, TO, none⟩ = some (.bool true) := HR.out.2
                have ogr : Old gR wi := ⟨HR.out.1⟩
                have k0 : (0 : Int) ≤ (k : Int) := by omega
                by_cases hk1 : k < 12
                · have k1 : (k : Int) < 12 := by omega
                  obtain ⟨f, hf⟩ : ∃ f, l[k]? = some f := ⟨_, List.getElem?_eq_getElem (by rw [HL.out]; exact hk1)⟩
                  have hfm := List.mem_of_getElem? hf
                  obtain ⟨gk, hgk⟩ : ∃ gk, gsj[k]? = some gk := ⟨_, List.getElem?_eq_getElem (by rw [GL.out]; exact hk1)⟩
                  have HCK : Hid (HB wi gk (cellsN .u8 (cpF u F n mk k f)) 5) := Lib.hid ((CP.out k f gk hf hgk).q HQ.out)
                  have cgk : wi.cell? ⟨gv, k, none⟩ = some (.slice (some ⟨gk, 0, none⟩) M M) := (HQ.out.below.cell (p := ⟨gv, k, none⟩) OV.lt).trans (CV.out k gk hgk)
                  have ogk : Old gv wi := ⟨Nat.lt_of_lt_of_le OV.lt HQ.out.below.size⟩
                  have HX : Hid (f.xs.length = n ∧ f.qs.length = n) := Lib.hid (H.out.2.2 f hfm).2.2
                  have d0 := (HC.out f hfm).1
                  have d1 := (HC.out f hfm).2
                  have BXF := Lib.hid (BX.out f hfm)
                  have BQF := Lib.hid (BQ.out f hfm)
                  have HF := Lib.hid hf
                  clear hf hgk hfm
                  have ACC : Hid (∀ w', Q wi w' → Calls Tryd.prog 27 #[.agg #[.slice (some ⟨gs, 0, none⟩) 1 cs], .int .i64 (F : Int), .int .i64 (seqK k)] w' (RetState (F : Int) (seqK 11) (seenK 11) false w')) := Lib.hid (fun w' hq => accept_one gs cs (F : Int) (seqK 11) (seenK 11) (seqK k) (seqK 11) (seenK 11) false w' (HST.out.q hq) (by omega) (by omega) (seq_in k).1 (seq_in k).2 (Lib.hid fun w'' => take_oldK (F : Int) k hk1 w''))
                  clear HST
                  have cst := HBX.out.cell 0
                  have fst := HBX.out.soft 0
                  have ost := HBX.out.old
                  go_upto_region 26 with (first
                    | (go_at_call 26; (with_reducible refine (open_cp u F n mk net k f gk M _ HM.out (HCK.out.q (by repeat' (first | exact Q.refl _ | refine Q.alloc ?_ _ | refine Q.jk ?_ _ | refine Q.drew ?_))) HX.out.1 HX.out.2 n1 (by omega) (by omega) MK.out).mono ?_); rintro e w' ⟨gp, np, cp, rfl, ⟨kp, rfl⟩, hrp⟩)
                    | (go_at_call 27; (with_reducible refine (ACC.out _ (by repeat' (first | exact Q.refl _ | refine Q.alloc ?_ _ | refine Q.jk ?_ _ | refine Q.drew ?_))).mono ?_); rintro e w' ⟨gs', cs', rfl, ⟨ka, rfl⟩, hsr⟩)
                    | fail)
                  have hnp : np = 8 + 3 * n := by
                    have := hrp.len
                    rw [encL_len _ _ _ _ (by rw [HX.out.1, HX.out.2]), HX.out.1] at this
                    omega
                  subst hnp
                  refine wp_world (fun W5 e5 => ?_)
                  obtain ⟨Wp, ep⟩ : ∃ Wp, (((wi.jk kp).alloc (.cells #[Value.int .i64 (F : Int), Value.int .i64 (seqK k), Value.int .i64 net, Value.slice (some ⟨gp, 0, none⟩) (8 + 3 * n) cp] 84)).jk ka).alloc (.cells #[Value.slice (some ⟨gs', 0, none⟩) 1 cs'] 81) = Wp := ⟨_, rfl⟩
                  have e6 : W5 = Wp.setCell ⟨W3.heap.size, 0, none⟩ (.slice (some ⟨gs', 0, none⟩) 1 cs') := by rw [e5, ← ep]; simp [go_sem]
                  have hqp : Q wi Wp := by rw [← ep]; repeat' (first | exact Q.refl _ | refine Q.alloc ?_ _ | refine Q.jk ?_ _ | refine Q.drew ?_)
                  have hb5 := HBX.out.q hqp
                  have HQ5 : Hid (Q W3 W5) := Lib.hid (by rw [e6]; exact Q.setCell (HQ.out.trans hqp) (Nat.le_refl _) _)
                  have HB5 : Hid (HB W5 W3.heap.size #[.slice (some ⟨gs', 0, none⟩) 1 cs'] 81) := Lib.hid (by rw [e6]; exact hb5.set 0 _)
                  have HS5 : Hid (SrcAt W5 gs' F (seqK 11) (seenK 11)) := Lib.hid (by rw [e6]; exact SrcAt.set (hsr.q (by rw [← ep]; repeat' (first | exact Q.refl _ | refine Q.alloc ?_ _ | refine Q.jk ?_ _ | refine Q.drew ?_))) hb5)
                  have HO5 : Hid (RowO W3 W5 u n v19 fl) := Lib.hid (by rw [e6]; exact RowO.set (ownsRow_q HO.out hqp) hb5)
                  have HFM5 : Hid (∀ f ∈ fl, FmAt W5 n f) := Lib.hid (by rw [e6]; exact fun f hf => ((HFM.out f hf).q hqp).set hb5)
                  have HR5 : Hid (RC gR TO W5) := Lib.hid (by rw [e6]; exact (HR.out.q hqp).set hb5)
                  have HP5 : Hid (RdN W5 (some ⟨gp, 0, none⟩) (8 + 3 * n) cp .u8 (encL u f.c f.xs f.qs)) := Lib.hid (by rw [e6]; exact rdn_set (hrp.q (by rw [← ep]; repeat' (first | exact Q.refl _ | refine Q.alloc ?_ _ | refine Q.jk ?_ _ | refine Q.drew ?_))) (by omega) hb5)
                  obtain ⟨p24, ep24⟩ : ∃ p24, wi.heap.size + kp.os.size = p24 := ⟨_, rfl⟩
                  have HX5 : Hid (HB W5 p24 #[Value.int .i64 (F : Int), Value.int .i64 (seqK k), Value.int .i64 net, Value.slice (some ⟨gp, 0, none⟩) (8 + 3 * n) cp] 84) := Lib.hid (by
                    have h1 : HB Wp p24 #[Value.int .i64 (F : Int), Value.int .i64 (seqK k), Value.int .i64 net, Value.slice (some ⟨gp, 0, none⟩) (8 + 3 * n) cp] 84 := by
                      rw [← ep]
                      exact ((HB.new _ _ _ _ (by rw [← ep24, World.size_jk])).jk _).alloc _
                    rw [e6]
                    exact h1.other (hb_ne_type hb5 h1 (by decide)))
                  rw [ep24]
                  have hx5 := HX5.out.cell 3
                  have ox5 := HX5.out.old
                  clear e5 ep e6 hqp hb5 hrp hsr ACC HCK cst fst ost ccb ocb cgr ogr cgk ogk ep24
                  clear HQ HBX HO HFM HR
                  go_wp2_with fail
                  go_roundw
                  case rel => exact ⟨k + 1, gs', cs', rfl, by go_num, by omega, HQ5, HB5, HS5, HO5, HFM5, HR5⟩
                  case measure => simp [intOf]; omega
                · obtain rfl : k = 12 := by omega
                  go_wp2_with fail
                  go_roundw
                  case rel => exact ⟨j + 1, by go_num, by omega, HQ, .inr ⟨gs, cs, fl, HBX, HST, HO, HFM, HD⟩⟩
                  case measure => simp [intOf]; omega
        · obtain rfl : j = 2 := by omega
          rcases hcase with ⟨rfl, HJ, HBX⟩ | ⟨gs, cs, fl, HBX, HS, HO, HF, HD⟩
          · rcases HJ.out with h | ⟨h, _⟩ <;> omega
          · have hfl : fl.length = 12 := by
              have := congrArg List.length HD.out
              rw [List.length_map, List.length_map, HL.out] at this
              exact this
            obtain ⟨g', c', e, hfr⟩ := frAt_own HO.out HF.out (by rintro rfl; cases hfl)
            rw [hfl] at e
            obtain ⟨v19, rfl⟩ : ∃ v19, v19 = u19 := ⟨_, rfl⟩
            subst e
            go_wp2_with fail
            go_ret
            exact ⟨g', c', fl, rfl, HQ3.out.trans HQ.out, hfr, HD.out⟩
end Go.Proofs.YtfdpnephjpcnbaaDoor
