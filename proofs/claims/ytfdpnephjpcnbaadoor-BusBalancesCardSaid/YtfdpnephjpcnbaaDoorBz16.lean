
/- Which nodes a frame reaches. -/
import Derived.Laws.EntriesVeiled
import Derived.Test.YtfdpnephjpcnbaaDoorBz15
set_option linter.unusedSimpArgs false
set_option linter.unusedVariables false
set_option linter.unusedVariables false
set_option linter.unusedSimpArgs false
namespace Go.Sub
open Go
def cellsB (l : List Bool) : Array Value := (l.map Value.bool).toArray
theorem cellsB_at {l : List Bool} {j : Nat} (h : j < l.length) : (cellsB l)[j]? = some (.bool (l.getD j false)) := by
  simp [cellsB, List.getD, h]
theorem cellsB_set (l : List Bool) (j : Nat) (d : Bool) : (cellsB l).setIfInBounds j (.bool d) = cellsB (l.set j d) := by
  simp [cellsB, List.map_set]
theorem madeCells_B (n : Nat) : madeCells (Value.bool false).cells n = cellsB (List.replicate n false) := by
  unfold madeCells cellsB
  apply Array.ext
  · simp
  · intro i h1 h2
    have e : i % 1 = 0 := Nat.mod_one i
    simp [Value.cells, e]
end Go.Sub
namespace Go.Proofs.YtfdpnephjpcnbaaDoor
open Go.RowKit Go.Sub Go.Shelf
attribute [local go_sem] Oper.semAt_some
theorem infoBool : ∃ i, Tryd.prog.info? 4 = some i ∧ i.zero = some (.bool false) ∧ i.size = 1 ∧ i.bytes = 1 := by
  have h : (Tryd.prog.info? 4).map (fun i => (i.zero, i.size, i.bytes)) = some (some (.bool false), 1, 1) := by kernel_rfl
  cases hi : Tryd.prog.info? 4 with
  | none => rw [hi] at h; cases h
  | some i =>
    rw [hi] at h
    simp only [Option.map_some, Option.some.injEq, Prod.mk.injEq] at h
    exact ⟨i, rfl, h.1, h.2.1, h.2.2⟩
theorem make_bool (w : World) (k : Int) (n : Nat) (hk : k = n) (hn : n < 1000000) :
    (Instr.makeSlice 65 (.int .i64 k) (.int .i64 k)).run Tryd.prog w = .ok (.slice (some ⟨w.heap.size, 0, none⟩) n n) (w.alloc (.cells (cellsB (List.replicate n false)) 4)) := by
  obtain ⟨i, hi, hz, hs1, hb⟩ := infoBool
  subst hk
  have := run_make (P := Tryd.prog) w 65 4 i (.bool false) Tryd.underlying65 hi hz .i64 .i64 n n (by omega) (Int.le_refl _) (by rw [hb]; omega) (by omega)
  rw [this, hs1]
  simp only [Int.toNat_natCast, Nat.mul_one]
  rw [madeCells_B]
theorem directions_c (w : World) : Calls Tryd.prog 47 #[] w fun e w' => e = .returned (.agg #[.func (.func 73) #[] #[], .func (.func 74) #[] #[]]) ∧ Q w w' := by
  go_enter Tryd.func47, Tryd.ntmps47
  go_wp2
  refine bodyPost_ret (v := .agg #[.func (.func 73) #[] #[], .func (.func 74) #[] #[]]) (by simp [results, Tryd.results47, go_sem]) rfl ⟨rfl, ?_⟩
  repeat' (first | exact Q.refl _ | refine Q.alloc ?_ _ | refine Q.jk ?_ _ | refine Q.drew ?_)
theorem ascending_c (A : Option Addr) (n c : Nat) (k : Int) (w : World) : Calls Tryd.prog 73 #[.agg #[.slice A n c], .int .i64 k] w fun e w' => e = .returned (.func (.func 91) #[] #[.pointer (some ⟨w.heap.size, 0, none⟩), .pointer (some ⟨w.heap.size + 1, 0, none⟩)]) ∧ (w.alloc (.cells #[.slice A n c] 67)).alloc (.cells #[.int .i64 k] 3) = w' := by
  go_enter Tryd.func73, Tryd.ntmps73
  go_wp2
  go_ret
  exact ⟨rfl, rfl⟩
theorem descending_c (A : Option Addr) (n c : Nat) (k : Int) (w : World) : Calls Tryd.prog 74 #[.agg #[.slice A n c], .int .i64 k] w fun e w' => e = .returned (.func (.func 92) #[] #[.pointer (some ⟨w.heap.size, 0, none⟩), .pointer (some ⟨w.heap.size + 1, 0, none⟩)]) ∧ (w.alloc (.cells #[.slice A n c] 67)).alloc (.cells #[.int .i64 k] 3) = w' := by
  go_enter Tryd.func74, Tryd.ntmps74
  go_wp2
  go_ret
  exact ⟨rfl, rfl⟩
/-- The nodes that are reached. -/
def RetReach (C : Nat → Bool) (n s : Nat) (w : World) (e : Ending) (w' : World) : Prop := ∃ (g : Nat) (f : Nat → Bool), e = .returned (.slice (some ⟨g, 0, none⟩) n n) ∧ Q w w' ∧ g < w'.heap.size ∧ (∀ j, j < n → w'.cell? ⟨g, j, none⟩ = some (.bool (f j))) ∧
  f s = true ∧ (∀ x ∈ ascL C n (n - 1) s, f x.1 = true) ∧ ∀ x ∈ descL C n (n - 1) s, f x.1 = true
theorem wpIn_world {F : Fence} {m : Nat} {P : Program} {c : Code} {R : Exit → Act → World → Prop} {a : Act} {w : World} (h : ∀ B, B = w → Code.wpIn F m P c R a B) : Code.wpIn F m P c R a w := h w rfl
/-- What holds between two rounds: the row of what has been reached, two boxes, the marks. -/
def RI (n r b5 b0 : Nat) (v0 : Value) (f0 : Nat → Bool) (w : World) (Ds : List Nat) (pre : List (NH n)) (W : World) : Prop :=
  ((∃ f : Nat → Bool, (∀ j, j < n → W.cell? ⟨r, j, none⟩ = some (.bool (f j)) ∧ W.frozen? ⟨r, j, none⟩ = false) ∧ (∀ j, f0 j = true → f j = true) ∧ ∀ x ∈ pre, f x.1.1 = true) ∧ W.cell? ⟨b5, 0, none⟩ = some (.slice (some ⟨r, 0, none⟩) n n) ∧ W.cell? ⟨b0, 0, none⟩ = some v0) ∧
  Below w.heap.size w W ∧ ∀ D ∈ Ds, W.heap[D]? = some (.deferred (some []))
theorem ri_own (n r b5 b0 : Nat) (v0 : Value) (f0 : Nat → Bool) (w : World) (Ds : List Nat) (B : Nat) (hB : w.heap.size ≤ B) (hD : ∀ D ∈ Ds, D < B) : OwnFrom B (RI n r b5 b0 v0 f0 w Ds) := by
  refine OwnFrom.and (Own.from (fun pre W W' row hs hg hr => ?_) _) (OwnFrom.and (ownFrom_below (Nat.le_refl _) hB) (fun pre W W' row hs hg hr D hDs => ?_))
  · obtain ⟨⟨f, hf, h0, h1⟩, h2, h3⟩ := hs
    exact ⟨⟨f, fun j hj => ⟨cell_kept (hf j hj).1 hg hr, (frozen_kept (hf j hj).1 hg hr).trans (hf j hj).2⟩, h0, h1⟩, cell_kept h2 hg hr, cell_kept h3 hg hr⟩
  · have h := hs D hDs
    exact (hg.block D (Array.getElem?_eq_some_iff.1 h).1 (fun e => by have := (hr D e.symm).1; have := hD D hDs; omega)).trans h
theorem RI.q {n r b5 b0 : Nat} {v0 : Value} {f0 : Nat → Bool} {w : World} {Ds : List Nat} {pre : List (NH n)} {W W' : World} (h : RI n r b5 b0 v0 f0 w Ds pre W) (hq : Q W W') : RI n r b5 b0 v0 f0 w Ds pre W' := by
  obtain ⟨⟨⟨f, hf, h0, h1⟩, h2, h3⟩, h4, h5⟩ := h
  have hb := hq.below
  have cl : ∀ {b i : Nat} {v : Value}, W.cell? ⟨b, i, none⟩ = some v → W'.cell? ⟨b, i, none⟩ = some v ∧ W'.frozen? ⟨b, i, none⟩ = W.frozen? ⟨b, i, none⟩ := fun {b i v} h => by
    obtain ⟨o, ho, _⟩ := cells_of_cell h
    have hlt := (Array.getElem?_eq_some_iff.1 ho).1
    exact ⟨(hb.cell (p := ⟨b, i, none⟩) hlt).trans h, hb.frozen (p := ⟨b, i, none⟩) hlt⟩
  refine ⟨⟨⟨f, fun j hj => ⟨(cl (hf j hj).1).1, (cl (hf j hj).1).2.trans (hf j hj).2⟩, h0, h1⟩, (cl h2).1, (cl h3).1⟩, h4.trans (hb.mono h4.size), fun D hD => ?_⟩
  have h := h5 D hD
  exact (hb.block D (Array.getElem?_eq_some_iff.1 h).1).trans h
theorem keptR_b {r : Nat} {w : World} (W : World) (l : Nat) (o o' : Obj) (hl : w.heap.size ≤ l) (h : W.heap[l]? = some o) (_ : o.isCells = false) (_ : o.isWalk = false) : KeptR w.heap.size r W (W.putObj l o') := fun b i hb _ =>
  World.cell?_of_block (w := W) (a := ⟨b, i, none⟩) (World.putObj_heap_other (fun e => by dsimp only at e; omega))
theorem RI.step {n r b5 b0 : Nat} {v0 : Value} {f0 : Nat → Bool} {w : World} {Ds : List Nat} {pre : List (NH n)} {W : World} (h : RI n r b5 b0 v0 f0 w Ds pre W) (x : NH n) (hr : w.heap.size ≤ r) (h5 : r ≠ b5) (h0 : r ≠ b0) :
    RI n r b5 b0 v0 f0 w Ds (pre ++ [x]) (W.setCell ⟨r, x.1.1, none⟩ (.bool true)) := by
  obtain ⟨⟨⟨f, hf, hf0, h1⟩, h2, h3⟩, h4, h5'⟩ := h
  refine ⟨⟨⟨fun j => if j = x.1.1 then true else f j, fun j hj => ⟨?_, ?_⟩, fun j hj => ?_, fun y hy => ?_⟩, ?_, ?_⟩, h4.setCell (p := ⟨r, x.1.1, none⟩) hr _, fun D hD => ?_⟩
  · by_cases e : j = x.1.1
    · subst e
      rw [World.cell?_setCell_same' _ _ _ (by rw [(hf _ hj).1]; rfl)]
      simp
    · rw [World.cell?_setCell_other _ _ _ _ (by simp [Ne.symm e]), (hf j hj).1]
      simp [e]
  · rw [World.frozen?_setCell]
    exact (hf j hj).2
  · dsimp only
    split
    · rfl
    · exact hf0 j hj
  · dsimp only
    split
    · rfl
    · rcases List.mem_append.1 hy with hy | hy
      · exact h1 y hy
      · rw [List.mem_singleton] at hy
        subst hy
        contradiction
  · rw [World.cell?_setCell_other _ _ _ _ (by simp [h5])]
    exact h2
  · rw [World.cell?_setCell_other _ _ _ _ (by simp [h0])]
    exact h3
  · have h := h5' D hD
    by_cases e : r = D
    · subst e
      have hc := (hf x.1.1 x.2).1
      obtain ⟨o, ho, hoc⟩ := cells_of_cell hc
      rw [h] at ho
      cases ho
      cases hoc
    · rw [← h]
      simp [World.setCell, Array.getElem?_modify, e]
set_option maxRecDepth 100000 in
set_option maxHeartbeats 2000000 in
theorem reached_c (g o n c : Nat) (C : Nat → Bool) (s : Nat) (w : World) (hc : ∀ i, i < n → w.cell? ⟨g, o + i, none⟩ = some (.bool (C i))) (hg : g < w.heap.size) (hs : s < n) (n1 : 3 ≤ n) (n2 : n ≤ 14) :
    Calls Tryd.prog 25 #[.agg #[.slice (some ⟨g, o, none⟩) n c], .int .i64 (s : Int)] w (RetReach C n s w) := by
  refine (callsIn_wide (n := 6)).1 ?_
  have HC := Lib.hid hc
  clear hc
  have hmk := fun w' => make_bool w' (n : Int) n rfl (by omega)
  have i0 : ∀ (w : World) (x y : Value), (Instr.index 119 (.agg #[x, y]) (.int .i64 0)).run Tryd.prog w = .ok x w := fun _ _ _ => by kernel_rfl
  have i1 : ∀ (w : World) (x y : Value), (Instr.index 119 (.agg #[x, y]) (.int .i64 1)).run Tryd.prog w = .ok y w := fun _ _ _ => by kernel_rfl
  refine callsIn_of_wp_marks Tryd.func25 rfl trivial ?_ rfl
  simp only [Tryd.ntmps25, List.size_toArray, List.length_cons, List.length_nil, Nat.reduceAdd, Nat.reduceSub, Array.replicate_succ, Array.replicate_zero, List.push_toArray, List.append_toArray, List.nil_append, List.cons_append]
  have hat : (cellsB (List.replicate n false))[s]? = some (.bool false) := by
    rw [cellsB_at (by simpa using hs)]
    simp [List.getD, hs]
  gi_wp2_with (first
    | (refine ⟨trivial, ?_⟩; gi_at_call 46; refine (callsIn_wide.2 (has_c _ _ _ _ _ n1 (by omega) (by omega) (by omega))).mono ?_; rintro e w' ⟨rfl, kh, rfl⟩)
    | (refine ⟨trivial, ?_⟩; gi_at_call 47; refine (callsIn_wide.2 (directions_c _)).mono ?_; rintro e w' ⟨rfl, kd, rfl⟩)
    | fail)
  rw [cellsB_set]
  clear hat hmk
  refine wpIn_loop_rounds 3 ?_
  rw [roundsIn_succ]
  gi_wp2_with (first
    | (refine ⟨trivial, ?_⟩; gi_at_call 73; refine (callsIn_wide.2 (ascending_c _ _ _ _ _)).mono ?_; rintro e w' ⟨rfl, rfl⟩)
    | fail)
  -- the first way
  refine wpIn_world fun W0 hW0 => ?_
  obtain ⟨p1, hp1e⟩ : ∃ p1, w.heap.size + 1 + kh.os.size + 1 + 1 + kd.os.size = p1 := ⟨_, rfl⟩
  obtain ⟨p2, hp2e⟩ : ∃ p2, p1 + 1 = p2 := ⟨_, rfl⟩
  have hsz : W0.heap.size = w.heap.size + 1 + kh.os.size + 1 + 1 + kd.os.size + 1 + 1 := by rw [hW0]; simp [World.size_jk]
  have hQ0 : Q w W0 := by rw [hW0]; (repeat' (first | exact Q.refl _ | refine Q.alloc ?_ _ | refine Q.jk ?_ _ | refine Q.drew ?_))
  have hrow : HB W0 (w.heap.size + 1 + kh.os.size) (cellsB ((List.replicate n false).set s true)) 4 := by rw [hW0]; (repeat' (first | (with_reducible refine HB.drew ?_) | (with_reducible refine HB.jk ?_ _) | ((with_reducible refine HB.new _ _ _ _ ?_); simp only [World.size_jk, World.size_alloc, World.size_drew]; done) | (with_reducible refine HB.alloc ?_ _)))
  have hb5 : HB W0 (w.heap.size + 1 + kh.os.size + 1) #[Value.slice (some ⟨w.heap.size + 1 + kh.os.size, 0, none⟩) n n] 65 := by rw [hW0]; (repeat' (first | (with_reducible refine HB.drew ?_) | (with_reducible refine HB.jk ?_ _) | ((with_reducible refine HB.new _ _ _ _ ?_); simp only [World.size_jk, World.size_alloc, World.size_drew]; done) | (with_reducible refine HB.alloc ?_ _)))
  have hb0 : HB W0 w.heap.size #[Value.slice (some ⟨g, o, none⟩) n c] 67 := by rw [hW0]; (repeat' (first | (with_reducible refine HB.drew ?_) | (with_reducible refine HB.jk ?_ _) | ((with_reducible refine HB.new _ _ _ _ ?_); simp only [World.size_jk, World.size_alloc, World.size_drew]; done) | (with_reducible refine HB.alloc ?_ _)))
  have hp1 : HB W0 (w.heap.size + 1 + kh.os.size + 1 + 1 + kd.os.size) #[Value.slice (some ⟨g, o, none⟩) n c] 67 := by rw [hW0]; (repeat' (first | (with_reducible refine HB.drew ?_) | (with_reducible refine HB.jk ?_ _) | ((with_reducible refine HB.new _ _ _ _ ?_); simp only [World.size_jk, World.size_alloc, World.size_drew]; done) | (with_reducible refine HB.alloc ?_ _)))
  have hp2 : HB W0 ((w.heap.size + 1 + kh.os.size + 1 + 1 + kd.os.size) + 1) #[Value.int .i64 (s : Int)] 3 := by rw [hW0]; (repeat' (first | (with_reducible refine HB.drew ?_) | (with_reducible refine HB.jk ?_ _) | ((with_reducible refine HB.new _ _ _ _ ?_); simp only [World.size_jk, World.size_alloc, World.size_drew]; done) | (with_reducible refine HB.alloc ?_ _)))
  clear hW0
  rw [hp1e] at hp1 hp2
  rw [hp2e] at hp2
  have hRW : RingW W0.heap.size (w.heap.size + 1 + kh.os.size) W0 p1 p2 g o n c C s := ⟨by omega, by omega, by omega, hp1.cell 0, hp2.cell 0, fun i hi => (hQ0.below.cell (p := ⟨g, o + i, none⟩) hg).trans (HC.out i hi)⟩
  have hRI : RI n (w.heap.size + 1 + kh.os.size) (w.heap.size + 1 + kh.os.size + 1) w.heap.size (Value.slice (some ⟨g, o, none⟩) n c) (fun j => j == s) w [] [] W0 := by
    refine ⟨⟨⟨fun j => j == s, fun j hj => ⟨?_, hrow.soft j⟩, fun j hj => hj, fun x hx => by cases hx⟩, hb5.cell 0, hb0.cell 0⟩, hQ0.below, fun D hD => by cases hD⟩
    rw [hrow.cell j, cellsB_at (by simpa using hj)]
    by_cases e : j = s
    · subst e
      simp [List.getD, hj]
    · simp [List.getD, List.getElem?_set, hj, e, Ne.symm e]
  rw [hp1e, hp2e]
  clear hrow hb5 hb0 hp1 hp2 hQ0
  refine wpIn_rangeFunc_ownF rfl (by decide) (gf := 91) (lb := #[.pointer (some ⟨p1, 0, none⟩), .pointer (some ⟨p2, 0, none⟩)]) rfl trivial (enters_of Tryd.func91 (by kernel_rfl) rfl)
    (asc_stops Fence.wide 5 trivial rfl (by decide) p1 p2 W0.heap.size (w.heap.size + 1 + kh.os.size) g o n c C s W0 (Nat.le_refl _) hRW hs n1 n2) (fun h k => h.trans k) keptR_b (Below.refl _ _) (fun _ => rfl)
    (RI n (w.heap.size + 1 + kh.os.size) (w.heap.size + 1 + kh.os.size + 1) w.heap.size (Value.slice (some ⟨g, o, none⟩) n c) (fun j => j == s) w []) (fun _ _ _ => False) (ri_own _ _ _ _ _ _ _ _ _ (by omega) (fun D hD => by cases hD)) (fun _ _ _ _ _ hs _ _ => hs) hRI
    (fun x => { tmps := #[.agg #[Value.slice (some ⟨g, o, none⟩) n c], .int .i64 (s : Int), .pointer (some ⟨w.heap.size, 0, none⟩), undef, .slice none 0 0, .pointer (some ⟨w.heap.size + 1 + kh.os.size + 1, 0, none⟩), undef, .func (.func 73) #[] #[], .int .i64 (x.1.1 : Int), .agg #[Value.slice (some ⟨g, o, none⟩) n c], .int .i64 (s : Int), .bool true, .bool false, .pointer (some ⟨w.heap.size, 0, none⟩), Value.slice (some ⟨g, o, none⟩) n c, .int .i64 (n : Int), .slice (some ⟨w.heap.size + 1 + kh.os.size, 0, none⟩) n n, .slice (some ⟨w.heap.size + 1 + kh.os.size, 0, none⟩) n n, .int .i64 (s : Int), .pointer (some ⟨w.heap.size + 1 + kh.os.size, s, none⟩), .agg #[.func (.func 73) #[] #[], .func (.func 74) #[] #[]], .int .i64 0, .bool true, .func (.func 73) #[] #[], .func (.func 73) #[] #[], .agg #[Value.slice (some ⟨g, o, none⟩) n c], .int .i64 (s : Int), .func (.func 91) #[] #[.pointer (some ⟨p1, 0, none⟩), .pointer (some ⟨p2, 0, none⟩)], .int .i64 (x.1.1 : Int), .int .i64 (x.1.2 : Int), undef, undef, undef, undef, undef], defers := [] }) ?assign ?body ?done ?stop
  case assign =>
    intro l x W K hK
    gi_wp2
    exact hK
  case body =>
    rintro l pre x W hri _
    have hri' := Lib.hid hri
    obtain ⟨⟨⟨f, hf, _, _⟩, h2, _⟩, _, _⟩ := hri
    have hc1 := (hf x.1.1 x.2).1
    have hc2 := (hf x.1.1 x.2).2
    have hx0 : (0 : Int) ≤ (x.1.1 : Int) := by omega
    have hx1 : (x.1.1 : Int) < (n : Int) := by have := x.2; omega
    clear hf
    gi_wp2
    exact ⟨KeepsOthers.setCell _ _ _, fun b i _ hb => World.cell?_setCell_other _ _ _ _ (by simp [Ne.symm hb]), hri'.out.step x (by omega) (by omega) (by omega)⟩
  case done =>
    rintro D xs W hD hxs hri hK
    have hK1 := Lib.hid hK
    obtain ⟨⟨⟨f, hf, hf0, hf1⟩, h2, hb0⟩, h4, _⟩ := hri
    have HF : Hid (f s = true ∧ ∀ x ∈ ascL C n (n - 1) s, f x.1 = true) := Lib.hid (by
      refine ⟨hf0 s (by simp), fun x hx => ?_⟩
      rw [← hxs] at hx
      obtain ⟨y, hy, rfl⟩ := List.mem_map.1 hx
      exact hf1 y hy)
    have hri1 : RI n (w.heap.size + 1 + kh.os.size) (w.heap.size + 1 + kh.os.size + 1) w.heap.size (Value.slice (some ⟨g, o, none⟩) n c) f w [D] [] W := ⟨⟨⟨f, hf, fun j h => h, fun x hx => by cases hx⟩, h2, hb0⟩, h4, fun D' hD' => by rw [List.mem_singleton] at hD'; subst hD'; exact hK⟩
    have HRI := Lib.hid hri1
    clear hK hxs hRI hRW hf hf0 hf1 h2 h4 hri1
    have hWs : w.heap.size + 1 + kh.os.size + 1 + 1 + kd.os.size + 1 + 1 ≤ W.heap.size := by
      have := (Array.getElem?_eq_some_iff.1 hK1.out).1
      omega
    gi_wp2
    rw [roundsIn_succ]
    gi_wp2_with (first
      | (refine ⟨trivial, ?_⟩; gi_at_call 74; refine (callsIn_wide.2 (descending_c _ _ _ _ _)).mono ?_; rintro e w' ⟨rfl, rfl⟩)
      | fail)
    clear hp1e hp2e
    refine wpIn_world fun W1 hW1 => ?_
    obtain ⟨q1, hp1e⟩ : ∃ p1, W.heap.size = p1 := ⟨_, rfl⟩
    obtain ⟨q2, hp2e⟩ : ∃ p2, q1 + 1 = p2 := ⟨_, rfl⟩
    have hsz1 : W1.heap.size = W.heap.size + 1 + 1 := by rw [hW1]; simp [World.size_jk]
    have hQ1 : Q W W1 := by rw [hW1]; (repeat' (first | exact Q.refl _ | refine Q.alloc ?_ _ | refine Q.jk ?_ _ | refine Q.drew ?_))
    have hp1 : HB W1 W.heap.size #[Value.slice (some ⟨g, o, none⟩) n c] 67 := by rw [hW1]; (repeat' (first | (with_reducible refine HB.drew ?_) | (with_reducible refine HB.jk ?_ _) | ((with_reducible refine HB.new _ _ _ _ ?_); simp only [World.size_jk, World.size_alloc, World.size_drew]; done) | (with_reducible refine HB.alloc ?_ _)))
    have hp2 : HB W1 (W.heap.size + 1) #[Value.int .i64 (s : Int)] 3 := by rw [hW1]; (repeat' (first | (with_reducible refine HB.drew ?_) | (with_reducible refine HB.jk ?_ _) | ((with_reducible refine HB.new _ _ _ _ ?_); simp only [World.size_jk, World.size_alloc, World.size_drew]; done) | (with_reducible refine HB.alloc ?_ _)))
    clear hW1
    have hRI1 := HRI.out.q hQ1
    have hb1 := hRI1.2.1
    have hRW1 : RingW W1.heap.size (w.heap.size + 1 + kh.os.size) W1 q1 q2 g o n c C s := ⟨by omega, by omega, by omega, by rw [← hp1e]; exact hp1.cell 0, by rw [← hp2e, ← hp1e]; exact hp2.cell 0, fun i hi => (hb1.cell (p := ⟨g, o + i, none⟩) hg).trans (HC.out i hi)⟩
    rw [hp1e, hp2e]
    clear hp1 hp2 hb1
    refine wpIn_rangeFunc_ownF rfl (by decide) (gf := 92) (lb := #[.pointer (some ⟨q1, 0, none⟩), .pointer (some ⟨q2, 0, none⟩)]) rfl trivial (enters_of Tryd.func92 (by kernel_rfl) rfl)
      (desc_stops Fence.wide 5 trivial rfl (by decide) q1 q2 W1.heap.size (w.heap.size + 1 + kh.os.size) g o n c C s W1 (Nat.le_refl _) hRW1 hs n1 n2) (fun h k => h.trans k) keptR_b (Below.refl _ _) (fun _ => rfl)
      (RI n (w.heap.size + 1 + kh.os.size) (w.heap.size + 1 + kh.os.size + 1) w.heap.size (Value.slice (some ⟨g, o, none⟩) n c) f w [D]) (fun _ _ _ => False) (ri_own _ _ _ _ _ _ _ _ _ (by omega) (fun D hD => by rw [List.mem_singleton] at hD; subst hD; have := (Array.getElem?_eq_some_iff.1 hK1.out).1; omega)) (fun _ _ _ _ _ hs _ _ => hs) hRI1
      (fun x => { tmps := #[.agg #[Value.slice (some ⟨g, o, none⟩) n c], .int .i64 (s : Int), .pointer (some ⟨w.heap.size, 0, none⟩), undef, .slice none 0 0, .pointer (some ⟨w.heap.size + 1 + kh.os.size + 1, 0, none⟩), undef, .func (.func 74) #[] #[], .int .i64 (x.1.1 : Int), .agg #[Value.slice (some ⟨g, o, none⟩) n c], .int .i64 (s : Int), .bool true, .bool false, .pointer (some ⟨w.heap.size, 0, none⟩), Value.slice (some ⟨g, o, none⟩) n c, .int .i64 (n : Int), .slice (some ⟨w.heap.size + 1 + kh.os.size, 0, none⟩) n n, .slice (some ⟨w.heap.size + 1 + kh.os.size, 0, none⟩) n n, .int .i64 (s : Int), .pointer (some ⟨w.heap.size + 1 + kh.os.size, s, none⟩), .agg #[.func (.func 73) #[] #[], .func (.func 74) #[] #[]], .int .i64 1, .bool true, .func (.func 74) #[] #[], .func (.func 74) #[] #[], .agg #[Value.slice (some ⟨g, o, none⟩) n c], .int .i64 (s : Int), .func (.func 92) #[] #[.pointer (some ⟨q1, 0, none⟩), .pointer (some ⟨q2, 0, none⟩)], .int .i64 (x.1.1 : Int), .int .i64 (x.1.2 : Int), undef, undef, undef, .int .i64 1, undef], defers := [] }) ?assign2 ?body2 ?done2 ?stop2
    case assign2 =>
      intro l x W K hK
      gi_wp2
      exact hK
    case body2 =>
      rintro l pre x W hri _
      have hri' := Lib.hid hri
      obtain ⟨⟨⟨f, hf, _, _⟩, h2, _⟩, _, _⟩ := hri
      have hc1 := (hf x.1.1 x.2).1
      have hc2 := (hf x.1.1 x.2).2
      have hx0 : (0 : Int) ≤ (x.1.1 : Int) := by omega
      have hx1 : (x.1.1 : Int) < (n : Int) := by have := x.2; omega
      clear hf
      gi_wp2
      exact ⟨KeepsOthers.setCell _ _ _, fun b i _ hb => World.cell?_setCell_other _ _ _ _ (by simp [Ne.symm hb]), hri'.out.step x (by omega) (by omega) (by omega)⟩
    case done2 =>
      rintro D2 ys W2 hD2 hys hri hK
      have hK2 := Lib.hid hK
      obtain ⟨⟨⟨f2, hf, hf0, hf1⟩, h2, hb0⟩, h4, hD1⟩ := hri
      have HF2 : Hid (f2 s = true ∧ (∀ x ∈ ascL C n (n - 1) s, f2 x.1 = true) ∧ ∀ x ∈ descL C n (n - 1) s, f2 x.1 = true) := Lib.hid (by
        refine ⟨hf0 s HF.out.1, fun x hx => hf0 _ (HF.out.2 x hx), fun x hx => ?_⟩
        rw [← hys] at hx
        obtain ⟨y, hy, rfl⟩ := List.mem_map.1 hx
        exact hf1 y hy)
      have HC2 := Lib.hid hf
      have H4 := Lib.hid h4
      have HD1 := Lib.hid (hD1 D (by simp))
      clear hK hys hRI1 hRW1 hf hf0 hf1 h4 hD1 HRI HF
      gi_wp2
      rw [roundsIn_succ]
      gi_wp2
      have hD0 : D < W.heap.size := (Array.getElem?_eq_some_iff.1 hK1.out).1
      have hne : D2 ≠ D := by omega
      have hD1' : (W2.putObj D2 (.deferred none)).heap[D]? = some (.deferred (some [])) := (World.putObj_heap_other (fun e => hne e.symm)).trans HD1.out
      refine ⟨by simp, .inl ⟨D2, _, rfl, run_takeDeferred hK2.out, ?_⟩⟩
      refine ⟨by simp, .inl ⟨D, _, rfl, run_takeDeferred hD1', ?_⟩⟩
      refine ⟨_, results_tmp rfl _ _ _, ?_⟩
      have hb3 : Below w.heap.size w ((W2.putObj D2 (.deferred none)).putObj D (.deferred none)) :=
        (H4.out.trans (belowK_b (w := w) (Nat.le_refl _) W2 D2 _ _ (by omega) hK2.out rfl rfl)).trans (belowK_b (w := w) (Nat.le_refl _) _ D _ _ (by omega) hD1' rfl rfl)
      have hcell : ∀ j, j < n → ((W2.putObj D2 (.deferred none)).putObj D (.deferred none)).cell? ⟨w.heap.size + 1 + kh.os.size, j, none⟩ = some (.bool (f2 j)) := fun j hj =>
        (World.cell?_of_block (World.putObj_heap_other (fun e => by dsimp only at e; omega))).trans ((World.cell?_of_block (World.putObj_heap_other (fun e => by dsimp only at e; omega))).trans (HC2.out j hj).1)
      refine ⟨_, f2, rfl, Q.of_below hb3, ?_, hcell, HF2.out⟩
      obtain ⟨oo, hoo, _⟩ := cells_of_cell (hcell s hs)
      exact (Array.getElem?_eq_some_iff.1 hoo).1
    case stop2 =>
      rintro D c pre W _ _ h _
      exact h.elim
  case stop =>
    rintro D c pre W _ _ h _
    exact h.elim
end Go.Proofs.YtfdpnephjpcnbaaDoor
