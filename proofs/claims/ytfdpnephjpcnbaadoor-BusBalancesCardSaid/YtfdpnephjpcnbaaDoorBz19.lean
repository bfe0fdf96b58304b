
/- What Accept returns for a receiver that remembers no source, or this one alone. -/
import Derived.Test.YtfdpnephjpcnbaaDoorBz05
import Derived.Test.YtfdpnephjpcnbaaDoorBz18
set_option linter.unusedSimpArgs false
set_option linter.unusedVariables false
set_option linter.unusedVariables false
set_option linter.unusedSimpArgs false
namespace Go.Proofs.YtfdpnephjpcnbaaDoor
open Go.RowKit Go.Sub
/-- Block g holds what is remembered of a source. -/
def SrcAt (w : World) (g : Nat) (o t s : Int) : Prop := ∃ cur : Array Value, HB w g cur 128 ∧ cur[0]? = some (.int .i64 o) ∧ cur[1]? = some (.int .i64 t) ∧ cur[2]? = some (.int .u64 s)
theorem SrcAt.q {w w' : World} {g : Nat} {o t s : Int} (h : SrcAt w g o t s) (hq : Q w w') : SrcAt w' g o t s := by
  obtain ⟨cur, h, h0⟩ := h
  exact ⟨cur, h.q hq, h0⟩
theorem SrcAt.cells {w : World} {g : Nat} {o t s : Int} (h : SrcAt w g o t s) : w.cell? ⟨g, 0, none⟩ = some (.int .i64 o) ∧ w.cell? ⟨g, 1, none⟩ = some (.int .i64 t) ∧ w.cell? ⟨g, 2, none⟩ = some (.int .u64 s) := by
  obtain ⟨cur, h, h0, h1, h2⟩ := h
  exact ⟨(h.cell 0).trans h0, (h.cell 1).trans h1, (h.cell 2).trans h2⟩
theorem SrcAt.old {w : World} {g : Nat} {o t s : Int} (h : SrcAt w g o t s) : Old g w := by obtain ⟨cur, h, _⟩ := h; exact h.old
theorem SrcAt.soft {w : World} {g : Nat} {o t s : Int} (h : SrcAt w g o t s) (i : Nat) : w.frozen? ⟨g, i, none⟩ = false := by obtain ⟨cur, h, _⟩ := h; exact h.soft i
theorem SrcAt.swap {W W' : World} {k : Jk} {g : Nat} {o t s : Int} (hs : W.heap.size = W'.heap.size) (h : SrcAt (W.jk k) g o t s) (hf : W.heap.size ≤ g) : SrcAt (W'.jk k) g o t s := by
  obtain ⟨cur, h, h0⟩ := h
  refine ⟨cur, ?_, h0⟩
  have h' : (W.heap ++ k.os)[g]? = some (.cells cur 128) := h
  show (W'.heap ++ k.os)[g]? = some (.cells cur 128)
  rw [Array.getElem?_append, if_neg (by omega)] at h' ⊢
  rw [← hs]
  exact h'
def RetSrc (o t s : Int) (w : World) (e : Ending) (w' : World) : Prop := ∃ g c, e = .returned (.slice (some ⟨g, 0, none⟩) 1 c) ∧ w.heap.size ≤ g ∧ Q w w' ∧ SrcAt w' g o t s
def RetState (o t s : Int) (ok : Bool) (w : World) (e : Ending) (w' : World) : Prop := ∃ g c, e = .returned (.tuple #[.agg #[.slice (some ⟨g, 0, none⟩) 1 c], .bool ok]) ∧ Q w w' ∧ SrcAt w' g o t s
theorem infoSrc : ∃ i, Tryd.prog.info? 128 = some i ∧ i.zero = some (.agg #[.int .i64 0, .int .i64 0, .int .u64 0]) ∧ i.size = 3 ∧ i.bytes = 24 := by
  have h : (Tryd.prog.info? 128).map (fun i => (i.zero, i.size, i.bytes)) = some (some (.agg #[.int .i64 0, .int .i64 0, .int .u64 0]), 3, 24) := by kernel_rfl
  cases hi : Tryd.prog.info? 128 with
  | none => rw [hi] at h; cases h
  | some i =>
    rw [hi] at h
    simp only [Option.map_some, Option.some.injEq, Prod.mk.injEq] at h
    exact ⟨i, rfl, h.1, h.2.1, h.2.2⟩
theorem srcAt_own {w : World} {base g c : Nat} {o t s : Int} (h : w.ownsRow base 128 3 (.slice (some ⟨g, 0, none⟩) 1 c) 1 [.int .i64 o, .int .i64 t, .int .u64 s]) : SrcAt w g o t s := by
  rcases h.2 with ⟨e, _⟩ | ⟨g1, cap, cur, e, hb, hg, hc, _, hcs, htake⟩
  · cases e
  · cases e
    have ht : ∀ j, j < 3 → cur[j]? = [Value.int .i64 o, .int .i64 t, .int .u64 s][j]? := by
      intro j hj
      rw [← htake, List.getElem?_take, if_pos (by omega), Array.getElem?_toList]
    exact ⟨cur, hg, ht 0 (by omega), ht 1 (by omega), ht 2 (by omega)⟩
/-- append of one source onto a slice without elements of the call's own. -/
theorem wpList_app_src {ops : Array Oper} {rest : List Oper} {oo : Oper} {a : Act} {w : World} {Q' : Exit → Act → World → Prop} (hgd : oo.guard = none) (sx x : Operand)
    (ho : oo.op = .call { callee := .builtin .append, args := #[sx, x], argTypes := #[79, 79] }) (W0 : World) (v : Value) (g c : Nat) (o t s : Int)
    (hs : a.eval sx = v) (hx : a.eval x = .slice (some ⟨g, 0, none⟩) 1 c) (hown : w.ownsRow W0.heap.size 128 3 v 0 []) (c0 : w.cell? ⟨g, 0, none⟩ = some (.int .i64 o)) (c1 : w.cell? ⟨g, 1, none⟩ = some (.int .i64 t)) (c2 : w.cell? ⟨g, 2, none⟩ = some (.int .u64 s)) (hQ : Q W0 w)
    (h : ∀ g' c' kk, W0.heap.size ≤ g' → SrcAt (W0.jk kk) g' o t s → wpList Tryd.prog ops Q' rest (a.put oo.dst (.slice (some ⟨g', 0, none⟩) 1 c')) (W0.jk kk)) : wpList Tryd.prog ops Q' (oo :: rest) a w := by
  obtain ⟨i, hi, hz, hs1, hb⟩ := infoSrc
  refine wpList_app hgd sx x 79 ho W0 128 i _ 3 24 Tryd.underlying79 hi hz hs1 hb rfl (by decide) v 0 [] hs hown ⟨g, 0, none⟩ 1 c [.int .i64 o, .int .i64 t, .int .u64 s] hx rfl ?_ ?_ (by decide) (by decide) hQ ?_
  · intro j u hj
    rw [addr_add0, Nat.zero_add]
    match j, hj with
    | 0, hj => cases hj; exact c0
    | 1, hj => cases hj; exact c1
    | 2, hj => cases hj; exact c2
  · intro u hu
    simp only [List.mem_cons, List.mem_nil_iff, or_false] at hu
    rcases hu with rfl | rfl | rfl <;> rfl
  · intro v' kk hown' _
    rw [List.nil_append, Nat.zero_add] at hown'
    obtain ⟨g', c', rfl⟩ : ∃ g' c', v' = .slice (some ⟨g', 0, none⟩) 1 c' := by
      rcases hown'.2 with ⟨_, e⟩ | ⟨g1, cap, cur, e, _⟩
      · cases e
      · exact ⟨g1, cap, e⟩
    exact h g' c' kk (hown'.lt g' rfl).1 (srcAt_own hown')
theorem clone_nil (w : World) : Calls Tryd.prog 49 #[.slice none 0 0] w fun e w' => e = .returned (.slice none 0 0) ∧ Q w w' := by
  have hnil := fun (w : World) (a : Option Addr) (l c : Nat) => Lib.run_eql_slice_nil (P := Tryd.prog) w 79 128 a l c 0 0 Tryd.underlying79
  go_enter Tryd.func49, Tryd.ntmps49
  go_wp2
  go_ret
  exact ⟨rfl, Q.refl _⟩
set_option maxHeartbeats 1000000 in
theorem clone_one (g c : Nat) (o t s : Int) (w : World) (h : SrcAt w g o t s) : Calls Tryd.prog 49 #[.slice (some ⟨g, 0, none⟩) 1 c] w (RetSrc o t s w) := by
  obtain ⟨c0, c1, c2⟩ := h.cells
  have ho := h.old
  clear h
  have hnil := fun (w : World) (a : Option Addr) (l c : Nat) => Lib.run_eql_slice_nil (P := Tryd.prog) w 79 128 a l c 0 0 Tryd.underlying79
  go_enter Tryd.func49, Tryd.ntmps49
  go_wp2_with (at_builtin; refine wpList_app_src rfl _ _ rfl w _ g c o t s rfl rfl ⟨rfl, .inr ⟨w.heap.size, 0, #[], rfl, Nat.le_refl _, heap_alloc_new w _, Nat.le_refl _, by decide, rfl, rfl⟩⟩ (by simp [go_sem, *]) (by simp [go_sem, *]) (by simp [go_sem, *]) (by repeat' (first | exact Q.refl _ | refine Q.alloc ?_ _ | refine Q.jk ?_ _ | refine Q.drew ?_)) ?_; intro g' c' kk hge hs)
  go_ret
  exact ⟨g', c', rfl, hge, ⟨kk, rfl⟩, hs⟩
theorem idx_nil (f : Value) (w : World) : Calls Tryd.prog 50 #[.slice none 0 0, f] w fun e w' => e = .returned (.int .i64 (-1)) ∧ Q w w' := by
  go_enter Tryd.func50, Tryd.ntmps50
  go_wp2_with fail
  refine wp_loop_rounds 1 ?_
  rw [rounds_succ]
  go_wp2_with fail
  go_ret
  exact ⟨rfl, Q.refl _⟩
set_option maxHeartbeats 1000000 in
theorem same_src (o t s : Int) (p : Nat) (w : World) (hp : w.cell? ⟨p, 0, none⟩ = some (.int .i64 o)) (ho : Old p w) : Calls Tryd.prog 51 #[.agg #[.int .i64 o, .int .i64 t, .int .u64 s], .pointer (some ⟨p, 0, none⟩)] w fun e w' => e = .returned (.bool true) ∧ Q w w' := by
  go_enter Tryd.func51, Tryd.ntmps51
  go_wp2
  go_ret
  refine ⟨rfl, ?_⟩
  repeat' (first | exact Q.refl _ | refine Q.alloc ?_ _ | refine Q.jk ?_ _ | refine Q.drew ?_)
set_option maxHeartbeats 1000000 in
theorem idx_one (g c : Nat) (o t s : Int) (p : Nat) (w : World) (h : SrcAt w g o t s) (hp : w.cell? ⟨p, 0, none⟩ = some (.int .i64 o)) (hop : Old p w) : Calls Tryd.prog 50 #[.slice (some ⟨g, 0, none⟩) 1 c, .func (.func 51) #[] #[.pointer (some ⟨p, 0, none⟩)]] w fun e w' => e = .returned (.int .i64 0) ∧ Q w w' := by
  obtain ⟨c0, c1, c2⟩ := h.cells
  have ho := h.old
  clear h
  go_enter Tryd.func50, Tryd.ntmps50
  go_wp2_with fail
  refine wp_loop_rounds 1 ?_
  rw [rounds_succ]
  go_wp2_with (go_at_call 51; (with_reducible refine (same_src o t s p _ (by simp [go_sem, *]) (by infer_instance)).mono ?_); rintro e w' ⟨rfl, kj, rfl⟩)
  go_ret
  refine ⟨rfl, ?_⟩
  repeat' (first | exact Q.refl _ | refine Q.alloc ?_ _ | refine Q.jk ?_ _ | refine Q.drew ?_)
set_option maxHeartbeats 1000000 in
theorem insert_nil (g c : Nat) (o t s : Int) (w : World) (c0 : w.cell? ⟨g, 0, none⟩ = some (.int .i64 o)) (c1 : w.cell? ⟨g, 1, none⟩ = some (.int .i64 t)) (c2 : w.cell? ⟨g, 2, none⟩ = some (.int .u64 s)) (ho : Old g w) :
    Calls Tryd.prog 54 #[.slice none 0 0, .int .i64 0, .slice (some ⟨g, 0, none⟩) 1 c] w (RetSrc o t s w) := by
  go_enter Tryd.func54, Tryd.ntmps54
  go_wp2_with (at_builtin; refine wpList_app_src rfl _ _ rfl w _ g c o t s rfl rfl (World.ownsRow_nil _ _ _ _) c0 c1 c2 (by repeat' (first | exact Q.refl _ | refine Q.alloc ?_ _ | refine Q.jk ?_ _ | refine Q.drew ?_)) ?_; intro g' c' kk hge hs)
  go_ret
  exact ⟨g', c', rfl, hge, ⟨kk, rfl⟩, hs⟩
set_option maxRecDepth 100000 in
set_option maxHeartbeats 2000000 in
theorem accept_nil (src seq : Int) (w : World) (s0 : 0 ≤ src) (s1 : src < 65536) (q0 : 0 ≤ seq) (q1 : seq < 65536) :
    Calls Tryd.prog 27 #[.agg #[.slice none 0 0], .int .i64 src, .int .i64 seq] w (RetState src seq 1 true w) := by
  go_enter Tryd.func27, Tryd.ntmps27
  go_wp2_with (first
    | (go_at_call 49; (with_reducible refine (clone_nil _).mono ?_); rintro e w' ⟨rfl, k1, rfl⟩)
    | (go_at_call 50; (with_reducible refine (idx_nil _ _).mono ?_); rintro e w' ⟨rfl, k2, rfl⟩)
    | (go_at_call 54; refine (insert_nil _ _ src seq 1 _ (by simp [go_sem, World.size_jk]) (by simp [go_sem, World.size_jk]) (by simp [go_sem, World.size_jk]) (by infer_instance)).mono ?_; rintro e w' ⟨g', c', rfl, hge, ⟨k3, rfl⟩, hs⟩)
    | fail)
  have HS := Lib.hid hs
  have HG := Lib.hid hge
  clear hs hge
  refine bodyPost_ret (v := .tuple #[.agg #[.slice (some ⟨g', 0, none⟩) 1 c'], .bool true]) (by simp [results, Tryd.results27, go_sem]) rfl ?_
  refine ⟨g', c', rfl, ?_, SrcAt.swap (by simp [World.size_jk]) HS.out HG.out⟩
  repeat' (first | exact Q.refl _ | refine Q.alloc ?_ _ | refine Q.jk ?_ _ | refine Q.drew ?_)
set_option maxRecDepth 100000 in
set_option maxHeartbeats 2000000 in
theorem accept_one (g c : Nat) (src t s seq t' s' : Int) (ok : Bool) (w : World) (h : SrcAt w g src t s) (s0 : 0 ≤ src) (s1 : src < 65536) (q0 : 0 ≤ seq) (q1 : seq < 65536)
    (TK : Hid (∀ w', Calls Tryd.prog 52 #[.agg #[.int .i64 src, .int .i64 t, .int .u64 s], .int .i64 seq] w' fun e w'' => e = .returned (.tuple #[.agg #[.int .i64 src, .int .i64 t', .int .u64 s'], .bool ok]) ∧ Q w' w'')) :
    Calls Tryd.prog 27 #[.agg #[.slice (some ⟨g, 0, none⟩) 1 c], .int .i64 src, .int .i64 seq] w (RetState src t' s' ok w) := by
  have H := Lib.hid h
  clear h
  go_enter Tryd.func27, Tryd.ntmps27
  go_wp2_with (first
    | (go_at_call 49; (with_reducible refine (clone_one _ _ src t s _ (H.out.q (by repeat' (first | exact Q.refl _ | refine Q.alloc ?_ _ | refine Q.jk ?_ _ | refine Q.drew ?_)))).mono ?_); rintro e w' ⟨g', c', rfl, hge, ⟨k1, rfl⟩, hs⟩; obtain ⟨cur, hb, e0, e1, e2⟩ := hs; obtain ⟨ka, kb, ek, eg⟩ := jk_split hge hb; rw [ek]; clear ek hb hge; subst eg)
    | (go_at_call 50; (with_reducible refine (idx_one _ _ src t s _ _ ?_ ?_ ?_).mono ?_); (focus ((refine ⟨cur, ?_, e0, e1, e2⟩); (repeat' (first | (with_reducible refine HB.drew ?_) | (with_reducible refine HB.jk ?_ _) | ((with_reducible refine HB.new _ _ _ _ ?_); simp only [World.size_jk, World.size_alloc, World.size_drew]; done) | (with_reducible refine HB.alloc ?_ _))); done)); (focus (simp [go_sem, World.size_jk]; done)); (focus (infer_instance)); rintro e w' ⟨rfl, k2, rfl⟩)
    | (go_at_call 52; (with_reducible refine (TK.out _).mono ?_); rintro e w' ⟨rfl, k3, rfl⟩)
    | fail)
  have hsz := (Array.getElem?_eq_some_iff.1 e2).1
  refine bodyPost_ret (v := .tuple #[.agg #[.slice (some ⟨w.heap.size + 1 + 1 + 1 + ka.os.size, 0, none⟩) 1 c'], .bool ok]) (by simp [results, Tryd.results27, go_sem]) rfl ?_
  refine ⟨_, c', rfl, ?_, ⟨((cur.setIfInBounds 0 (.int .i64 src)).setIfInBounds 1 (.int .i64 t')).setIfInBounds 2 (.int .u64 s'), ?_, ?_, ?_, ?_⟩⟩
  · repeat' (first | exact Q.refl _ | refine Q.alloc ?_ _ | refine Q.jk ?_ _ | refine Q.drew ?_)
  · (repeat' (first | (with_reducible refine HB.drew ?_) | (with_reducible refine HB.jk ?_ _) | ((with_reducible refine HB.new _ _ _ _ ?_); simp only [World.size_jk, World.size_alloc, World.size_drew]; done) | (with_reducible refine HB.alloc ?_ _)))
  · rw [Array.getElem?_setIfInBounds, if_neg (by decide), Array.getElem?_setIfInBounds, if_neg (by decide), Array.getElem?_setIfInBounds, if_pos rfl, if_pos (by omega)]
  · rw [Array.getElem?_setIfInBounds, if_neg (by decide), Array.getElem?_setIfInBounds, if_pos rfl, if_pos (by simp; omega)]
  · rw [Array.getElem?_setIfInBounds, if_pos rfl, if_pos (by simp; omega)]
end Go.Proofs.YtfdpnephjpcnbaaDoor
