
/- BusBalances: the walk. -/
import Derived.Test.YtfdpnephjpcnbaaDoorBz42
import Derived.Deep.RegionLaw
set_option linter.unusedSimpArgs false
set_option linter.unusedVariables false
set_option linter.unusedVariables false
set_option linter.unusedSimpArgs false
namespace Go.Proofs.YtfdpnephjpcnbaaDoor
open Go.RowKit Go.Sub
@[go_sem ↓ high] theorem lvFeed (a : Addr) : loadVar 48 a = bigLoad 48 a := rfl
class Len16 (cs : Array Value) : Prop where
  eq : cs.size = 16
theorem infoFeed : (Tryd.prog.info? 48).map (·.size) = some 16 := by kernel_rfl
@[go_sem ↓ high] theorem rlFeed {w : World} {n : Nat} {cs : Array Value} {t : TypeId} {fr : Nat × Nat} [h : Blk w n (.cells cs t fr)] [hs : Len16 cs] :
    (bigLoad 48 ⟨n, 0, none⟩).run Tryd.prog w = .ok (.agg cs) w := run_bigLoad Tryd.underlying48 rfl (by rw [hs.eq]; exact infoFeed)
theorem rows_in {rows : List Ch} {L : List (List Int)} (h : rows.map Ch.l = L) (hL : ∀ l ∈ L, InB (-16383) 16383 l) : ∀ r ∈ rows, InB (-16383) 16383 r.l := fun r hr => hL _ (by rw [← h]; exact List.mem_map_of_mem hr)
theorem feeds_in (X : Nat → Nat → Int) (N : Nat) (M : List Int) (h : InB (-16383) 16383 M) : ∀ l ∈ feedL X N ++ [M], InB (-16383) 16383 l := by
  intro l hl
  rcases List.mem_append.1 hl with hl | hl
  · exact feedL_in X N l hl
  · rw [List.mem_singleton] at hl
    subst hl
    exact h
theorem feeds_len (X : Nat → Nat → Int) (N : Nat) (M : List Int) : (feedL X N ++ [M]).length = N + 1 := by simp [feedL]
/-- Operate of the currents of windows. -/
theorem oper_rows (rows : List Ch) (L : List (List Int)) (k : Nat) (g cap : Nat) (m n d : Int) (w : World) (hL : rows.map Ch.l = L) (hl : L.length = k) (k1 : 1 ≤ k) (k2 : k ≤ 16) (hb : ∀ l ∈ L, InB (-16383) 16383 l) (hr : RdC w g 0 (rows.map curOf)) (m0 : 1 ≤ m) (m1 : m ≤ 1638300) (d0 : 1 ≤ d) (d1 : d ≤ 100) (n0 : 0 ≤ n) (n1 : n ≤ d) (p : Bool) (hp : opB (L.map curL) m n d = p) :
    Calls Tryd.prog 14 #[.slice (some ⟨g, 0, none⟩) k cap, .int .i64 m, .int .i64 n, .int .i64 d] w fun e w' => e = .returned (.tuple #[.bool p, .int .i64 0]) ∧ Q w w' := by
  rw [curs_rows, hL] at hr
  have e : (L.map curL).length = k := by rw [List.length_map, hl]
  subst hp
  rw [← e] at k1 k2 ⊢
  exact doperate_c g 0 cap _ m n d w k1 k2 hr (curs_ok hb) m0 m1 d0 d1 n0 n1
theorem sum_rows (rows : List Ch) (L : List (List Int)) (k : Nat) (g cap : Nat) (w : World) (hL : rows.map Ch.l = L) (hl : L.length = k) (k1 : 1 ≤ k) (k2 : k ≤ 16) (hb : ∀ l ∈ L, InB (-16383) 16383 l) (hr : RdC w g 0 (rows.map curOf)) (c : Cy) (hc : sumW (L.map curL) = c) :
    Calls Tryd.prog 15 #[.slice (some ⟨g, 0, none⟩) k cap] w fun e w' => e = .returned (.tuple #[.agg #[.int .i64 c.a, .int .i64 c.b, .int .i64 c.c, .int .i64 c.d], .int .i64 0]) ∧ Q w w' := by
  rw [curs_rows, hL] at hr
  have e : (L.map curL).length = k := by rw [List.length_map, hl]
  subst hc
  rw [← e] at k1 k2 ⊢
  exact dsum_c g 0 cap _ w k1 k2 hr (curs_ok hb)
theorem meas_rows (x0 x1 x2 x3 : Int) (g ca : Nat) (L : List (List Int)) (k : Nat) (rows : List Ch) (w : World) (hr : RootsOK w) (h : ChAt w (some ⟨g, 0, none⟩) k ca rows) (hL : rows.map Ch.l = L) (k1 : 1 ≤ k) (k2 : k ≤ 16) (hb : ∀ l ∈ L, InB (-16383) 16383 l) :
    Calls Tryd.prog 13 #[.agg #[Value.int .i64 x0, Value.int .i64 x1, Value.int .i64 x2, Value.int .i64 x3], .slice (some ⟨g, 0, none⟩) k ca] w fun e w' => ∃ g cap, e = .returned (.tuple #[.slice (some ⟨g, 0, none⟩) k cap, .bool true]) ∧ Q w w' ∧ RdC w' g 0 (rows.map curOf) := by
  refine (measured_c x0 x1 x2 x3 _ k ca rows w hr h k1 (by omega) (rows_in hL hb)).mono ?_
  rintro e w' ⟨g, cap, rfl, h1, h2⟩
  rw [List.length_map, h.len]
  exact ⟨g, cap, rfl, h1, h2⟩
theorem RowR.made' (W0 w : World) {n : Nat} [h : Blk w n (.cells #[] 26)] (hb : W0.heap.size ≤ n) : RowR W0 w (.slice (some ⟨n, 0, none⟩) 0 0) [] :=
  ⟨rfl, .inr ⟨n, 0, #[], rfl, hb, h.eq, Nat.le_refl _, by decide, rfl, rfl⟩⟩
/-- What was known of other blocks is known of them behind. -/
def KeptB (v v' : Value) (w w' : World) : Prop := ∀ b cs t, HB w b cs t → v.ownBlock ≠ some b → HB w' b cs t ∧ v'.ownBlock ≠ some b
theorem step_app_rows {ops : Array Oper} {o : Oper} {a : Act} {w : World} {K : Act → World → Prop} {Q' : Exit → Act → World → Prop} {E : Prop} (hgd : o.guard = none) (s x : Operand)
    (ho : o.op = .call { callee := .builtin .append, args := #[s, x], argTypes := #[30, 30] }) (W0 : World) (v : Value) (rows m : List Ch) (mn g o' c : Nat)
    (hs : a.eval s = v) (hx : a.eval x = .slice (some ⟨g, o', none⟩) mn c) (hmn : m.length = mn) (hown : RowR W0 w v rows) (hm : ∀ k r, m[k]? = some r → w.cell? ⟨g, o' + k, none⟩ = some (chC r)) (hlen : rows.length + m.length < 1000000) (hQ : Q W0 w)
    (h : ∀ v' w', Q W0 w' → RowR W0 w' v' (rows ++ m) → KeptB v v' w w' → K (a.put o.dst v') w') :
    if Region.wanted o (yielded ops a.tmps) = true then Oper.wp Tryd.prog o a w K Q' else E := by
  have hw : Region.wanted o (yielded ops a.tmps) = true := by simp [Region.wanted, hgd]
  rw [if_pos hw]
  subst hmn
  obtain ⟨i, hi, hz, hs1, hb⟩ := infoRow
  obtain ⟨v', w', hr, h2, h3, _, h5⟩ := run_append_own_at (P := Tryd.prog) w W0.heap.size 30 o.type 26 i (.slice none 0 0) 1 24 Tryd.underlying30 hi hz hs1 hb rfl (by decide) v _ _ hown ⟨g, o', none⟩ m.length c (m.map chC) (by simp)
    (fun j u hj => by
      have e : (⟨g, o', none⟩ : Addr).add j = ⟨g, o' + j, none⟩ := by unfold Addr.add; split <;> simp_all
      rw [e]
      rw [List.getElem?_map] at hj
      cases hmj : m[j]? with
      | none => rw [hmj] at hj; cases hj
      | some r =>
        rw [hmj] at hj
        obtain rfl := Option.some.inj hj
        exact hm j r hmj)
    (fun u hu => by
      obtain ⟨r, _, rfl⟩ := List.mem_map.1 hu
      rfl) (by unfold maxLen; omega) (by omega) hQ.below.size
  unfold Oper.wp execOp
  simp only [ho, resolve, invoke, builtin, Sem.run_bind, Sem.run_pure, Result.andThen_ok, List.map_toArray, List.map_cons, List.map_nil, hs, hx, hr]
  refine h v' w' (grown_Q hQ h3 fun g hg => (hown.lt g hg).1) ?_ (fun b cs t hb hne => ⟨(h3.block b hb.lt (fun e => hne e.symm)).trans hb, ?_⟩)
  · unfold RowR
    rw [List.length_append, List.map_append]
    exact h2
  · rcases h5 with h5 | h5
    · rw [h5]; exact hne
    · rw [h5]
      intro e
      have := hb.lt
      have := Option.some.inj e
      omega
theorem step_app_one {ops : Array Oper} {o : Oper} {a : Act} {w : World} {K : Act → World → Prop} {Q' : Exit → Act → World → Prop} {E : Prop} (hgd : o.guard = none) (s x y : Operand)
    (ho : o.op = .call { callee := .builtin .append, args := #[s, x], argTypes := #[30, 30] }) (W0 : World) (v : Value) (rows : List Ch) (l : List Int) (b g c : Nat) (Z : Array Value)
    (hs : a.eval s = v) (hx : a.eval x = .slice (some ⟨g, 0, none⟩) 1 c) (hy : a.eval y = .slice (some ⟨b, 0, none⟩) 12 12) (hown : RowR W0 w v rows) (hg : w.cell? ⟨g, 0, none⟩ = some (.slice (some ⟨b, 0, none⟩) 12 12)) (hlen : rows.length < 100000) (hQ : Q W0 w) (hz : HB w b Z 3) (hne : v.ownBlock ≠ some b)
    (h : ∀ v' w', Q W0 w' → RowR W0 w' v' (rows ++ [⟨b, 12, l⟩]) → HB w' b Z 3 → v'.ownBlock ≠ some b → K (a.put o.dst v') w') :
    if Region.wanted o (yielded ops a.tmps) = true then Oper.wp Tryd.prog o a w K Q' else E :=
  step_app_rows hgd s x ho W0 v rows [⟨b, 12, l⟩] 1 g 0 c hs hx rfl hown (fun k r hk => by
    match k, hk with
    | 0, hk =>
      simp only [List.getElem?_cons_zero, Option.some.injEq] at hk
      subst hk
      exact hg) (by simp; omega) hQ fun v' w' h1 h2 h3 => h v' w' h1 h2 (h3 _ _ _ hz hne).1 (h3 _ _ _ hz hne).2
theorem take_cells {w : World} {g n c N : Nat} {rows : List Ch} (h : ChAt w (some ⟨g, 0, none⟩) n c rows) (hn : 0 < n) : ∀ k r, (rows.take N)[k]? = some r → w.cell? ⟨g, 0 + k, none⟩ = some (chC r) := by
  intro k r hk
  obtain ⟨_, _, e, _, hc⟩ := h.at_ hn
  cases e
  rw [List.getElem?_take] at hk
  split at hk
  · exact hc.out k r hk
  · cases hk
theorem RowR.q {W0 w w' : World} {v : Value} {rows : List Ch} (h : RowR W0 w v rows) (hq : Q w w') : RowR W0 w' v rows := ownsRow_q h hq
theorem row_val {W0 w : World} {v : Value} {rows : List Ch} (h : RowR W0 w v rows) (hn : rows ≠ []) : ∃ g c, v = .slice (some ⟨g, 0, none⟩) rows.length c := by
  have hl : 0 < rows.length := List.length_pos_iff.2 hn
  rcases h.2 with ⟨_, e⟩ | ⟨g, cap, cur, e, _⟩
  · omega
  · exact ⟨g, cap, e⟩
theorem RdV.other {w : World} {g b i n c size : Nat} {x : Value} {vs : List Value} (h : RdV w (some ⟨g, 0, none⟩) n c size vs) (hne : g ≠ b) : RdV (w.setCell ⟨b, i, none⟩ x) (some ⟨g, 0, none⟩) n c size vs := by
  refine ⟨h.1, h.2.1, fun hn => ?_, fun e => by cases e⟩
  obtain ⟨g', o, e, hg, hc⟩ := h.2.2.1 hn
  cases e
  refine ⟨g, 0, rfl, by rw [World.size_setCell]; exact hg, fun j u hj => ?_⟩
  rw [← hc j u hj]
  refine World.cell?_of_block (a := ⟨g, 0 + j, none⟩) ?_
  show (w.setCell ⟨b, i, none⟩ x).heap[g]? = w.heap[g]?
  simp [World.setCell, Array.getElem?_modify, Ne.symm hne]
/-- The world in which the faulty windows are made. -/
structure GS (WB W : World) (b7 gv cv N : Nat) (rt : List Ch) (L : List Int) : Prop where
  q : Q WB W
  hb : HB W b7 (cellsN .i64 L) 3
  hv : RdV W (some ⟨gv, 0, none⟩) (N + 1) cv 1 (rt.map chC ++ [Value.slice (some ⟨b7, 0, none⟩) 12 12])
  ge : WB.heap.size ≤ b7
  ne : gv ≠ b7
  l1 : L.length = 12
  l2 : rt.length = N
theorem GS.set {WB W : World} {b7 gv cv N : Nat} {rt : List Ch} {L : List Int} (h : GS WB W b7 gv cv N rt L) (k : Nat) (v : Int) : GS WB (W.setCell ⟨b7, k, none⟩ (.int .i64 v)) b7 gv cv N rt (L.set k v) :=
  ⟨h.q.setCell h.ge _, by rw [← cellsN_set]; exact h.hb.set k _, RdV.other h.hv h.ne, h.ge, h.ne, by rw [List.length_set]; exact h.l1, h.l2⟩
theorem GS.to {WB W W' : World} {b7 gv cv N : Nat} {rt : List Ch} {L : List Int} (h : GS WB W b7 gv cv N rt L) (hq : Q W W') : GS WB W' b7 gv cv N rt L :=
  ⟨h.q.trans hq, h.hb.q hq, h.hv.q hq, h.ge, h.ne, h.l1, h.l2⟩
theorem GS.cv {WB W : World} {b7 gv cv N : Nat} {rt : List Ch} {L : List Int} (h : GS WB W b7 gv cv N rt L) : W.cell? ⟨gv, N, none⟩ = some (.slice (some ⟨b7, 0, none⟩) 12 12) ∧ Old gv W := by
  obtain ⟨g, o, e, ho, hc⟩ := h.hv.at_ (by omega)
  cases e
  have := hc.out N (.slice (some ⟨b7, 0, none⟩) 12 12) (by rw [List.getElem?_append_right (by rw [List.length_map, h.l2]; exact Nat.le_refl _), List.length_map, h.l2, Nat.sub_self]; rfl)
  rw [Nat.zero_add] at this
  exact ⟨this, ho⟩
theorem GS.ch {WB W : World} {b7 gv cv N c g : Nat} {rows : List Ch} {L : List Int} (h : GS WB W b7 gv cv N (rows.take N) L) (hch : ChAt WB (some ⟨g, 0, none⟩) (N + 1) c rows) : ChAt W (some ⟨gv, 0, none⟩) (N + 1) cv (rows.take N ++ [⟨b7, 12, L⟩]) := by
  refine ⟨by rw [List.map_append]; exact h.hv, fun r hr => ?_⟩
  rcases List.mem_append.1 hr with hr | hr
  · exact (hch.2 r (List.mem_of_mem_take hr)).q h.q
  · rw [List.mem_singleton] at hr
    subst hr
    exact rdn_of_hb h.hb 12 h.l1.symm 12 (Nat.le_refl _)
theorem feed_take (X : Nat → Nat → Int) (N : Nat) (M M' : List Int) (b : Nat) {rows : List Ch} (h : rows.map Ch.l = feedL X N ++ [M]) : (rows.take N ++ [(⟨b, 12, M'⟩ : Ch)]).map Ch.l = feedL X N ++ [M'] := by
  rw [List.map_append, List.map_take, h, List.take_left' (by simp [feedL])]
  rfl
theorem feed_last (X : Nat → Nat → Int) (N : Nat) (M : List Int) {rows : List Ch} (h : rows.map Ch.l = feedL X N ++ [M]) : ∃ r, rows[N]? = some r ∧ r.l = M := by
  have e := congrArg (fun z => z[N]?) h
  have e2 : (feedL X N ++ [M])[N]? = some M := by
    rw [List.getElem?_append_right (by simp [feedL])]
    simp [feedL]
  simp only [e2, List.getElem?_map] at e
  cases hr : rows[N]? with
  | none => rw [hr] at e; cases e
  | some r => rw [hr] at e; exact ⟨r, rfl, Option.some.inj e⟩
theorem above_p (c : Cy) (m : Int) (w : World) (p : Bool) (hc : c.In 16777216) (h0 : 0 ≤ m) (h1 : m ≤ 16383) (hp : aboveB c m = p) :
    Calls Tryd.prog 17 #[.agg #[.int .i64 c.a, .int .i64 c.b, .int .i64 c.c, .int .i64 c.d], .int .i64 m] w fun e w' => e = .returned (.tuple #[.bool p, .int .i64 0]) ∧ Q w w' := by
  subst hp
  exact phabove_c c m w hc h0 h1
theorem harm_rows (g : Nat) (L : List Int) (w : World) (hr : RootsOK w) (h : RdN w (some ⟨g, 0, none⟩) 12 12 .i64 L) (hb : InB (-16383) 16383 L) (c : Cy) (hc : winH L = c) :
    Calls Tryd.prog 16 #[.slice (some ⟨g, 0, none⟩) 12 12, .int .i64 1] w fun e w' => e = .returned (.tuple #[.agg #[.int .i64 c.a, .int .i64 c.b, .int .i64 c.c, .int .i64 c.d], .int .i64 0]) ∧ Q w w' := by
  subst hc
  refine phharm_c 1 g 0 12 (fun j => L.getD j 0) w hr (fun j hj => ?_) (winOK_of hb)
  obtain ⟨_, _, e, _, hcc⟩ := h.at_ (by decide)
  cases e
  exact hcc.out j hj
set_option maxRecDepth 100000 in
set_option maxHeartbeats 8000000 in
theorem bal_walk (A : Option Addr) (n ca : Nat) (vs : List Value) (X : Nat → Nat → Int) (F : Nat → Int) (a b d : Int) (cs : Array Value) (x0 x1 x2 x3 : Int) (w : World) (hr : RootsOK w) (hs : cs.size = 16) (h0 : cs[0]? = some (.slice A n ca)) (hF : ∀ k, k < 12 → cs[1 + k]? = some (.int .i64 (F k)))
    (ha : cs[13]? = some (.int .i64 a)) (hb : cs[14]? = some (.int .i64 b)) (hd : cs[15]? = some (.int .i64 d)) (hA : RdV w A n ca 12 vs) (hX : ∀ i k, i < n → k < 12 → vs[i * 12 + k]? = some (.int .i64 (X i k))) (hn : n ≤ 9223372036854775807) :
    Calls Tryd.prog 4 #[.agg cs, .agg #[Value.int .i64 x0, Value.int .i64 x1, Value.int .i64 x2, Value.int .i64 x3]] w fun e w' => e = .returned (.bool true) ∧ Q w w' := by
  have HFD := Lib.hid fun (w' : World) (hq : Q w w') => feed_c cs A n ca vs X F w' h0 hF (hA.q hq) hX hn
  haveI : Len16 cs := ⟨hs⟩
  obtain ⟨N, hN⟩ : ∃ N, min n 5 = N := ⟨_, rfl⟩
  rw [hN] at HFD
  have N5 : N ≤ 5 := by omega
  clear hF hA hX h0 hs hN hn
  have a0 := Int.emod_nonneg a (show (5000 : Int) ≠ 0 by decide)
  have a1 := Int.emod_lt_of_pos a (show (0 : Int) < 5000 by decide)
  have d0 := Int.emod_nonneg d (show (100 : Int) ≠ 0 by decide)
  have d1 := Int.emod_lt_of_pos d (show (0 : Int) < 100 by decide)
  have b0 := Int.emod_nonneg b (show 1 + d % 100 + 1 ≠ 0 by omega)
  have b1 := Int.emod_lt_of_pos b (show 0 < 1 + d % 100 + 1 by omega)
  go_enter Tryd.func4, Tryd.ntmps4
  go_wp2_with (first
    | (go_at_call 12; (with_reducible refine (HFD.out _ (by repeat' (first | exact Q.refl _ | refine Q.alloc ?_ _ | refine Q.jk ?_ _ | refine Q.drew ?_))).mono ?_); rintro e w' ⟨g, c, rows, gf, rfl, ⟨kf, rfl⟩, hch, hrl, hrf⟩; have HCH := Lib.hid hch; have HRL := Lib.hid hrl; have HRF := Lib.hid hrf; clear hch hrl hrf)
    | (go_at_call 5; (with_reducible refine (tpwithin_any _ _ _ (by omega) (by omega)).mono ?_); rintro e w' ⟨rfl, rfl⟩)
    | (go_at_call 13; (with_reducible refine (meas_rows x0 x1 x2 x3 g c _ (N + 1) rows _ (by repeat' (first | with_reducible exact hr | refine RootsOK.alloc ?_ _ | refine RootsOK.jk ?_ _ | refine RootsOK.drew ?_)) (HCH.out.q (by repeat' (first | exact Q.refl _ | refine Q.alloc ?_ _ | refine Q.jk ?_ _ | refine Q.drew ?_))) HRL.out (by omega) (by omega) (feeds_in X N _ (restL_in X N N5))).mono ?_); rintro e w' ⟨gm, cm, rfl, ⟨km, rfl⟩, hrd⟩; have HRD := Lib.hid hrd; clear hrd)
    | (go_at_call 14; (with_reducible refine (oper_rows rows _ (N + 1) gm cm _ _ _ _ HRL.out (feeds_len X N _) (by omega) (by omega) (feeds_in X N _ (restL_in X N N5)) (HRD.out.q (by repeat' (first | exact Q.refl _ | refine Q.alloc ?_ _ | refine Q.jk ?_ _ | refine Q.drew ?_))) (by omega) (by omega) (by omega) (by omega) (by omega) (by omega) false (op_none (by omega) (bal_zero X N))).mono ?_); rintro e w' ⟨rfl, ko, rfl⟩)
    | fail)
  have hNc := HCH.out.1.2.1
  have hcell : Hid (∀ k r, rows[k]? = some r → (((((w.alloc (Obj.cells cs 48)).alloc (Obj.cells #[Value.int .i64 x0, Value.int .i64 x1, Value.int .i64 x2, Value.int .i64 x3] 23)).jk kf).jk km)).cell? ⟨g, 0 + k, none⟩ = some (chC r)) := Lib.hid (by
    obtain ⟨_, _, e, _, hc⟩ := (HCH.out.q (show Q _ (((((w.alloc (Obj.cells cs 48)).alloc (Obj.cells #[Value.int .i64 x0, Value.int .i64 x1, Value.int .i64 x2, Value.int .i64 x3] 23)).jk kf).jk km)) by repeat' (first | exact Q.refl _ | refine Q.alloc ?_ _ | refine Q.jk ?_ _ | refine Q.drew ?_))).at_ (by omega)
    cases e
    exact hc.out)
  have hmk := fun w' => make_int w' (12 : Int) 12 rfl (by omega)
  obtain ⟨Z, hZ⟩ : ∃ Z, cellsN .i64 (List.replicate 12 0) = Z := ⟨_, rfl⟩
  simp only [hZ] at hmk
  have HZ := Lib.hid hZ
  clear hZ
  have rl : rows.length = N + 1 := HCH.out.len
  have RL := Lib.hid rl
  clear rl
  have eN : ((N : Int) + 1 - 1) = (N : Int) := by omega
  have k0 : (0 : Int) ≤ (N : Int) := by omega
  have k5 : (N : Int) ≤ 5 := by omega
  have kc : (N : Int) ≤ (c : Int) := by omega
  have kn : N ≤ c := by omega
  have eW : IntKind.i64.wrap (N : Int) = (N : Int) := by
    have h : N = 0 ∨ N = 1 ∨ N = 2 ∨ N = 3 ∨ N = 4 ∨ N = 5 := by omega
    rcases h with rfl | rfl | rfl | rfl | rfl | rfl <;> rfl
  go_cut [14] (fun s14 wx => ∃ gv cv b7, s14 = .slice (some ⟨gv, 0, none⟩) (N + 1) cv ∧ Q ((((w.alloc (Obj.cells cs 48)).alloc (Obj.cells #[Value.int .i64 x0, Value.int .i64 x1, Value.int .i64 x2, Value.int .i64 x3] 23)).jk kf).jk km) wx ∧ (((((w.alloc (Obj.cells cs 48)).alloc (Obj.cells #[Value.int .i64 x0, Value.int .i64 x1, Value.int .i64 x2, Value.int .i64 x3] 23)).jk kf).jk km)).heap.size ≤ b7 ∧ gv ≠ b7 ∧ HB wx b7 Z 3 ∧ RowR ((((w.alloc (Obj.cells cs 48)).alloc (Obj.cells #[Value.int .i64 x0, Value.int .i64 x1, Value.int .i64 x2, Value.int .i64 x3] 23)).jk kf).jk km) wx (.slice (some ⟨gv, 0, none⟩) (N + 1) cv) (rows.take N ++ [⟨b7, 12, List.replicate 12 0⟩]))
  case first =>
    go_region_law (first
      | (refine step_app_rows rfl _ _ rfl ((((w.alloc (Obj.cells cs 48)).alloc (Obj.cells #[Value.int .i64 x0, Value.int .i64 x1, Value.int .i64 x2, Value.int .i64 x3] 23)).jk kf).jk km) _ [] (rows.take N) N g 0 c (by rfl) (by rfl) (by rw [List.length_take, RL.out]; omega) (RowR.made' _ _ (by simp only [World.size_jk, World.size_alloc]; omega)) (take_cells (HCH.out.q (by repeat' (first | exact Q.refl _ | refine Q.alloc ?_ _ | refine Q.jk ?_ _ | refine Q.drew ?_))) (by omega)) (by rw [List.length_take, RL.out]; simp only [List.length_nil]; omega) (by repeat' (first | exact Q.refl _ | refine Q.alloc ?_ _ | refine Q.jk ?_ _ | refine Q.drew ?_)) ?_; intro v1 w1 hq1 hr1 hk1)
      | (refine step_app_one rfl _ _ (.tmp 74) rfl ((((w.alloc (Obj.cells cs 48)).alloc (Obj.cells #[Value.int .i64 x0, Value.int .i64 x1, Value.int .i64 x2, Value.int .i64 x3] 23)).jk kf).jk km) _ (rows.take N) (List.replicate 12 0) _ _ _ Z (by rfl) (by rfl) (by rfl) (RowR.q hr1 (by repeat' (first | exact Q.refl _ | refine Q.alloc ?_ _ | refine Q.jk ?_ _ | refine Q.drew ?_))) ((HB.cell (cs := #[Value.slice (some ⟨_, 0, none⟩) 12 12]) (t := 26) (by (first | ((repeat' (first | (with_reducible refine HB.drew ?_) | (with_reducible refine HB.jk ?_ _) | ((with_reducible refine HB.new _ _ _ _ ?_); first | (with_reducible rfl) | (simp only [World.size_jk, World.size_alloc, World.size_drew]; done) | (simp [go_sem]; done)) | (with_reducible refine HB.alloc ?_ _))); done) | ((repeat (first | (with_reducible refine HB.drew ?_) | (with_reducible refine HB.jk ?_ _) | (with_reducible refine HB.alloc ?_ _))); (refine (hk1 _ _ _ ?_ ?_).1 <;> (first | ((repeat' (first | (with_reducible refine HB.drew ?_) | (with_reducible refine HB.jk ?_ _) | ((with_reducible refine HB.new _ _ _ _ ?_); first | (with_reducible rfl) | (simp only [World.size_jk, World.size_alloc, World.size_drew]; done) | (simp [go_sem]; done)) | (with_reducible refine HB.alloc ?_ _))); done) | (intro e; simp [Value.ownBlock] at e <;> omega))); done))) 0).trans rfl) (by rw [List.length_take, RL.out]; omega) (Q.trans hq1 (by repeat' (first | exact Q.refl _ | refine Q.alloc ?_ _ | refine Q.jk ?_ _ | refine Q.drew ?_))) (by (first | ((repeat' (first | (with_reducible refine HB.drew ?_) | (with_reducible refine HB.jk ?_ _) | ((with_reducible refine HB.new _ _ _ _ ?_); first | (with_reducible rfl) | (simp only [World.size_jk, World.size_alloc, World.size_drew]; done) | (simp [go_sem]; done)) | (with_reducible refine HB.alloc ?_ _))); done) | ((repeat (first | (with_reducible refine HB.drew ?_) | (with_reducible refine HB.jk ?_ _) | (with_reducible refine HB.alloc ?_ _))); (refine (hk1 _ _ _ ?_ ?_).1 <;> (first | ((repeat' (first | (with_reducible refine HB.drew ?_) | (with_reducible refine HB.jk ?_ _) | ((with_reducible refine HB.new _ _ _ _ ?_); first | (with_reducible rfl) | (simp only [World.size_jk, World.size_alloc, World.size_drew]; done) | (simp [go_sem]; done)) | (with_reducible refine HB.alloc ?_ _))); done) | (intro e; simp [Value.ownBlock] at e <;> omega))); done))) (by (first | ((refine (hk1 _ Z 3 ?_ ?_).2 <;> (first | ((repeat' (first | (with_reducible refine HB.drew ?_) | (with_reducible refine HB.jk ?_ _) | ((with_reducible refine HB.new _ _ _ _ ?_); first | (with_reducible rfl) | (simp only [World.size_jk, World.size_alloc, World.size_drew]; done) | (simp [go_sem]; done)) | (with_reducible refine HB.alloc ?_ _))); done) | (intro e; simp [Value.ownBlock] at e <;> omega))); done) | (intro e; have := (hr1.lt _ e).2; (try simp only [World.size_jk, World.size_alloc, World.size_drew] at this); omega))) ?_; intro v2 w2 hq2 hr2 hb2 hn2))
    all_goals (go_wp2_with fail)
    all_goals go_meet
    all_goals
      obtain ⟨gv, cv, e⟩ := row_val hr2 (by intro h; simp at h)
      rw [List.length_append, List.length_take, RL.out, show min N (N + 1) = N by omega] at e
      subst e
      have hsz := hq1.below.size
      simp only [World.size_jk, World.size_alloc, World.size_drew] at hsz
      refine ⟨gv, cv, _, rfl, hq2, ?_, ?_, hb2, hr2⟩
      · simp only [World.size_jk, World.size_alloc, World.size_drew]; omega
      · intro e; subst e; exact hn2 rfl
  case rest =>
  obtain ⟨gv, cv, b7, rfl, hq, hge, hne, hb7, hrow⟩ := hcut
  have HGS0 : Hid (GS ((((w.alloc (Obj.cells cs 48)).alloc (Obj.cells #[Value.int .i64 x0, Value.int .i64 x1, Value.int .i64 x2, Value.int .i64 x3] 23)).jk kf).jk km) wc b7 gv cv N (rows.take N) (sumM X F N 0)) := Lib.hid (by
    have hlen : (rows.take N ++ [(⟨b7, 12, List.replicate 12 0⟩ : Ch)]).length = N + 1 := by
      rw [List.length_append, List.length_take, RL.out, show min N (N + 1) = N by omega]
      rfl
    unfold RowR at hrow
    rw [hlen] at hrow
    obtain ⟨A', c', e, hv⟩ := rdv_of_own hrow (by rw [List.length_map, hlen, Nat.mul_one])
    cases e
    rw [List.map_append] at hv
    exact ⟨hq, by rw [sumM_zero, HZ.out]; exact hb7, hv, hge, hne, rfl, by rw [List.length_take, RL.out]; omega⟩)
  clear hq hge hne hb7 hrow hmk HZ hcell eW
  have HCW : Hid (ChAt ((((w.alloc (Obj.cells cs 48)).alloc (Obj.cells #[Value.int .i64 x0, Value.int .i64 x1, Value.int .i64 x2, Value.int .i64 x3] 23)).jk kf).jk km) (some ⟨g, 0, none⟩) (N + 1) c rows) := Lib.hid (HCH.out.q (by repeat' (first | exact Q.refl _ | refine Q.alloc ?_ _ | refine Q.jk ?_ _ | refine Q.drew ?_)))
  have HRW : Hid (RdN ((((w.alloc (Obj.cells cs 48)).alloc (Obj.cells #[Value.int .i64 x0, Value.int .i64 x1, Value.int .i64 x2, Value.int .i64 x3] 23)).jk kf).jk km) (some ⟨gf, 0, none⟩) 12 12 .i64 (faultM F 12)) := Lib.hid (HRF.out.q (by repeat' (first | exact Q.refl _ | refine Q.alloc ?_ _ | refine Q.jk ?_ _ | refine Q.drew ?_)))
  have HRO : Hid (RootsOK ((((w.alloc (Obj.cells cs 48)).alloc (Obj.cells #[Value.int .i64 x0, Value.int .i64 x1, Value.int .i64 x2, Value.int .i64 x3] 23)).jk kf).jk km)) := Lib.hid (by repeat' (first | with_reducible exact hr | refine RootsOK.alloc ?_ _ | refine RootsOK.jk ?_ _ | refine RootsOK.drew ?_))
  have HQB : Hid (Q w ((((w.alloc (Obj.cells cs 48)).alloc (Obj.cells #[Value.int .i64 x0, Value.int .i64 x1, Value.int .i64 x2, Value.int .i64 x3] 23)).jk kf).jk km)) := Lib.hid (by repeat' (first | exact Q.refl _ | refine Q.alloc ?_ _ | refine Q.jk ?_ _ | refine Q.drew ?_))
  have HX0 : Hid (HB ((((w.alloc (Obj.cells cs 48)).alloc (Obj.cells #[Value.int .i64 x0, Value.int .i64 x1, Value.int .i64 x2, Value.int .i64 x3] 23)).jk kf).jk km) (w.heap.size + 1) #[Value.int .i64 x0, Value.int .i64 x1, Value.int .i64 x2, Value.int .i64 x3] 23) := Lib.hid (((HB.new _ _ _ _ (by simp)).jk _).jk _)
  generalize ((((w.alloc (Obj.cells cs 48)).alloc (Obj.cells #[Value.int .i64 x0, Value.int .i64 x1, Value.int .i64 x2, Value.int .i64 x3] 23)).jk kf).jk km) = WB at HGS0 HCW HRW HRO HQB HX0
  clear HCH HRF HRD
  go_wp2_with fail
  go_loopw [15] (fun s15 wr => ∃ (k : Nat), s15 = .int .i64 k ∧ k ≤ 12 ∧ Hid (GS WB wr b7 gv cv N (rows.take N) (sumM X F N k))) (fun i _ => 12 - (intOf i).toNat)
  case atStart => exact ⟨0, rfl, Nat.zero_le _, HGS0⟩
  case round =>
    obtain ⟨k, rfl, hk, HGS⟩ := hrel
    by_cases hk1 : k < 12
    · obtain ⟨r, hr1, hr2⟩ := feed_last X N _ HRL.out
      obtain ⟨f1, o1⟩ := HGS.out.cv
      obtain ⟨_, _, e2, o2, c2⟩ := (HCW.out.q HGS.out.q).at_ (by omega)
      cases e2
      have f2 := c2.out N r hr1
      rw [Nat.zero_add] at f2
      unfold chC at f2
      have hw := (HCW.out.q HGS.out.q).win hr1
      have f3 := hw k hk1
      have o3 := hw.old
      obtain ⟨_, _, e4, o4, c4⟩ := (HRW.out.q HGS.out.q).at_ (by decide)
      cases e4
      have f4 := c4.out k hk1
      have f5 := HGS.out.hb.soft k
      have o5 := HGS.out.hb.old
      have f6 := (HGS.out.hb.cell k).trans (cellsN_at (by rw [HGS.out.l1]; exact hk1))
      generalize (sumM X F N k).getD k 0 = q6 at f6
      rw [Nat.zero_add] at f3 f4
      obtain ⟨y, hy⟩ : ∃ y, rsum X N k = y := ⟨_, rfl⟩
      obtain ⟨z, hz⟩ : ∃ z, wv (F k) = z := ⟨_, rfl⟩
      have y12 := rsum_bd X N k
      have z12 := wv_bd (F k)
      have e3 : r.l.getD k 0 = y := by rw [hr2]; unfold restL; rw [map12_getD _ _ hk1, hy]
      have e4 : (faultM F 12).getD k 0 = z := by unfold faultM; rw [map12_getD _ _ hk1, if_pos hk1, hz]
      change wr.cell? ⟨r.g, k, none⟩ = some (.int .i64 (r.l.getD k 0)) at f3
      rw [e3] at f3
      rw [e4] at f4
      rw [hy] at y12
      rw [hz] at z12
      obtain ⟨y1, y2⟩ := y12
      obtain ⟨z1, z2⟩ := z12
      have ES : Hid ((sumM X F N k).set k (y + z) = sumM X F N (k + 1)) := Lib.hid (by rw [← hy, ← hz]; exact sumM_set X F N k hk1)
      clear hw c2 c4 e3 e4 hy hz hr1 hr2
      have kk0 : (0 : Int) ≤ (k : Int) := by omega
      have kk1 : (k : Int) < 12 := by omega
      have nn : (N : Int) < (N : Int) + 1 := by omega
      go_wp2_with fail
      refine wp_region_tail 21 (by kernel_rfl) (by kernel_rfl) ?_
      simp only [List.take_succ_cons, List.take_zero, List.drop_succ_cons, List.drop_zero]
      repeat (go_big_quiet_step (fail))
      refine wpQuiet_nil ?_
      intro _ hw'
      obtain ⟨kq, rfl⟩ := hw'
      go_wp2_with fail
      go_roundw
      case rel =>
        refine ⟨k + 1, by go_num, by omega, Lib.hid ?_⟩
        rw [← ES.out]
        exact (HGS.out.set k _).to (.jk (.refl _) _)
      case measure => simp [intOf]; omega
    · obtain rfl : k = 12 := by omega
      obtain ⟨cf, hcf⟩ : ∃ cf, winH (faultM F 12) = cf := ⟨_, rfl⟩
      obtain ⟨p, hp⟩ : ∃ p, aboveB cf (1 + a % 5000) = p := ⟨_, rfl⟩
      have HCF := Lib.hid hcf
      have hin : cf.In 16777216 := by rw [← hcf]; exact (winH_in (faultM_in F)).mono (by decide)
      have HIN := Lib.hid hin
      have HP := Lib.hid hp
      clear hcf hp hin
      have HCV := Lib.hid (HGS.out.ch HCW.out)
      have HLV := Lib.hid (feed_take X N _ (sumM X F N 12) b7 HRL.out)
      have HRX := Lib.hid (HRW.out.q HGS.out.q)
      have hr' : RootsOK wr := HRO.out.q HGS.out.q
      have HQX := Lib.hid (Q.trans HQB.out HGS.out.q)
      have HX1 := Lib.hid (HX0.out.q HGS.out.q)
      have q0 := HX1.out.cell 0
      have q1 := HX1.out.cell 1
      have q2 := HX1.out.cell 2
      have q3 := HX1.out.cell 3
      have q4 := HX1.out.old
      simp only [List.getElem?_toArray, List.getElem?_cons_zero, List.getElem?_cons_succ] at q0 q1 q2 q3
      clear HGS HGS0 hr
      go_wp2_with (first
        | (go_at_call 13; (with_reducible refine (meas_rows x0 x1 x2 x3 gv cv _ (N + 1) _ _ (by repeat' (first | with_reducible exact hr' | refine RootsOK.alloc ?_ _ | refine RootsOK.jk ?_ _ | refine RootsOK.drew ?_)) (HCV.out.q (by repeat' (first | exact Q.refl _ | refine Q.alloc ?_ _ | refine Q.jk ?_ _ | refine Q.drew ?_))) HLV.out (by omega) (by omega) (feeds_in X N _ (sumM_in X F N N5))).mono ?_); rintro e w' ⟨gn, cn, rfl, ⟨kn', rfl⟩, hrd⟩; have HRE := Lib.hid hrd; clear hrd)
        | (go_at_call 15; (with_reducible refine (sum_rows _ _ (N + 1) gn cn _ HLV.out (feeds_len X N _) (by omega) (by omega) (feeds_in X N _ (sumM_in X F N N5)) (HRE.out.q (by repeat' (first | exact Q.refl _ | refine Q.alloc ?_ _ | refine Q.jk ?_ _ | refine Q.drew ?_))) cf ((bal_fault X F N).trans HCF.out)).mono ?_); rintro e w' ⟨rfl, kS, rfl⟩)
        | (go_at_call 16; (with_reducible refine (harm_rows gf _ _ (by repeat' (first | with_reducible exact hr' | refine RootsOK.alloc ?_ _ | refine RootsOK.jk ?_ _ | refine RootsOK.drew ?_)) (HRX.out.q (by repeat' (first | exact Q.refl _ | refine Q.alloc ?_ _ | refine Q.jk ?_ _ | refine Q.drew ?_))) (faultM_in F) cf HCF.out).mono ?_); rintro e w' ⟨rfl, kH, rfl⟩)
        | (go_at_call 14; (with_reducible refine (oper_rows _ _ (N + 1) gn cn _ _ _ _ HLV.out (feeds_len X N _) (by omega) (by omega) (feeds_in X N _ (sumM_in X F N N5)) (HRE.out.q (by repeat' (first | exact Q.refl _ | refine Q.alloc ?_ _ | refine Q.jk ?_ _ | refine Q.drew ?_))) (by omega) (by omega) (by omega) (by omega) (by omega) (by omega) p ((op_slope (by omega) (by omega) ((bal_fault X F N).trans HCF.out)).trans HP.out)).mono ?_); rintro e w' ⟨rfl, kO, rfl⟩)
        | (go_at_call 17; (with_reducible refine (above_p cf _ _ p HIN.out (by omega) (by omega) HP.out).mono ?_); rintro e w' ⟨rfl, kA, rfl⟩)
        | fail)
      go_ret
      refine ⟨rfl, ?_⟩
      repeat' (first | exact HQX.out | refine Q.alloc ?_ _ | refine Q.jk ?_ _ | refine Q.drew ?_)
end Go.Proofs.YtfdpnephjpcnbaaDoor
