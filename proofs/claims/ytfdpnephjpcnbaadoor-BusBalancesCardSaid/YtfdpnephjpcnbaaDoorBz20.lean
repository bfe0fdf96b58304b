
/- What Open returns for a copy that Send has made. -/
import Derived.Test.YtfdpnephjpcnbaaDoorBz05
set_option linter.unusedSimpArgs false
set_option linter.unusedVariables false
set_option linter.unusedVariables false
set_option linter.unusedSimpArgs false
namespace Go.Proofs.YtfdpnephjpcnbaaDoor
open Go.RowKit Go.Sub
theorem net160 : netD.atKey (Lit.int .u8 160) (.lit (.int .i64 0)) = .lit (.int .i64 0) := by kernel_rfl
theorem net161 : netD.atKey (Lit.int .u8 161) (.lit (.int .i64 0)) = .lit (.int .i64 1) := by kernel_rfl
theorem lit_inj {a b : Int} (h : DataW.lit (H := Unit) (Lit.int .i64 a) = .lit (Lit.int .i64 b)) : a = b := by
  injection h with h
  injection h
theorem networks_l (w : World) (mark net : Int) (hmn : (mark = 160 ∧ net = 0) ∨ (mark = 161 ∧ net = 1)) : Calls Tryd.prog 45 #[] w fun e w' => e = .returned (.map (some w.heap.size)) ∧ ∃ k, w' = w.jk k ∧
    (Instr.lookup 115 (.map (some w.heap.size)) (.int .u8 mark) true).run Tryd.prog (w.jk k) = .ok (.tuple #[.int .i64 net, .bool true]) (w.jk k) := by
  refine (networks_c w).mono ?_
  rintro e w' ⟨rfl, ⟨k, rfl⟩, hm⟩
  refine ⟨rfl, k, rfl, ?_⟩
  have hz : (zeroValue 3).run Tryd.prog (w.jk k) = .ok (.int .i64 0) (w.jk k) := by kernel_rfl
  have hk : keyOf Tryd.prog 5 (.int .u8 mark) = some (Lit.int .u8 mark) := by
    rcases hmn with ⟨rfl, _⟩ | ⟨rfl, _⟩ <;> exact Maps.keyOf_int_mk Tryd.underlying5 (by decide)
  obtain ⟨v, ps, hrun, hv⟩ := World.ownsMap.look_ok (hm : World.ownsMap _ _ _ _ _ _ _) lawU8 Tryd.underlying115 hz (plainElem_int (a := 0) Tryd.underlying3 (by decide)) hk
  obtain ⟨c, rfl, hc, _⟩ := plainElem_int_inv Tryd.underlying3 hv
  have hc' := congrArg Prod.fst hc
  simp only at hc'
  rw [hrun]
  have h1 : Maps.has netD (Lit.int .u8 mark) = true := by
    rcases hmn with ⟨rfl, _⟩ | ⟨rfl, _⟩ <;> kernel_rfl
  have h2 : c = net := by
    rcases hmn with ⟨rfl, rfl⟩ | ⟨rfl, rfl⟩
    · exact (lit_inj ((net160).symm.trans hc')).symm
    · exact (lit_inj ((net161).symm.trans hc')).symm
  rw [h1, h2]
/-- append of a row of bytes onto nil, in a region that draws. -/
theorem step_app_nil {ops : Array Oper} {o : Oper} {a : Act} {w : World} {K : Act → World → Prop} {Q' : Exit → Act → World → Prop} {E : Prop} (hgd : o.guard = none) (s x : Operand)
    (ho : o.op = .call { callee := .builtin .append, args := #[s, x], argTypes := #[73, 73] }) (W0 : World) (g o' n c : Nat) (l : List Int)
    (hs : a.eval s = .slice none 0 0) (hx : a.eval x = .slice (some ⟨g, o', none⟩) n c) (hl : l.length = n) (hc : ∀ i, i < n → w.cell? ⟨g, o' + i, none⟩ = some (.int .u8 (l.getD i 0))) (n0 : 1 ≤ n) (n1 : n < 1000000) (hQ : Q W0 w)
    (h : ∀ g' c' kk, RdN (W0.jk kk) (some ⟨g', 0, none⟩) n c' .u8 l → W0.heap.size ≤ g' → K (a.put o.dst (.slice (some ⟨g', 0, none⟩) n c')) (W0.jk kk)) :
    if Region.wanted o (yielded ops a.tmps) = true then Oper.wp Tryd.prog o a w K Q' else E := by
  have hw : Region.wanted o (yielded ops a.tmps) = true := by simp [Region.wanted, hgd]
  rw [if_pos hw]
  obtain ⟨i, hi, hz, hs1, hb⟩ := infoU8
  obtain ⟨v', w', hr, h2, h3, _, h5⟩ := run_append_own_at (P := Tryd.prog) w W0.heap.size 73 o.type 5 i _ 1 1 Tryd.underlying73 hi hz hs1 hb rfl (by decide) (.slice none 0 0) 0 [] (World.ownsRow_nil _ _ _ _) ⟨g, o', none⟩ n c (l.map (Value.int .u8)) (by simp [hl])
    (fun j u hj => by
      rw [List.getElem?_map] at hj
      cases hlj : l[j]? with
      | none => rw [hlj] at hj; cases hj
      | some x =>
        rw [hlj] at hj
        cases hj
        have hjn : j < n := by rw [← hl]; exact (List.getElem?_eq_some_iff.1 hlj).1
        rw [addr_add0, hc j hjn, List.getD_eq_getElem?_getD, hlj]
        rfl)
    (one_ints .u8 l) (by unfold maxLen; omega) (by omega) hQ.below.size
  unfold Oper.wp execOp
  simp only [ho, resolve, invoke, builtin, Sem.run_bind, Sem.run_pure, Result.andThen_ok, List.map_toArray, List.map_cons, List.map_nil, hs, hx, hr]
  rw [List.nil_append, Nat.zero_add] at h2
  have hq := grown_Q hQ h3 (fun g hg => (h2.lt g (by simp [Value.ownBlock] at hg)).1)
  obtain ⟨kk, rfl⟩ := hq
  obtain ⟨A, c', rfl, hrd⟩ := rdv_of_own h2 (by simp [hl])
  have hrd' := hrd
  obtain ⟨g', og, rfl, hg', _⟩ := hrd.2.2.1 (by omega)
  have hlt := h2.lt
  rcases h2.2 with ⟨e, _⟩ | ⟨g1, cap, cur, e, hb1, _⟩
  · cases e
  · cases e
    exact h g' c' kk hrd' hb1
/-- A copy that has been opened. -/
def RetCopy (src seq net : Int) (l : List Int) (w : World) (e : Ending) (w' : World) : Prop := ∃ g n c, e = .returned (.tuple #[.agg #[.int .i64 src, .int .i64 seq, .int .i64 net, .slice (some ⟨g, 0, none⟩) n c], .int .i64 0]) ∧ Q w w' ∧ RdN w' (some ⟨g, 0, none⟩) n c .u8 l
theorem rdn_sub {w : World} {g o N c : Nat} {q : IntKind} {L : List Int} (h : RdN w (some ⟨g, o, none⟩) N c q L) (lo n' c' : Nat) (h1 : lo + n' ≤ N) (h2 : n' ≤ c') : RdN w (some ⟨g, o + lo, none⟩) n' c' q ((L.drop lo).take n') := by
  have := RdV.part h lo (lo + n') c' (by omega) h1 (by omega)
  rw [Nat.mul_one, Nat.add_sub_cancel_left, Nat.mul_one] at this
  unfold RdN
  rw [List.map_take, List.map_drop]
  exact this
set_option maxRecDepth 100000 in
set_option maxHeartbeats 2000000 in
theorem open_c (g o n ca : Nat) (l : List Int) (src seq mark net : Int) (w : World) (h : RdN w (some ⟨g, o, none⟩) (n + 8) ca .u8 (l ++ trl src seq mark n)) (hl : l.length = n) (n0 : 1 ≤ n) (n1 : n ≤ 1500) (s0 : 0 ≤ src) (s1 : src < 65536) (q0 : 0 ≤ seq) (q1 : seq < 65536)
    (hmn : (mark = 160 ∧ net = 0) ∨ (mark = 161 ∧ net = 1)) :
    Calls Tryd.prog 26 #[Value.slice (some ⟨g, o, none⟩) (n + 8) ca] w (RetCopy src seq net l w) := by
  have hcap : n + 8 ≤ ca := h.2.1
  have dr : ∀ j, (l ++ trl src seq mark n).drop (n + j) = (trl src seq mark n).drop j := by
    intro j
    rw [List.drop_append, List.drop_of_length_le (by omega), hl, Nat.add_sub_cancel_left, List.nil_append]
  have dr0 : (l ++ trl src seq mark n).drop n = trl src seq mark n := dr 0
  have P0 : Hid (∀ w', Q w w' → Calls Tryd.prog 48 #[Value.slice (some ⟨g, o + n, none⟩) 8 8] w' fun e w'' => e = .returned (Value.int .i64 src) ∧ Q w' w'') := Lib.hid fun w' hq =>
    pair_c _ 8 8 _ (src / 256) (src % 256) src w' ((rdn_sub h n 8 8 (by omega) (by omega)).q hq) (by omega) (by rw [dr0]; rfl) (by rw [dr0]; rfl) (by omega) (by omega) (by omega) (by omega) (be_split src s0 s1)
  have P2 : Hid (∀ w', Q w w' → Calls Tryd.prog 48 #[Value.slice (some ⟨g, o + n + 2, none⟩) 6 6] w' fun e w'' => e = .returned (Value.int .i64 seq) ∧ Q w' w'') := Lib.hid fun w' hq =>
    pair_c _ 6 6 _ (seq / 256) (seq % 256) seq w' (by have := (rdn_sub h (n + 2) 6 6 (by omega) (by omega)).q hq; rwa [← Nat.add_assoc] at this) (by omega) (by rw [dr 2]; rfl) (by rw [dr 2]; rfl) (by omega) (by omega) (by omega) (by omega) (be_split seq q0 q1)
  have P6 : Hid (∀ w', Q w w' → Calls Tryd.prog 48 #[Value.slice (some ⟨g, o + n + 6, none⟩) 2 2] w' fun e w'' => e = .returned (Value.int .i64 (n : Int)) ∧ Q w' w'') := Lib.hid fun w' hq =>
    pair_c _ 2 2 _ ((n : Int) / 256) ((n : Int) % 256) (n : Int) w' (by have := (rdn_sub h (n + 6) 2 2 (by omega) (by omega)).q hq; rwa [← Nat.add_assoc] at this) (by omega) (by rw [dr 6]; rfl) (by rw [dr 6]; rfl) (by omega) (by omega) (by omega) (by omega) (be_split (n : Int) (by omega) (by omega))
  obtain ⟨g', o', e, ho, hc⟩ := h.at_ (by omega)
  cases e
  have at8 : ∀ j, j < 8 → w.cell? ⟨g, o + n + j, none⟩ = some (.int .u8 ((trl src seq mark n).getD j 0)) := by
    intro j hj
    have := hc.out (n + j) (by omega)
    rw [← Nat.add_assoc] at this
    rw [this, List.getD_eq_getElem?_getD, List.getD_eq_getElem?_getD, List.getElem?_append_right (by omega), hl, Nat.add_sub_cancel_left]
  have c4 : w.cell? ⟨g, o + n + 4, none⟩ = some (.int .u8 mark) := at8 4 (by omega)
  have c5 : w.cell? ⟨g, o + n + 5, none⟩ = some (.int .u8 0) := at8 5 (by omega)
  have HC : Hid (∀ i, i < n → w.cell? ⟨g, o + i, none⟩ = some (.int .u8 (l.getD i 0))) := Lib.hid fun i hi => by
    rw [hc.out i (by omega), List.getD_eq_getElem?_getD, List.getD_eq_getElem?_getD, List.getElem?_append_left (by omega)]
  have HL := Lib.hid hl
  clear h hl at8 dr dr0 hc
  have E8 : n + 8 - n = 8 := by omega
  have hca1 : ¬ n + 8 = n := by omega
  go_enter Tryd.func26, Tryd.ntmps26
  go_wp2_with fail
  go_region_held3 (fun w' => w'.cell? ⟨g, o + n + 4, none⟩ = some (.int .u8 mark)) (simp [go_sem, *]) ((go_at_call 45; (with_reducible refine (networks_l _ mark net hmn).mono ?_); rintro e w' ⟨rfl, kn, rfl, hlk⟩; simp only [World.jk_drew, World.size_alloc, World.size_drew] at hlk))
  clear hlk
  have k1 : (n : Int) ≤ (ca : Int) := by omega
  have k2 : (0 : Int) ≤ (n : Int) := by omega
  have k3 : (n : Int) ≤ (n : Int) + 8 := by omega
  have k4 : n ≤ ca := by omega
  go_wp2_with (go_at_call 48; (with_reducible refine (P6.out _ (by repeat' (first | exact Q.refl _ | refine Q.alloc ?_ _ | refine Q.jk ?_ _ | refine Q.drew ?_))).mono ?_); rintro e w' ⟨rfl, kp, rfl⟩)
  go_region_held3 (fun _ => True) (trivial) (first
    | (go_at_call 48; (with_reducible refine (P0.out _ (by repeat' (first | exact Q.refl _ | refine Q.alloc ?_ _ | refine Q.jk ?_ _ | refine Q.drew ?_))).mono ?_); rintro e w' ⟨rfl, kq, rfl⟩)
    | (go_at_call 48; (with_reducible refine (P2.out _ (by repeat' (first | exact Q.refl _ | refine Q.alloc ?_ _ | refine Q.jk ?_ _ | refine Q.drew ?_))).mono ?_); rintro e w' ⟨rfl, kr, rfl⟩)
    | (refine step_app_nil rfl _ _ rfl (w.alloc (.cells #[Value.int .i64 0, Value.int .i64 0, Value.int .i64 0, Value.slice none 0 0] 84)) g o n n l rfl rfl HL.out (fun i hi => ((Q.below (w := w) (by repeat' (first | exact Q.refl _ | refine Q.alloc ?_ _ | refine Q.jk ?_ _ | refine Q.drew ?_))).cell (p := ⟨g, o + i, none⟩) ho.lt).trans (HC.out i hi)) n0 (by omega) (by repeat' (first | exact Q.refl _ | refine Q.alloc ?_ _ | refine Q.jk ?_ _ | refine Q.drew ?_)) ?_; intro g' c' kk hrd hge))
  have HRD := Lib.hid hrd
  clear hrd
  go_wp2_with fail
  refine bodyPost_ret (v := .tuple #[.agg #[.int .i64 src, .int .i64 seq, .int .i64 net, .slice (some ⟨g', 0, none⟩) n c'], .int .i64 0]) (by simp [results, Tryd.results26, go_sem]) rfl ?_
  refine ⟨g', n, c', rfl, ?_, ?_⟩
  · repeat' (first | exact Q.refl _ | refine Q.alloc ?_ _ | refine Q.jk ?_ _ | refine Q.drew ?_)
  · exact RdV.swap (W := w.alloc _) (W' := w.alloc _) (by simp) HRD.out (fun ad e => by cases e; exact hge)
end Go.Proofs.YtfdpnephjpcnbaaDoor
