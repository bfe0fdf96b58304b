
/- What Channels of a case returns. -/
import Derived.Test.YtfdpnephjpcnbaaDoorBz08
import Derived.Test.YtfdpnephjpcnbaaDoorBz01
set_option linter.unusedSimpArgs false
set_option linter.unusedVariables false
set_option linter.unusedVariables false
set_option linter.unusedSimpArgs false
namespace Go.Proofs.YtfdpnephjpcnbaaDoor
open Go.RowKit Go.Sub
theorem own_apart {w : World} {base base' : Nat} {e e' : TypeId} {size size' n n' : Nat} {v u : Value} {xs ys : List Value} (h : w.ownsRow base e size v n xs) (h' : w.ownsRow base' e' size' u n' ys) (hne : e ≠ e') : Apart v u := by
  intro g hv hu
  rcases h.2 with ⟨rfl, _⟩ | ⟨g1, _, cur, rfl, _, hg, _⟩
  · simp [Value.ownBlock] at hv
  · rcases h'.2 with ⟨rfl, _⟩ | ⟨g2, _, cur', rfl, _, hg', _⟩
    · simp [Value.ownBlock] at hu
    · simp [Value.ownBlock] at hv hu
      subst hv
      subst hu
      rw [hg] at hg'
      injection hg' with hg'
      injection hg' with _ hg' _
      exact hne hg'
/-- A finished row. -/
def RowF (W0 w : World) (r : Ch) : Prop := w.ownsRow W0.heap.size 3 1 (chC r) 12 (r.l.map (Value.int .i64)) ∧ r.l.length = 12
theorem RowF.rd {W0 w : World} {r : Ch} (h : RowF W0 w r) : RdN w (some ⟨r.g, 0, none⟩) 12 r.cap .i64 r.l := by
  obtain ⟨A, c, e, hr⟩ := rdv_of_own h.1 (by simp [h.2])
  unfold chC at e
  cases e
  exact hr
theorem RowF.grown {W0 w w' : World} {v v' : Value} {r : Ch} (h : RowF W0 w r) (hg : Grown W0.heap.size v v' w w') (ha : Apart v (chC r)) : RowF W0 w' r ∧ Apart v' (chC r) :=
  ⟨⟨(hg _ _ _ _ _ h.1 ha).1, h.2⟩, (hg _ _ _ _ _ h.1 ha).2⟩
theorem RowF.q {W0 w w' : World} {r : Ch} (h : RowF W0 w r) (hq : Q w w') : RowF W0 w' r := ⟨ownsRow_q h.1 hq, h.2⟩
/-- The rows of which a slice of slices consists. -/
def RowR (W0 w : World) (v : Value) (rows : List Ch) : Prop := w.ownsRow W0.heap.size 26 1 v rows.length (rows.map chC)
theorem wpList_app_row {ops : Array Oper} {rest : List Oper} {o : Oper} {a : Act} {w : World} {Q' : Exit → Act → World → Prop} (hgd : o.guard = none) (s x : Operand)
    (ho : o.op = .call { callee := .builtin .append, args := #[s, x], argTypes := #[30, 30] }) (W0 : World) (v : Value) (rows : List Ch) (r : Ch) (g : Nat)
    (hs : a.eval s = v) (hx : a.eval x = .slice (some ⟨g, 0, none⟩) 1 1) (hown : RowR W0 w v rows) (hg : w.cell? ⟨g, 0, none⟩ = some (chC r)) (hlen : rows.length < 1000000) (hQ : Q W0 w)
    (h : ∀ v' kk, RowR W0 (W0.jk kk) v' (rows ++ [r]) → Grown W0.heap.size v v' w (W0.jk kk) → wpList Tryd.prog ops Q' rest (a.put o.dst v') (W0.jk kk)) : wpList Tryd.prog ops Q' (o :: rest) a w := by
  obtain ⟨i, hi, hz, hs1, hb⟩ := infoRow
  refine wpList_app hgd s x 30 ho W0 26 i (.slice none 0 0) 1 24 Tryd.underlying30 hi hz hs1 hb rfl (by decide) v _ _ hs hown ⟨g, 0, none⟩ 1 1 [chC r] hx rfl ?_ ?_ (by unfold maxLen; omega) (by omega) hQ ?_
  · intro j u hj
    match j, hj with
    | 0, hj => simp at hj; subst hj; simpa [Addr.add] using hg
  · intro u hu
    simp at hu
    subst hu
    rfl
  · intro v' kk h1 h2
    refine h v' kk ?_ h2
    unfold RowR
    simpa using h1
theorem chAt_own {W0 w : World} {v : Value} {rows : List Ch} (h : RowR W0 w v rows) (hf : ∀ r ∈ rows, RowF W0 w r) (hn : rows ≠ []) : ∃ g c, v = .slice (some ⟨g, 0, none⟩) rows.length c ∧ ChAt w (some ⟨g, 0, none⟩) rows.length c rows := by
  obtain ⟨A, c, rfl, hr⟩ := rdv_of_own h (by simp)
  have hl : 0 < rows.length := List.length_pos_iff.2 hn
  have hown := h
  rcases hown.2 with ⟨e, _⟩ | ⟨g, cap, cur, e, _⟩
  · injection e with _ _ e
    have := hr.2.1
    omega
  · cases e
    exact ⟨g, c, rfl, hr, fun r hrm => (hf r hrm).rd⟩
/-- What a sample is taken to be. -/
def smp (x : Int) : Int := x % 32767 - 16383
/-- The channels of a case. -/
def chanL (S : Nat → Nat → Int) : List (List Int) := (List.range 3).map fun i => (List.range 12).map fun k => smp (S i k)
/-- Channels, and nothing else. -/
def RetCh (n : Nat) (L : List (List Int)) (w : World) (e : Ending) (w' : World) : Prop := ∃ g c rows, e = .returned (.slice (some ⟨g, 0, none⟩) n c) ∧ Q w w' ∧ ChAt w' (some ⟨g, 0, none⟩) n c rows ∧ rows.map Ch.l = L
set_option maxRecDepth 100000 in
set_option maxHeartbeats 4000000 in
theorem channels_c (cs : Array Value) (S : Nat → Nat → Int) (w : World) (hS : ∀ i k, i < 3 → k < 12 → cs[2 + i * 12 + k]? = some (.int .i64 (S i k))) :
    Calls Tryd.prog 6 #[.agg cs] w (RetCh 3 (chanL S) w) := by
  have HS := Lib.hid hS
  clear hS
  go_enter Tryd.func6, Tryd.ntmps6
  go_wp2_with fail
  obtain ⟨W0, hW0⟩ : ∃ W0, w.alloc (.cells cs 28) = W0 := ⟨_, rfl⟩
  have hB : HB W0 w.heap.size cs 28 := by rw [← hW0]; exact HB.new _ _ _ _ rfl
  have hQw : Q w W0 := by rw [← hW0]; exact .alloc (.refl _) _
  rw [hW0]
  clear hW0
  have HB0 := Lib.hid hB
  have HQw := Lib.hid hQw
  clear hB hQw
  go_loopw [3, 4] (fun s3 s4 wr => ∃ (i : Nat) (rows : List Ch) (kk : Jk), s4 = .int .i64 i ∧ i ≤ 3 ∧ Hid (rows.length = i) ∧ wr = W0.jk kk ∧ Hid (RowR W0 (W0.jk kk) s3 rows) ∧ Hid (∀ r ∈ rows, RowF W0 (W0.jk kk) r) ∧ Hid (rows.map Ch.l = (List.range i).map fun i => (List.range 12).map fun k => smp (S i k))) (fun _ i _ => 3 - (intOf i).toNat)
  case atStart =>
    obtain ⟨kk, ek⟩ := Q.refl W0
    exact ⟨0, [], kk, rfl, by omega, Lib.hid rfl, ek, Lib.hid (World.ownsRow_nil _ _ _ _), Lib.hid (fun r hr => by cases hr), Lib.hid rfl⟩
  case round =>
    obtain ⟨i, rows, kk, rfl, hi, LR, rfl, HO, HF, HD⟩ := hrel
    by_cases hlt : i < 3
    · obtain ⟨v3, rfl⟩ : ∃ v3, v3 = u3 := ⟨_, rfl⟩
      have hD0 : (0 : Int) ≤ (i : Int) := by omega
      have hD1 : (i : Int) < 3 := by omega
      go_wp2_with fail
      go_loopw [5, 6] (fun s5 s6 wr => ∃ (k : Nat) (kx : Jk), s6 = .int .i64 k ∧ k ≤ 12 ∧ wr = W0.jk kx ∧ Hid (RowI W0 (W0.jk kx) s5 ((List.range k).map fun k => smp (S i k))) ∧ Hid (RowR W0 (W0.jk kx) v3 rows) ∧ Hid (∀ r ∈ rows, RowF W0 (W0.jk kx) r ∧ Apart s5 (chC r))) (fun _ k _ => 12 - (intOf k).toNat)
      case atStart => exact ⟨0, kk, rfl, by omega, rfl, Lib.hid (RowI.nil _ _), HO, Lib.hid (fun r hr => ⟨HF.out r hr, Apart.nil _⟩)⟩
      case round =>
        obtain ⟨k, kx, rfl, hk, rfl, HRI, HO', HF'⟩ := hrel
        by_cases hk1 : k < 12
        · have hcell := (HB0.out.q (Q.jk (Q.refl W0) kx)).cell (2 + i * 12 + k)
          rw [HS.out i k hlt hk1] at hcell
          have ho := (HB0.out.q (Q.jk (Q.refl W0) kx)).old
          have ho' := HB0.out.old
          have k0 : (0 : Int) ≤ (k : Int) := by omega
          have k2 : (k : Int) < 12 := by omega
          obtain ⟨x, ex⟩ : ∃ x, S i k = x := ⟨_, rfl⟩
          rw [ex] at hcell
          have EX := Lib.hid ex
          clear ex
          have m0 := Int.emod_nonneg x (show (32767 : Int) ≠ 0 by decide)
          have m1 := Int.emod_lt_of_pos x (show (0 : Int) < 32767 by decide)
          obtain ⟨v5, rfl⟩ : ∃ v5, v5 = u5 := ⟨_, rfl⟩
          go_wp2_with (first
            | (go_at_call 18; (with_reducible refine (l15within_any _ _ _ (by decide) (by decide)).mono ?_); rintro e w' ⟨rfl, rfl⟩)
            | (at_builtin; refine wpList_app_int rfl _ _ rfl W0 v5 ((List.range k).map fun k => smp (S i k)) (x % 32767 - 16383) _ rfl rfl (HRI.out.q (by repeat' (first | exact Q.refl _ | refine Q.alloc ?_ _ | refine Q.jk ?_ _ | refine Q.drew ?_))) (by simp [go_sem, World.size_jk]) (by simp; omega) (by repeat' (first | exact Q.refl _ | refine Q.alloc ?_ _ | refine Q.jk ?_ _ | refine Q.drew ?_)) ?_; intro v5' kx' hri hgr)
            | fail)
          go_roundw
          case rel =>
            refine ⟨k + 1, kx', by go_num, by omega, rfl, Lib.hid ?_, Lib.hid ?_, Lib.hid (fun r hr => ?_)⟩
            · rw [@List.range_succ k, List.map_append, List.map_cons, List.map_nil]
              unfold smp at hri ⊢
              rw [EX.out]
              exact hri
            · exact (hgr _ _ _ _ _ (ownsRow_q HO'.out (by repeat' (first | exact Q.refl _ | refine Q.alloc ?_ _ | refine Q.jk ?_ _ | refine Q.drew ?_))) (own_apart HRI.out HO'.out (by decide))).1
            · exact ((HF'.out r hr).1.q (by repeat' (first | exact Q.refl _ | refine Q.alloc ?_ _ | refine Q.jk ?_ _ | refine Q.drew ?_))).grown hgr (HF'.out r hr).2
          case measure => simp [intOf]; omega
        · obtain rfl : k = 12 := by omega
          obtain ⟨v5, rfl⟩ : ∃ v5, v5 = u5 := ⟨_, rfl⟩
          have hl12 : ((List.range 12).map fun k => smp (S i k)).length = 12 := by simp
          obtain ⟨gx, cx, e, hge, _⟩ := HRI.out.win (by intro h; have := congrArg List.length h; simp at this)
          rw [hl12] at e
          subst e
          have HRF : Hid (RowF W0 (W0.jk kx) ⟨gx, cx, (List.range 12).map fun k => smp (S i k)⟩) := Lib.hid ⟨by have := HRI.out; unfold RowI at this; rw [hl12] at this; exact this, hl12⟩
          clear hl12 hge
          go_wp2_with (first
            | (at_builtin; refine wpList_app_row rfl _ _ rfl W0 v3 rows ⟨gx, cx, (List.range 12).map fun k => smp (S i k)⟩ _ rfl rfl (ownsRow_q HO'.out (by repeat' (first | exact Q.refl _ | refine Q.alloc ?_ _ | refine Q.jk ?_ _ | refine Q.drew ?_))) (by simp [go_sem, World.size_jk, chC]) (by rw [LR.out]; omega) (by repeat' (first | exact Q.refl _ | refine Q.alloc ?_ _ | refine Q.jk ?_ _ | refine Q.drew ?_)) ?_; intro v3' kx' hro hgr)
            | fail)
          go_roundw
          case rel =>
            refine ⟨i + 1, rows ++ [⟨gx, cx, (List.range 12).map fun k => smp (S i k)⟩], kx', by go_num, by omega, Lib.hid (by rw [List.length_append, LR.out]; rfl), rfl, Lib.hid hro, Lib.hid (fun r hr => ?_), Lib.hid (by rw [List.map_append, HD.out, @List.range_succ i, List.map_append]; rfl)⟩
            rcases List.mem_append.1 hr with hr | hr
            · exact (((HF'.out r hr).1.q (by repeat' (first | exact Q.refl _ | refine Q.alloc ?_ _ | refine Q.jk ?_ _ | refine Q.drew ?_))).grown hgr (own_apart HO'.out (HF'.out r hr).1.1 (by decide))).1
            · rw [List.mem_singleton] at hr
              subst hr
              exact ((HRF.out.q (by repeat' (first | exact Q.refl _ | refine Q.alloc ?_ _ | refine Q.jk ?_ _ | refine Q.drew ?_))).grown hgr (own_apart HO'.out HRF.out.1 (by decide))).1
          case measure => simp [intOf]; omega
    · obtain rfl : i = 3 := by omega
      go_wp2_with fail
      go_ret
      obtain ⟨g, c, e, hch⟩ := chAt_own HO.out HF.out (by intro h; have := LR.out; rw [h] at this; simp at this)
      rw [LR.out] at e hch
      exact ⟨g, c, rows, by subst e; rfl, HQw.out.jk kk, hch, HD.out⟩
end Go.Proofs.YtfdpnephjpcnbaaDoor
