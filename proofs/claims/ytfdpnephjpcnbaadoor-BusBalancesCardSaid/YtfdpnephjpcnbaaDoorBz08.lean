
/- What SameInts and SameRows return where the numbers are the same. -/
import Derived.Test.YtfdpnephjpcnbaaDoorBz07
import Derived.Test.YtfdpnephjpcnbaaDoorBz05
set_option linter.unusedSimpArgs false
set_option linter.unusedVariables false
/- What Collect returns for the frames of a step. -/
set_option linter.unusedVariables false
set_option linter.unusedSimpArgs false
namespace Go.Sub
open Go
theorem frA_get (u : Int) (n : Nat) (l : List Fm) (k : Nat) (f : Fm) (h : l[k]? = some f) :
    (frA u n l)[k * 5]? = some (.int .i64 u) ∧ (frA u n l)[k * 5 + 1]? = some (.int .i64 f.c) ∧ (frA u n l)[k * 5 + 2]? = some (.bool true) ∧ (frA u n l)[k * 5 + 3]? = some (.slice (some ⟨f.a, 0, none⟩) n n) ∧ (frA u n l)[k * 5 + 4]? = some (.slice (some ⟨f.b, 0, none⟩) n n) := by
  have hk := (List.getElem?_eq_some_iff.1 h).1
  have e : ∀ j, j < 5 → (frA u n l)[k * 5 + j]? = (fmC u n f)[j]? := by
    intro j hj
    unfold frA
    rw [List.getElem?_toArray, List.getElem?_append_left (by rw [fmC_len]; omega)]
    exact fmC_get u n l k j f h hj
  exact ⟨e 0 (by decide), e 1 (by decide), e 2 (by decide), e 3 (by decide), e 4 (by decide)⟩
/-- The cells of rows of which the first are there. -/
def rowA (n : Nat) (rows : List Ch) : Array Value := (rows.map chC ++ List.replicate (n - rows.length) (Value.slice none 0 0)).toArray
theorem rowA_at (n : Nat) (rows : List Ch) (h : rows.length < n) : (rowA n rows)[rows.length]? = some (.slice none 0 0) := by
  unfold rowA
  rw [List.getElem?_toArray, List.getElem?_append_right (by simp), List.length_map, Nat.sub_self, List.getElem?_replicate, if_pos (by omega)]
theorem rowA_get (n : Nat) (rows : List Ch) (k : Nat) (r : Ch) (h : rows[k]? = some r) : (rowA n rows)[k]? = some (chC r) := by
  have hk := (List.getElem?_eq_some_iff.1 h).1
  unfold rowA
  rw [List.getElem?_toArray, List.getElem?_append_left (by simpa using hk), List.getElem?_map, h]
  rfl
theorem rowA_set (n : Nat) (rows : List Ch) (r : Ch) (h : rows.length < n) : (rowA n rows).setIfInBounds rows.length (chC r) = rowA n (rows ++ [r]) := by
  unfold rowA
  rw [List.setIfInBounds_toArray, List.set_append_right _ _ (by simp), List.length_map, Nat.sub_self, show n - rows.length = (n - (rows.length + 1)) + 1 by omega, List.replicate_succ, List.set_cons_zero, List.map_append, List.length_append]
  simp
theorem rowA_zero (n : Nat) : madeCells (Value.slice none 0 0).cells n = rowA n [] := by
  unfold madeCells rowA
  apply Array.ext
  · simp
  · intro i h1 h2
    have e : i % 1 = 0 := Nat.mod_one i
    simp [Value.cells, e]
/-- A column of the frames. -/
def colF (l : List Fm) (c : Nat) : List Int := l.map fun f => f.xs.getD c 0
end Go.Sub
namespace Go.Proofs.YtfdpnephjpcnbaaDoor
open Go.RowKit Go.Sub
theorem infoRow : ∃ i, Tryd.prog.info? 26 = some i ∧ i.zero = some (.slice none 0 0) ∧ i.size = 1 ∧ i.bytes = 24 := by
  have h : (Tryd.prog.info? 26).map (fun i => (i.zero, i.size, i.bytes)) = some (some (.slice none 0 0), 1, 24) := by kernel_rfl
  cases hi : Tryd.prog.info? 26 with
  | none => rw [hi] at h; cases h
  | some i =>
    rw [hi] at h
    simp only [Option.map_some, Option.some.injEq, Prod.mk.injEq] at h
    exact ⟨i, rfl, h.1, h.2.1, h.2.2⟩
theorem make_rows (w : World) (k : Int) (n : Nat) (hk : k = n) (hn : n < 1000000) :
    (Instr.makeSlice 30 (.int .i64 k) (.int .i64 k)).run Tryd.prog w = .ok (.slice (some ⟨w.heap.size, 0, none⟩) n n) (w.alloc (.cells (rowA n []) 26)) := by
  obtain ⟨i, hi, hz, hs1, hb⟩ := infoRow
  subst hk
  have := run_make (P := Tryd.prog) w 30 26 i (.slice none 0 0) Tryd.underlying30 hi hz .i64 .i64 n n (by omega) (Int.le_refl _) (by rw [hb]; omega) (by omega)
  rw [this, hs1]
  simp only [Int.toNat_natCast, Nat.mul_one]
  rw [rowA_zero]
/-- Rows that a call has made, and no error. -/
def RetRows (n : Nat) (L : List (List Int)) (w : World) (e : Ending) (w' : World) : Prop := ∃ g rows, e = .returned (.tuple #[.slice (some ⟨g, 0, none⟩) n n, .int .i64 0]) ∧ Q w w' ∧ ChAt w' (some ⟨g, 0, none⟩) n n rows ∧ rows.map Ch.l = L
attribute [local go_sem ↓] Go.wp_at_zero Go.wp_at_succ
set_option maxRecDepth 100000 in
set_option maxHeartbeats 8000000 in
theorem collect_c (u step : Int) (g n cap : Nat) (l : List Fm) (w : World) (h : FrAt w g u n l) (hl : l.length = 12) (n0 : 1 ≤ n) (n1 : n ≤ 8) (u0 : 0 ≤ u) (u1 : u ≤ 999) (s0 : 0 ≤ step) (s1 : step ≤ 1099511627776)
    (hc : ∀ (k : Nat) (f : Fm), l[k]? = some f → f.c = (12 * step + (k : Int)) % 600) (bx : ∀ f ∈ l, InB (-16383) 16383 f.xs) (bq : ∀ f ∈ l, ∀ j, f.qs.getD j 0 = 0) :
    Calls Tryd.prog 9 #[.slice (some ⟨g, 0, none⟩) 12 cap, .int .i64 u, .int .i64 step, .int .i64 (n : Int)] w (RetRows n ((List.range n).map (colF l)) w) := by
  have P := Lib.hid fun (w' : World) (hq : Q w w') => pick_c u step g n cap l w' (h.q hq) hl n0 n1 u0 u1 s0 s1 hc bx (fun f hf j _ => by rw [bq f hf j]; decide)
  have H := Lib.hid h
  have HL := Lib.hid hl
  have BQ := Lib.hid bq
  clear h hl hc bx bq
  have HSZ := Lib.hid (frA_size u n l (by rw [HL.out]; exact Nat.le_refl _))
  have hz := frA_zero u n
  have hsz0 := frA_size u n [] (by simp)
  have hsz := HSZ.out
  go_enter Tryd.func9, Tryd.ntmps9
  go_wp2_with (first
    | (go_at_call 19; (with_reducible refine (sbetween_ok _ _ _ _ (by omega) (by omega)).mono ?_); rintro e w' ⟨rfl, rfl⟩)
    | (go_at_call 29; (with_reducible refine (P.out _ (by repeat' (first | exact Q.refl _ | refine Q.alloc ?_ _ | refine Q.jk ?_ _ | refine Q.drew ?_))).mono ?_); rintro e w' ⟨rfl, kp, rfl⟩)
    | fail)
  clear hz hsz0 hsz
  go_loop [38] (fun i => ∃ k : Nat, k ≤ 12 ∧ i = .int .i64 k) (fun i => 12 - (intOf i).toNat)
  case atStart => exact ⟨0, by omega, rfl⟩
  case round =>
  obtain ⟨k, hk, rfl⟩ := hrel
  by_cases hlt : k < 12
  · obtain ⟨f, hf⟩ : ∃ f, l[k]? = some f := ⟨_, List.getElem?_eq_getElem (by rw [HL.out]; exact hlt)⟩
    obtain ⟨a0, a1, a2, a3, a4⟩ := frA_get u n l k f hf
    clear hf
    have k0 : (0 : Int) ≤ (k : Int) := by omega
    have k1 : (k : Int) < 12 := by omega
    go_wp2_with fail
    go_round
    case rel => exact ⟨k + 1, by omega, by go_num⟩
    case measure => simp [intOf]; omega
  obtain rfl : k = 12 := by omega
  clear hlt hk
  go_wp2_with fail
  go_loop [49] (fun i => ∃ k : Nat, k ≤ 12 ∧ i = .int .i64 k) (fun i => 12 - (intOf i).toNat)
  case atStart => exact ⟨0, by omega, rfl⟩
  case round =>
  obtain ⟨k, hk, rfl⟩ := hrel
  by_cases hlt : k < 12
  · obtain ⟨f, hf⟩ : ∃ f, l[k]? = some f := ⟨_, List.getElem?_eq_getElem (by rw [HL.out]; exact hlt)⟩
    obtain ⟨a0, a1, a2, a3, a4⟩ := frA_get u n l k f hf
    clear hf
    have k0 : (0 : Int) ≤ (k : Int) := by omega
    have k1 : (k : Int) < 12 := by omega
    go_wp2_with fail
    go_round
    case rel => exact ⟨k + 1, by omega, by go_num⟩
    case measure => simp [intOf]; omega
  obtain rfl : k = 12 := by omega
  clear hlt hk
  go_wp2_with fail
  go_loopw [60] (fun i wr => ∃ (k : Nat) (kx : Jk), i = .int .i64 k ∧ k ≤ 12 ∧ wr = ((w.jk kp).alloc (.cells (frA u n l) 91)).jk kx) (fun i _ => 12 - (intOf i).toNat)
  case atStart =>
    obtain ⟨kx, ek⟩ := Q.refl ((w.jk kp).alloc (.cells (frA u n l) 91))
    exact ⟨0, kx, rfl, by omega, ek⟩
  case round =>
  obtain ⟨k, kx, rfl, hk, rfl⟩ := hrel
  by_cases hlt : k < 12
  · obtain ⟨f, hf⟩ : ∃ f, l[k]? = some f := ⟨_, List.getElem?_eq_getElem (by rw [HL.out]; exact hlt)⟩
    have hfm := List.mem_of_getElem? hf
    obtain ⟨a0, a1, a2, a3, a4⟩ := frA_get u n l k f hf
    have HFA := Lib.hid (H.out.2.2 f hfm)
    have BQF := Lib.hid (BQ.out f hfm)
    clear hf hfm
    have k0 : (0 : Int) ≤ (k : Int) := by omega
    have k1 : (k : Int) < 12 := by omega
    go_wp2_with (go_at_call 30; (with_reducible refine (good_c u n f _ (HFA.out.q (by repeat' (first | exact Q.refl _ | refine Q.alloc ?_ _ | refine Q.jk ?_ _ | refine Q.drew ?_))) (fun j _ => BQF.out j) n1).mono ?_); rintro e w' ⟨rfl, kj, rfl⟩)
    go_roundw
    case rel =>
      rw [World.jk_jk]
      exact ⟨k + 1, _, by go_num, by omega, rfl⟩
    case measure => simp [intOf]; omega
  obtain rfl : k = 12 := by omega
  clear hlt hk
  have hmk := fun w' => make_rows w' (n : Int) n rfl (by omega)
  go_wp2_with fail
  clear hmk
  obtain ⟨W2, hW2⟩ : ∃ W2, ((w.jk kp).alloc (.cells (frA u n l) 91)).jk kx = W2 := ⟨_, rfl⟩
  obtain ⟨b, hb⟩ : ∃ b, w.heap.size + kp.os.size = b := ⟨_, rfl⟩
  obtain ⟨rb, hrb⟩ : ∃ rb, w.heap.size + kp.os.size + 1 + kx.os.size = rb := ⟨_, rfl⟩
  have hQ2 : Q w W2 := by rw [← hW2]; repeat' (first | exact Q.refl _ | refine Q.alloc ?_ _ | refine Q.jk ?_ _ | refine Q.drew ?_)
  have hFb : HB W2 b (frA u n l) 91 := by rw [← hW2, ← hb]; exact (HB.new _ _ _ _ (by simp [World.size_jk])).jk kx
  have hsz2 : W2.heap.size = rb := by rw [← hW2, ← hrb]; simp [World.size_jk]
  rw [hW2]
  rw [hrb]
  rw [hb]
  clear hW2 hb hrb
  have HQ2 := Lib.hid hQ2
  have HFB := Lib.hid hFb
  have HS2 := Lib.hid hsz2
  have hrow0 : HB (W2.alloc (.cells (rowA n []) 26)) rb (rowA n []) 26 := HB.new _ _ _ _ hsz2.symm
  clear hQ2 hFb hsz2
  go_loopw [73] (fun i wr => ∃ (c : Nat) (rows : List Ch), i = .int .i64 c ∧ c ≤ n ∧ Hid (rows.length = c) ∧ Hid (Q W2 wr) ∧ Hid (HB wr rb (rowA n rows) 26) ∧ Hid (∀ r ∈ rows, HB wr r.g (cellsN .i64 r.l) 3 ∧ r.cap = 12 ∧ r.l.length = 12) ∧ Hid (rows.map Ch.l = (List.range c).map (colF l))) (fun i _ => n - (intOf i).toNat)
  case atStart => exact ⟨0, [], rfl, Nat.zero_le _, Lib.hid rfl, Lib.hid (.alloc (.refl _) _), Lib.hid hrow0, Lib.hid (fun r hr => by cases hr), Lib.hid rfl⟩
  case round =>
  clear hrow0
  obtain ⟨c, rows, rfl, hc, LR, HQ, HR, HRS, HD⟩ := hrel
  by_cases hlt : c < n
  · have hmk := fun w' => make_int w' (12 : Int) 12 rfl (by omega)
    obtain ⟨wo, rfl⟩ : ∃ wo : World, wo = wr := ⟨_, rfl⟩
    have r1 : wo.cell? ⟨rb, c, none⟩ = some (.slice none 0 0) := (HR.out.cell c).trans (by have := rowA_at n rows (by rw [LR.out]; exact hlt); rw [LR.out] at this; exact this)
    have r2 := HR.out.soft c
    have o1 := HR.out.old
    obtain ⟨nb, hnb⟩ : ∃ nb, wo.heap.size = nb := ⟨_, rfl⟩
    go_wp2_with fail
    refine wp_world fun wn hn => ?_
    have hcl : (colF l c).length = 12 := by unfold colF; rw [List.length_map, HL.out]
    have h1 : HB wn nb (cellsN .i64 (fillS (colF l c) 0)) 3 := by rw [hn, fillS_zero, hcl]; exact HB.new _ _ _ _ (by simp [hnb])
    have h2 : HB wn rb (rowA n (rows ++ [⟨nb, 12, colF l c⟩])) 26 := by
      have hs := rowA_set n rows ⟨nb, 12, colF l c⟩ (by rw [LR.out]; exact hlt)
      rw [LR.out] at hs
      rw [hn, ← hs, ← hnb]
      exact (HR.out.set c _).alloc _
    have h3 : Q W2 wn := by rw [hn]; exact (HQ.out.setCell (by rw [HS2.out]; exact Nat.le_refl _) _).alloc _
    have h4 : ∀ r ∈ rows, HB wn r.g (cellsN .i64 r.l) 3 ∧ r.g ≠ nb := fun r hr => by
      have h := (HRS.out r hr).1
      refine ⟨?_, by have := h.lt; omega⟩
      rw [hn]
      exact (h.other (hb_ne_type HR.out h (by decide))).alloc _
    clear hn hmk r1 r2 o1
    have H1 := Lib.hid h1
    have H2 := Lib.hid h2
    have H3 := Lib.hid h3
    have H4 := Lib.hid h4
    have HCL := Lib.hid hcl
    have HNB := Lib.hid hnb
    clear h1 h2 h3 h4 hcl hnb
    go_loopw [80] (fun i wr => ∃ k : Nat, i = .int .i64 k ∧ k ≤ 12 ∧ Hid (Q W2 wr) ∧ Hid (HB wr nb (cellsN .i64 (fillS (colF l c) k)) 3) ∧ Hid (HB wr rb (rowA n (rows ++ [⟨nb, 12, colF l c⟩])) 26) ∧ Hid (∀ r ∈ rows, HB wr r.g (cellsN .i64 r.l) 3 ∧ r.g ≠ nb)) (fun i _ => 12 - (intOf i).toNat)
    case atStart => exact ⟨0, rfl, by omega, H3, H1, H2, H4⟩
    case round =>
      clear H1 H2 H3 H4
      obtain ⟨k, rfl, hk, H3, H1, H2, H4⟩ := hrel
      by_cases hk1 : k < 12
      · obtain ⟨f, hf⟩ : ∃ f, l[k]? = some f := ⟨_, List.getElem?_eq_getElem (by rw [HL.out]; exact hk1)⟩
        have hfm := List.mem_of_getElem? hf
        obtain ⟨_, _, _, a3, _⟩ := frA_get u n l k f hf
        have hfb := HFB.out.q H3.out
        have hfa := (H.out.2.2 f hfm).q (HQ2.out.trans H3.out)
        have F1 := (hfb.cell (k * 5 + 3)).trans a3
        have F2 := (hfa.1.cell c).trans (cellsN_at (by rw [hfa.2.2.1]; exact hlt))
        have F3 := (H2.out.cell c).trans (by
          have := rowA_get n (rows ++ [⟨nb, 12, colF l c⟩]) c ⟨nb, 12, colF l c⟩ (by rw [List.getElem?_append_right (Nat.le_of_eq LR.out), LR.out, Nat.sub_self]; rfl)
          exact this)
        unfold chC at F3
        dsimp only at F3
        have hs1 := Lib.hid (fillS_step (colF l c) k (by rw [HCL.out]; exact hk1))
        have hgx : Hid ((colF l c).getD k 0 = f.xs.getD c 0) := Lib.hid (by
          unfold colF
          rw [List.getD_eq_getElem?_getD, List.getElem?_map, hf]
          rfl)
        have l1 := fillS_len (colF l c) k (by rw [HCL.out]; exact hk)
        have F4 := (H1.out.cell k).trans (cellsN_at (by rw [l1, HCL.out]; exact hk1))
        have F5 := H1.out.soft k
        obtain ⟨x, ex⟩ : ∃ x, f.xs.getD c 0 = x := ⟨_, rfl⟩
        rw [ex] at F2 hgx
        have hs2 : Hid ((fillS (colF l c) k).set k x = fillS (colF l c) (k + 1)) := Lib.hid (by rw [← hgx.out]; exact hs1.out)
        have o1 := hfb.old
        have o2 := hfa.1.old
        have o3 := H2.out.old
        have o4 := H1.out.old
        clear hf hfm hfb hfa a3 ex l1
        have k0 : (0 : Int) ≤ (k : Int) := by omega
        have k2 : (k : Int) < 12 := by omega
        have c0 : (0 : Int) ≤ (c : Int) := by omega
        have c1 : (c : Int) < (n : Int) := by omega
        go_wp2_with fail
        refine wp_region_tail 12 (by kernel_rfl) (by kernel_rfl) ?_
        simp only [List.take_succ_cons, List.take_zero, List.drop_succ_cons, List.drop_zero]
        repeat (go_big_quiet_step (fail))
        refine wpQuiet_nil ?_
        intro _ hw'
        obtain ⟨kq, rfl⟩ := hw'
        go_wp2_with fail
        go_roundw
        case rel =>
          have hne := hb_ne_type H1.out H2.out (by decide)
          have hnbl : W2.heap.size ≤ nb := by rw [← HNB.out]; exact HQ.out.below.size
          refine ⟨k + 1, by go_num, by omega, Lib.hid ((H3.out.setCell hnbl _).jk kq), Lib.hid ?_, Lib.hid ((H2.out.other hne).jk kq), Lib.hid (fun r hr => ⟨((H4.out r hr).1.other (Ne.symm (H4.out r hr).2)).jk kq, (H4.out r hr).2⟩)⟩
          rw [← hs2.out, ← cellsN_set]
          exact (H1.out.set k _).jk kq
        case measure => simp [intOf]; omega
      · obtain rfl : k = 12 := by omega
        have F1 := fillS_all (colF l c)
        rw [HCL.out] at F1
        have B1 : Hid (HB wr nb (cellsN .i64 (colF l c)) 3) := Lib.hid (by have := H1.out; rw [F1] at this; exact this)
        clear F1
        go_wp2_with fail
        go_roundw
        case rel =>
          refine ⟨c + 1, rows ++ [⟨nb, 12, colF l c⟩], by go_num, by omega, Lib.hid (by rw [List.length_append, LR.out]; rfl), H3, H2, Lib.hid (fun r hr => ?_), Lib.hid (by rw [List.map_append, HD.out, List.range_succ, List.map_append]; rfl)⟩
          rcases List.mem_append.1 hr with hr | hr
          · exact ⟨(H4.out r hr).1, (HRS.out r hr).2⟩
          · rw [List.mem_singleton] at hr
            subst hr
            exact ⟨B1.out, rfl, HCL.out⟩
        case measure => simp [intOf]; omega
  · obtain rfl : n = c := by omega
    go_wp2_with fail
    go_ret2
    refine ⟨rb, rows, rfl, HQ2.out.trans HQ.out, ⟨⟨by simp [LR.out], Nat.le_refl _, fun _ => ⟨rb, 0, rfl, HR.out.lt, fun i v hi => ?_⟩, fun e => by cases e⟩, fun r hr => ?_⟩, HD.out⟩
    · rw [Nat.zero_add, HR.out.cell]
      rw [List.getElem?_map] at hi
      cases hri : rows[i]? with
      | none => rw [hri] at hi; cases hi
      | some r =>
        rw [hri] at hi
        cases hi
        exact rowA_get n rows i r hri
    · obtain ⟨h1, h2, h3⟩ := HRS.out r hr
      exact rdn_of_hb h1 _ h3.symm _ (by omega)
end Go.Proofs.YtfdpnephjpcnbaaDoor
set_option linter.unusedVariables false
set_option linter.unusedSimpArgs false
namespace Go.Proofs.YtfdpnephjpcnbaaDoor
open Go.RowKit Go.Sub
set_option maxHeartbeats 1000000 in
theorem sameints_c (a b ca cb : Nat) (l : List Int) (w : World) (ha : RdN w (some ⟨a, 0, none⟩) 12 ca .i64 l) (hb : RdN w (some ⟨b, 0, none⟩) 12 cb .i64 l) :
    Calls Tryd.prog 31 #[.slice (some ⟨a, 0, none⟩) 12 ca, .slice (some ⟨b, 0, none⟩) 12 cb] w fun e w' => e = .returned (.bool true) ∧ Q w w' := by
  obtain ⟨g1, o1, e1, ho1, hc1⟩ := ha.at_ (by omega)
  obtain ⟨g2, o2, e2, ho2, hc2⟩ := hb.at_ (by omega)
  cases e1
  cases e2
  clear ha hb
  go_enter Tryd.func31, Tryd.ntmps31
  go_wp2_with fail
  go_loopw [5] (fun i wr => ∃ (k : Nat) (kx : Jk), i = .int .i64 k ∧ k ≤ 12 ∧ wr = w.jk kx) (fun i _ => 12 - (intOf i).toNat)
  case atStart =>
    obtain ⟨kx, ek⟩ := Q.refl w
    exact ⟨0, kx, rfl, by omega, ek⟩
  case round =>
    obtain ⟨k, kx, rfl, hk, rfl⟩ := hrel
    by_cases hlt : k < 12
    · have h1 := hc1.out k hlt
      have h2 := hc2.out k hlt
      rw [Nat.zero_add] at h1 h2
      obtain ⟨x, ex⟩ : ∃ x, l.getD k 0 = x := ⟨_, rfl⟩
      rw [ex] at h1 h2
      clear ex
      have k0 : (0 : Int) ≤ (k : Int) := by omega
      have k1 : (k : Int) < 12 := by omega
      go_wp2_with fail
      refine wp_region_jk (by kernel_rfl) (by kernel_rfl) ?_
      repeat (go_big_quiet_step (fail))
      refine wpQuiet_nil ?_
      intro _ hw'
      obtain ⟨kq, rfl⟩ := hw'
      go_wp2_with fail
      go_roundw
      case rel =>
        rw [World.jk_jk]
        exact ⟨k + 1, _, by go_num, by omega, rfl⟩
      case measure => simp [intOf]; omega
    · obtain rfl : k = 12 := by omega
      go_wp2_with fail
      go_ret
      refine ⟨rfl, ?_⟩
      repeat' (first | exact Q.refl _ | refine Q.alloc ?_ _ | refine Q.jk ?_ _ | refine Q.drew ?_)
set_option maxHeartbeats 1000000 in
theorem samerows_c (a b ca cb n : Nat) (r1 r2 : List Ch) (w : World) (ha : ChAt w (some ⟨a, 0, none⟩) n ca r1) (hb : ChAt w (some ⟨b, 0, none⟩) n cb r2) (hl : r1.map Ch.l = r2.map Ch.l) (n0 : 1 ≤ n) (n1 : n ≤ 8) :
    Calls Tryd.prog 10 #[.slice (some ⟨a, 0, none⟩) n ca, .slice (some ⟨b, 0, none⟩) n cb] w fun e w' => e = .returned (.bool true) ∧ Q w w' := by
  obtain ⟨g1, o1, e1, ho1, hc1⟩ := ha.1.at_ (by omega)
  obtain ⟨g2, o2, e2, ho2, hc2⟩ := hb.1.at_ (by omega)
  cases e1
  cases e2
  have HA := Lib.hid ha
  have HB' := Lib.hid hb
  have HL := Lib.hid hl
  have L1 := Lib.hid ha.len
  have L2 := Lib.hid hb.len
  clear ha hb hl
  go_enter Tryd.func10, Tryd.ntmps10
  go_wp2_with fail
  go_loopw [5] (fun i wr => ∃ (k : Nat) (kx : Jk), i = .int .i64 k ∧ k ≤ n ∧ wr = w.jk kx) (fun i _ => n - (intOf i).toNat)
  case atStart =>
    obtain ⟨kx, ek⟩ := Q.refl w
    exact ⟨0, kx, rfl, by omega, ek⟩
  case round =>
    obtain ⟨k, kx, rfl, hk, rfl⟩ := hrel
    by_cases hlt : k < n
    · obtain ⟨x, hx⟩ : ∃ x, r1[k]? = some x := ⟨_, List.getElem?_eq_getElem (by rw [L1.out]; exact hlt)⟩
      obtain ⟨y, hy⟩ : ∃ y, r2[k]? = some y := ⟨_, List.getElem?_eq_getElem (by rw [L2.out]; exact hlt)⟩
      have h1 := hc1.out k (chC x) (by rw [List.getElem?_map, hx]; rfl)
      have h2 := hc2.out k (chC y) (by rw [List.getElem?_map, hy]; rfl)
      rw [Nat.zero_add] at h1 h2
      unfold chC at h1 h2
      have hxy : x.l = y.l := by
        have := congrArg (fun z => z[k]?) HL.out
        simp only [List.getElem?_map, hx, hy, Option.map_some, Option.some.injEq] at this
        exact this
      have SI := Lib.hid fun (w' : World) (hq : Q w w') => sameints_c x.g y.g x.cap y.cap x.l w' ((HA.out.2 x (List.mem_of_getElem? hx)).q hq) (by rw [hxy]; exact (HB'.out.2 y (List.mem_of_getElem? hy)).q hq)
      clear hx hy hxy
      have k0 : (0 : Int) ≤ (k : Int) := by omega
      have k1 : (k : Int) < (n : Int) := by omega
      go_wp2_with fail
      refine wp_region_jk (by kernel_rfl) (by kernel_rfl) ?_
      repeat (go_big_quiet_step ((go_at_call 31; exact Calls.jk_of (SI.out _ (by repeat' (first | exact Q.refl _ | refine Q.alloc ?_ _ | refine Q.jk ?_ _ | refine Q.drew ?_))))))
      refine wpQuiet_nil ?_
      intro _ hw'
      obtain ⟨kq, rfl⟩ := hw'
      go_wp2_with fail
      go_roundw
      case rel =>
        rw [World.jk_jk]
        exact ⟨k + 1, _, by go_num, by omega, rfl⟩
      case measure => simp [intOf]; omega
    · obtain rfl : n = k := by omega
      go_wp2_with fail
      go_ret
      refine ⟨rfl, ?_⟩
      repeat' (first | exact Q.refl _ | refine Q.alloc ?_ _ | refine Q.jk ?_ _ | refine Q.drew ?_)
end Go.Proofs.YtfdpnephjpcnbaaDoor
