
/- What fine of Feeders returns: windows of at most five feeders, the negative sums, and the window of the fault current. -/
import Derived.Test.YtfdpnephjpcnbaaDoorBz12
import Derived.Test.YtfdpnephjpcnbaaDoorBz13
import Derived.Test.YtfdpnephjpcnbaaDoorBz17
set_option linter.unusedSimpArgs false
set_option linter.unusedVariables false
set_option linter.unusedVariables false
set_option linter.unusedSimpArgs false
namespace Go.Sub
open Go
/-- What a sample of a feeder is taken to be. -/
def wv (x : Int) : Int := x % 4001 - 2000
theorem wv_bd (x : Int) : -2000 ≤ wv x ∧ wv x ≤ 2000 := by unfold wv; omega
/-- The negative sum of the first i feeders at instant k. -/
def rsum (X : Nat → Nat → Int) : Nat → Nat → Int
  | 0, _ => 0
  | i + 1, k => rsum X i k - wv (X i k)
theorem rsum_bd (X : Nat → Nat → Int) (i k : Nat) : -(2000 * (i : Int)) ≤ rsum X i k ∧ rsum X i k ≤ 2000 * (i : Int) := by
  induction i with
  | zero => simp [rsum]
  | succ i ih =>
    have := wv_bd (X i k)
    unfold rsum
    omega
def restL (X : Nat → Nat → Int) (i : Nat) : List Int := (List.range 12).map (rsum X i)
def restM (X : Nat → Nat → Int) (i k : Nat) : List Int := (List.range 12).map fun j => if j < k then rsum X (i + 1) j else rsum X i j
def faultM (F : Nat → Int) (k : Nat) : List Int := (List.range 12).map fun j => if j < k then wv (F j) else 0
def feedL (X : Nat → Nat → Int) (i : Nat) : List (List Int) := (List.range i).map fun i => (List.range 12).map fun k => wv (X i k)
theorem map12_getD (g : Nat → Int) (k : Nat) (hk : k < 12) : ((List.range 12).map g).getD k 0 = g k := by
  rw [List.getD_eq_getElem?_getD, List.getElem?_map, List.getElem?_range hk]
  rfl
theorem map12_set (g g' : Nat → Int) (k : Nat) (v : Int) (hk : k < 12) (h : ∀ j, j < 12 → g' j = if k = j then v else g j) : ((List.range 12).map g).set k v = (List.range 12).map g' := by
  apply List.ext_getElem?
  intro j
  rw [List.getElem?_set]
  by_cases hj : j < 12
  · rw [List.getElem?_map, List.getElem?_map, List.getElem?_range hj, Option.map_some, Option.map_some, h j hj]
    by_cases e : k = j
    · rw [if_pos e, if_pos e, if_pos (by simp; omega)]
    · rw [if_neg e, if_neg e]
  · rw [if_neg (by omega), List.getElem?_eq_none (by simp; omega), List.getElem?_eq_none (by simp; omega)]
theorem restM_zero (X : Nat → Nat → Int) (i : Nat) : restM X i 0 = restL X i := by
  unfold restM restL
  apply List.map_congr_left
  intro j hj
  rw [if_neg (by omega)]
theorem restM_12 (X : Nat → Nat → Int) (i : Nat) : restM X i 12 = restL X (i + 1) := by
  unfold restM restL
  apply List.map_congr_left
  intro j hj
  rw [if_pos (List.mem_range.1 hj)]
theorem restM_getD (X : Nat → Nat → Int) (i k : Nat) (hk : k < 12) : (restM X i k).getD k 0 = rsum X i k := by
  unfold restM
  rw [map12_getD _ _ hk, if_neg (by omega)]
theorem restM_set (X : Nat → Nat → Int) (i k : Nat) (hk : k < 12) : (restM X i k).set k (rsum X (i + 1) k) = restM X i (k + 1) := by
  unfold restM
  apply map12_set _ _ _ _ hk
  intro j hj
  by_cases e : k = j
  · subst e; rw [if_pos rfl, if_pos (by omega)]
  · rw [if_neg e]
    by_cases h : j < k
    · rw [if_pos h, if_pos (by omega)]
    · rw [if_neg h, if_neg (by omega)]
theorem faultM_zero (F : Nat → Int) : faultM F 0 = List.replicate 12 0 := rfl
theorem faultM_getD (F : Nat → Int) (k : Nat) (hk : k < 12) : (faultM F k).getD k 0 = 0 := by
  unfold faultM
  rw [map12_getD _ _ hk, if_neg (by omega)]
theorem faultM_set (F : Nat → Int) (k : Nat) (hk : k < 12) : (faultM F k).set k (wv (F k)) = faultM F (k + 1) := by
  unfold faultM
  apply map12_set _ _ _ _ hk
  intro j hj
  by_cases e : k = j
  · subst e; rw [if_pos rfl, if_pos (by omega)]
  · rw [if_neg e]
    by_cases h : j < k
    · rw [if_pos h, if_pos (by omega)]
    · rw [if_neg h, if_neg (by omega)]
theorem restL_zero (X : Nat → Nat → Int) : restL X 0 = List.replicate 12 0 := rfl
end Go.Sub
namespace Go
open Go.RowKit
theorem own_set {W : World} {k : Jk} {b i : Nat} {x : Value} {e : TypeId} {size n : Nat} {v : Value} {xs : List Value} (h : (W.jk k).ownsRow W.heap.size e size v n xs) :
    ((W.setCell ⟨b, i, none⟩ x).jk k).ownsRow (W.setCell ⟨b, i, none⟩ x).heap.size e size v n xs := by
  refine ⟨h.1, ?_⟩
  rcases h.2 with h | ⟨g, cap, cur, rfl, hb, hg, hr⟩
  · exact .inl h
  · refine .inr ⟨g, cap, cur, rfl, by rw [World.size_setCell]; exact hb, ?_, hr⟩
    rw [← hg]
    simp only [World.jk, Array.getElem?_append, World.size_setCell]
    rw [if_neg (by omega), if_neg (by omega)]
end Go
namespace Go.Proofs.YtfdpnephjpcnbaaDoor
open Go.RowKit Go.Sub
/-- The world in which fine works: its box, the negative sums, and the fault's window. -/
structure FSt (w W : World) (b0 br bf : Nat) (cs : Array Value) (R F : List Int) : Prop where
  q : Q w W
  h0 : HB W b0 cs 48
  hr : HB W br (cellsN .i64 R) 3
  hf : HB W bf (cellsN .i64 F) 3
  n1 : br ≠ b0
  n2 : bf ≠ b0
  n3 : br ≠ bf
  gr : w.heap.size ≤ br
  gf : w.heap.size ≤ bf
  l1 : R.length = 12
  l2 : F.length = 12
theorem FSt.setR {w W : World} {b0 br bf : Nat} {cs : Array Value} {R F : List Int} (h : FSt w W b0 br bf cs R F) (k : Nat) (v : Int) : FSt w (W.setCell ⟨br, k, none⟩ (.int .i64 v)) b0 br bf cs (R.set k v) F :=
  ⟨h.q.setCell h.gr _, h.h0.other h.n1, by rw [← cellsN_set]; exact h.hr.set k _, h.hf.other h.n3, h.n1, h.n2, h.n3, h.gr, h.gf, by rw [List.length_set]; exact h.l1, h.l2⟩
theorem FSt.setF {w W : World} {b0 br bf : Nat} {cs : Array Value} {R F : List Int} (h : FSt w W b0 br bf cs R F) (k : Nat) (v : Int) : FSt w (W.setCell ⟨bf, k, none⟩ (.int .i64 v)) b0 br bf cs R (F.set k v) :=
  ⟨h.q.setCell h.gf _, h.h0.other h.n2, h.hr.other (Ne.symm h.n3), by rw [← cellsN_set]; exact h.hf.set k _, h.n1, h.n2, h.n3, h.gr, h.gf, h.l1, by rw [List.length_set]; exact h.l2⟩
theorem FSt.cR {w W : World} {b0 br bf : Nat} {cs : Array Value} {R F : List Int} (h : FSt w W b0 br bf cs R F) (k : Nat) (hk : k < 12) : W.cell? ⟨br, k, none⟩ = some (.int .i64 (R.getD k 0)) := (h.hr.cell k).trans (cellsN_at (by rw [h.l1]; exact hk))
theorem FSt.cF {w W : World} {b0 br bf : Nat} {cs : Array Value} {R F : List Int} (h : FSt w W b0 br bf cs R F) (k : Nat) (hk : k < 12) : W.cell? ⟨bf, k, none⟩ = some (.int .i64 (F.getD k 0)) := (h.hf.cell k).trans (cellsN_at (by rw [h.l2]; exact hk))
theorem chAt_own' {W0 w : World} {v : Value} {rows : List Ch} (h : RowR W0 w v rows) (hf : ∀ r ∈ rows, RdN w (some ⟨r.g, 0, none⟩) 12 r.cap .i64 r.l) (hn : rows ≠ []) : ∃ g c, v = .slice (some ⟨g, 0, none⟩) rows.length c ∧ ChAt w (some ⟨g, 0, none⟩) rows.length c rows := by
  obtain ⟨A, c, rfl, hr⟩ := rdv_of_own h (by simp)
  have hl : 0 < rows.length := List.length_pos_iff.2 hn
  have hown := h
  rcases hown.2 with ⟨e, _⟩ | ⟨g, cap, cur, e, _⟩
  · injection e with _ _ e
    have := hr.2.1
    omega
  · cases e
    exact ⟨g, c, rfl, hr, hf⟩
/-- The windows and the fault's. -/
def RetFeed (X : Nat → Nat → Int) (F : Nat → Int) (N : Nat) (w : World) (e : Ending) (w' : World) : Prop := ∃ g c rows gf, e = .returned (.tuple #[.slice (some ⟨g, 0, none⟩) (N + 1) c, .slice (some ⟨gf, 0, none⟩) 12 12]) ∧ Q w w' ∧ ChAt w' (some ⟨g, 0, none⟩) (N + 1) c rows ∧ rows.map Ch.l = feedL X N ++ [restL X N] ∧
  RdN w' (some ⟨gf, 0, none⟩) 12 12 .i64 (faultM F 12)
attribute [local go_sem ↓] Go.wp_at_zero Go.wp_at_succ
set_option maxRecDepth 100000 in
set_option maxHeartbeats 8000000 in
theorem feed_c (cs : Array Value) (A : Option Addr) (n ca : Nat) (vs : List Value) (X : Nat → Nat → Int) (F : Nat → Int) (w : World) (h0 : cs[0]? = some (.slice A n ca)) (hF : ∀ k, k < 12 → cs[1 + k]? = some (.int .i64 (F k)))
    (hA : RdV w A n ca 12 vs) (hX : ∀ i k, i < n → k < 12 → vs[i * 12 + k]? = some (.int .i64 (X i k))) (hn : n ≤ 9223372036854775807) :
    Calls Tryd.prog 12 #[.agg cs] w (RetFeed X F (min n 5) w) := by
  have HCF := Lib.hid hF
  have HW : Hid (∀ i k, i < n → k < 12 → ∃ g o, A = some ⟨g, o, none⟩ ∧ g < w.heap.size ∧ w.cell? ⟨g, o + (i * 12 + k), none⟩ = some (.int .i64 (X i k))) := Lib.hid (fun i k hi hk => by
    obtain ⟨g, o, e, hg, hc⟩ := hA.2.2.1 (by omega)
    exact ⟨g, o, e, hg, hc _ _ (hX i k hi hk)⟩)
  have H0 := Lib.hid h0
  clear hF hA hX h0
  have hmk := fun w' => make_int w' (12 : Int) 12 rfl (by omega)
  obtain ⟨Z, hZ⟩ : ∃ Z, cellsN .i64 (List.replicate 12 0) = Z := ⟨_, rfl⟩
  simp only [hZ] at hmk
  have HZ := Lib.hid hZ
  clear hZ
  go_enter Tryd.func12, Tryd.ntmps12
  go_wp2_with fail
  go_cut [5, 6] (fun s5 s6 wx => ∃ br bf, s5 = .slice (some ⟨br, 0, none⟩) 12 12 ∧ s6 = .slice (some ⟨bf, 0, none⟩) 12 12 ∧ Q w wx ∧ HB wx w.heap.size cs 48 ∧ HB wx br Z 3 ∧ HB wx bf Z 3 ∧ br ≠ w.heap.size ∧ bf ≠ w.heap.size ∧ br ≠ bf ∧ w.heap.size ≤ br ∧ w.heap.size ≤ bf)
  case first =>
    go_region_held3 (fun w' => True) (trivial) (fail)
    all_goals (go_wp2_with fail)
    all_goals go_meet
    all_goals clear hmk
    all_goals (first
      | (refine ⟨w.heap.size + 1, w.heap.size + 1 + 1, rfl, rfl, ?_, ?_, ?_, ?_, ?_, ?_, ?_, ?_, ?_⟩ <;> (first | ((repeat' (first | (with_reducible exact Q.refl _) | (with_reducible refine Q.alloc ?_ _) | (with_reducible refine Q.jk ?_ _) | (with_reducible refine Q.drew ?_))); done) | ((repeat' (first | (with_reducible refine HB.drew ?_) | (with_reducible refine HB.jk ?_ _) | ((with_reducible refine HB.new _ _ _ _ ?_); first | (with_reducible rfl) | (simp only [World.size_jk, World.size_alloc, World.size_drew]; done)) | (with_reducible refine HB.alloc ?_ _))); done) | omega | rfl))
      | (refine ⟨w.heap.size + 1 + 1, w.heap.size + 1, rfl, rfl, ?_, ?_, ?_, ?_, ?_, ?_, ?_, ?_, ?_⟩ <;> (first | ((repeat' (first | (with_reducible exact Q.refl _) | (with_reducible refine Q.alloc ?_ _) | (with_reducible refine Q.jk ?_ _) | (with_reducible refine Q.drew ?_))); done) | ((repeat' (first | (with_reducible refine HB.drew ?_) | (with_reducible refine HB.jk ?_ _) | ((with_reducible refine HB.new _ _ _ _ ?_); first | (with_reducible rfl) | (simp only [World.size_jk, World.size_alloc, World.size_drew]; done)) | (with_reducible refine HB.alloc ?_ _))); done) | omega | rfl)))
  case rest =>
    obtain ⟨br, bf, rfl, rfl, hq, hb0, hbr, hbf, g1, g2, g3, g4, g5⟩ := hcut
    clear hmk
    have HFS0 : Hid (FSt w wc w.heap.size br bf cs (restL X 0) (List.replicate 12 0)) := Lib.hid ⟨hq, hb0, by rw [restL_zero, HZ.out]; exact hbr, by rw [HZ.out]; exact hbf, g1, g2, g3, g4, g5, rfl, rfl⟩
    clear hq hb0 hbr hbf HZ
    go_wp2_with fail
    go_loopw [4, 7] (fun s4 s7 wr => ∃ (i : Nat) (rows : List Ch) (W0 : World) (kk : Jk), s7 = .int .i64 i ∧ i ≤ n ∧ i ≤ 5 ∧ wr = W0.jk kk ∧ Hid (rows.length = i) ∧ Hid (FSt w W0 w.heap.size br bf cs (restL X i) (List.replicate 12 0)) ∧ Hid (RowR W0 (W0.jk kk) s4 rows) ∧ Hid (∀ r ∈ rows, RowF W0 (W0.jk kk) r) ∧ Hid (rows.map Ch.l = feedL X i)) (fun _ i _ => 5 - (intOf i).toNat)
    case atStart =>
      obtain ⟨kk, ek⟩ := Q.refl wc
      exact ⟨0, [], wc, kk, rfl, Nat.zero_le _, Nat.zero_le _, ek, Lib.hid rfl, HFS0, Lib.hid (World.ownsRow_nil _ _ _ _), Lib.hid (fun r hr => by cases hr), Lib.hid rfl⟩
    case round =>
    obtain ⟨i, rows, W0, kk, rfl, hin, hi5, rfl, LR, HFS, HO, HFr, HD⟩ := hrel
    have c0 : W0.cell? ⟨w.heap.size, 0, none⟩ = some (.slice A n ca) := by rw [HFS.out.h0.cell, H0.out]
    have o0 := HFS.out.h0.old
    by_cases hlt : i < n ∧ i < 5
    · obtain ⟨hl1, hl2⟩ := hlt
      obtain ⟨v4, rfl⟩ : ∃ v4, v4 = u4 := ⟨_, rfl⟩
      have j0 : (0 : Int) ≤ (i : Int) := by omega
      have j1 : (i : Int) < (n : Int) := by omega
      have j2 : (i : Int) < 5 := by omega
      have rb := fun k => rsum_bd X i k
      have RB := Lib.hid rb
      clear rb
      go_wp2_with fail
      go_loopw [8, 9] (fun s8 s9 wr => ∃ (k : Nat) (W1 : World) (kx : Jk), s9 = .int .i64 k ∧ k ≤ 12 ∧ wr = W1.jk kx ∧ Hid (FSt w W1 w.heap.size br bf cs (restM X i k) (List.replicate 12 0)) ∧ Hid (RowI W1 (W1.jk kx) s8 ((List.range k).map fun k => wv (X i k))) ∧ Hid (RowR W1 (W1.jk kx) v4 rows) ∧ Hid (∀ r ∈ rows, RowF W1 (W1.jk kx) r ∧ Apart s8 (chC r))) (fun _ k _ => 12 - (intOf k).toNat)
      case atStart => exact ⟨0, W0, kk, rfl, Nat.zero_le _, rfl, Lib.hid (by rw [restM_zero]; exact HFS.out), Lib.hid (RowI.nil _ _), HO, Lib.hid (fun r hr => ⟨HFr.out r hr, Apart.nil _⟩)⟩
      case round =>
        clear c0 o0
        obtain ⟨k, W1, kx, rfl, hk, rfl, HFS1, HRI, HO', HF'⟩ := hrel
        by_cases hk1 : k < 12
        · obtain ⟨gw, ow, eA, hgw, hcw⟩ := HW.out i k hl1 hk1
          obtain ⟨x, ex⟩ : ∃ x, X i k = x := ⟨_, rfl⟩
          obtain ⟨y, ey⟩ : ∃ y, rsum X i k = y := ⟨_, rfl⟩
          rw [ex] at hcw
          have c0 : W1.cell? ⟨w.heap.size, 0, none⟩ = some (.slice (some ⟨gw, ow, none⟩) n ca) := by rw [HFS1.out.h0.cell, H0.out, eA]
          have o0 := HFS1.out.h0.old
          have c1 : W1.cell? ⟨gw, ow + (i * 12 + k), none⟩ = some (.int .i64 x) := (HFS1.out.q.below.cell (p := ⟨gw, ow + (i * 12 + k), none⟩) hgw).trans hcw
          rw [← Nat.add_assoc] at c1
          have o1 : Old gw W1 := ⟨Nat.lt_of_lt_of_le hgw HFS1.out.q.below.size⟩
          have c2 := HFS1.out.cR k hk1
          rw [restM_getD X i k hk1, ey] at c2
          have c3 := HFS1.out.hr.soft k
          have o2 := HFS1.out.hr.old
          have EX : Hid (x % 4001 - 2000 = wv (X i k)) := Lib.hid (by rw [ex]; rfl)
          have EY : Hid (y - (x % 4001 - 2000) = rsum X (i + 1) k) := Lib.hid (by rw [EX.out, ← ey]; rfl)
          have yb := RB.out k
          rw [ey] at yb
          obtain ⟨y1, y2⟩ := yb
          clear ex ey eA hgw hcw
          have k0 : (0 : Int) ≤ (k : Int) := by omega
          have k2 : (k : Int) < 12 := by omega
          have m0 := Int.emod_nonneg x (show (4001 : Int) ≠ 0 by decide)
          have m1 := Int.emod_lt_of_pos x (show (0 : Int) < 4001 by decide)
          obtain ⟨v8, rfl⟩ : ∃ v8, v8 = u8 := ⟨_, rfl⟩
          go_wp2_with (first
            | (go_at_call 5; (with_reducible refine (tpwithin_any _ _ _ (by decide) (by decide)).mono ?_); rintro e w' ⟨rfl, rfl⟩)
            | (at_builtin; refine wpList_app_int rfl _ _ rfl W1 v8 ((List.range k).map fun k => wv (X i k)) (x % 4001 - 2000) _ rfl rfl (HRI.out.q (by repeat' (first | exact Q.refl _ | refine Q.alloc ?_ _ | refine Q.jk ?_ _ | refine Q.drew ?_))) (by simp [go_sem, World.size_jk]) (by simp; omega) (by repeat' (first | exact Q.refl _ | refine Q.alloc ?_ _ | refine Q.jk ?_ _ | refine Q.drew ?_)) ?_; intro v8' kx' hri hgr)
            | fail)
          go_roundw
          case rel =>
            refine ⟨k + 1, W1.setCell ⟨br, k, none⟩ (.int .i64 (y - (x % 4001 - 2000))), kx', by go_num, by omega, rfl, Lib.hid ?_, Lib.hid ?_, Lib.hid ?_, Lib.hid (fun r hr => ?_)⟩
            · have := HFS1.out.setR k (y - (x % 4001 - 2000))
              rwa [EY.out, restM_set X i k hk1, ← EY.out] at this
            · rw [@List.range_succ k, List.map_append, List.map_cons, List.map_nil, ← EX.out]
              exact own_set hri
            · exact own_set (hgr _ _ _ _ _ (ownsRow_q HO'.out (by repeat' (first | exact Q.refl _ | refine Q.alloc ?_ _ | refine Q.jk ?_ _ | refine Q.drew ?_))) (own_apart HRI.out HO'.out (by decide))).1
            · have := (((HF'.out r hr).1.q (show Q (W1.jk kx) _ by repeat' (first | exact Q.refl _ | refine Q.alloc ?_ _ | refine Q.jk ?_ _ | refine Q.drew ?_))).grown hgr (HF'.out r hr).2)
              exact ⟨⟨own_set this.1.1, this.1.2⟩, this.2⟩
          case measure => simp [intOf]; omega
        · obtain rfl : k = 12 := by omega
          obtain ⟨v8, rfl⟩ : ∃ v8, v8 = u8 := ⟨_, rfl⟩
          have hl12 : ((List.range 12).map fun k => wv (X i k)).length = 12 := by simp
          obtain ⟨gx, cx, e, hge, _⟩ := HRI.out.win (by intro h; have := congrArg List.length h; simp at this)
          rw [hl12] at e
          subst e
          have HRF : Hid (RowF W1 (W1.jk kx) ⟨gx, cx, (List.range 12).map fun k => wv (X i k)⟩) := Lib.hid ⟨by have := HRI.out; unfold RowI at this; rw [hl12] at this; exact this, hl12⟩
          have HFS2 : Hid (FSt w W1 w.heap.size br bf cs (restL X (i + 1)) (List.replicate 12 0)) := Lib.hid (by rw [← restM_12]; exact HFS1.out)
          clear hl12 hge HFS1
          go_wp2_with (first
            | (at_builtin; refine wpList_app_row rfl _ _ rfl W1 v4 rows ⟨gx, cx, (List.range 12).map fun k => wv (X i k)⟩ _ rfl rfl (ownsRow_q HO'.out (by repeat' (first | exact Q.refl _ | refine Q.alloc ?_ _ | refine Q.jk ?_ _ | refine Q.drew ?_))) (by simp [go_sem, World.size_jk, chC]) (by rw [LR.out]; omega) (by repeat' (first | exact Q.refl _ | refine Q.alloc ?_ _ | refine Q.jk ?_ _ | refine Q.drew ?_)) ?_; intro v4' kx' hro hgr)
            | fail)
          go_roundw
          case rel =>
            refine ⟨i + 1, rows ++ [⟨gx, cx, (List.range 12).map fun k => wv (X i k)⟩], W1, kx', by go_num, by omega, by omega, rfl, Lib.hid (by rw [List.length_append, LR.out]; rfl), HFS2, Lib.hid hro, Lib.hid (fun r hr => ?_), Lib.hid (by rw [List.map_append, HD.out]; unfold feedL; rw [@List.range_succ i, List.map_append]; rfl)⟩
            rcases List.mem_append.1 hr with hr | hr
            · exact (((HF'.out r hr).1.q (by repeat' (first | exact Q.refl _ | refine Q.alloc ?_ _ | refine Q.jk ?_ _ | refine Q.drew ?_))).grown hgr (own_apart HO'.out (HF'.out r hr).1.1 (by decide))).1
            · rw [List.mem_singleton] at hr
              subst hr
              exact ((HRF.out.q (by repeat' (first | exact Q.refl _ | refine Q.alloc ?_ _ | refine Q.jk ?_ _ | refine Q.drew ?_))).grown hgr (own_apart HO'.out HRF.out.1 (by decide))).1
          case measure => simp [intOf]; omega
    · have hmin : min n 5 = i := by omega
      have hex : (n = i) ∨ (i < n ∧ i = 5) := by omega
      rcases hex with hx | ⟨hx1, rfl⟩
      · subst hx
        obtain ⟨v4, rfl⟩ : ∃ v4, v4 = u4 := ⟨_, rfl⟩
        clear HW
        go_wp2_with fail
        go_loopw [11] (fun s11 wr => ∃ (k : Nat) (W2 : World) (kx : Jk), s11 = .int .i64 k ∧ k ≤ 12 ∧ wr = W2.jk kx ∧ Hid (FSt w W2 w.heap.size br bf cs (restL X n) (faultM F k)) ∧ Hid (RowR W2 (W2.jk kx) v4 rows) ∧ Hid (∀ r ∈ rows, RowF W2 (W2.jk kx) r)) (fun k _ => 12 - (intOf k).toNat)
        case atStart => exact ⟨0, W0, kk, rfl, Nat.zero_le _, rfl, HFS, HO, HFr⟩
        case round =>
          obtain ⟨k, W2, kx, rfl, hk, rfl, HFS2, HO2, HF2⟩ := hrel
          by_cases hk1 : k < 12
          · obtain ⟨x, ex⟩ : ∃ x, F k = x := ⟨_, rfl⟩
            have c1 : W2.cell? ⟨w.heap.size, 1 + k, none⟩ = some (.int .i64 x) := by rw [HFS2.out.h0.cell, HCF.out k hk1, ex]
            have c2 := HFS2.out.cF k hk1
            rw [faultM_getD F k hk1] at c2
            have c3 := HFS2.out.hf.soft k
            have o1 := HFS2.out.h0.old
            have o2 := HFS2.out.hf.old
            have EX : Hid (x % 4001 - 2000 = wv (F k)) := Lib.hid (by rw [ex]; rfl)
            clear ex
            have k0 : (0 : Int) ≤ (k : Int) := by omega
            have k2 : (k : Int) < 12 := by omega
            have m0 := Int.emod_nonneg x (show (4001 : Int) ≠ 0 by decide)
            have m1 := Int.emod_lt_of_pos x (show (0 : Int) < 4001 by decide)
            go_wp2_with (first
              | (go_at_call 5; (with_reducible refine (tpwithin_any _ _ _ (by decide) (by decide)).mono ?_); rintro e w' ⟨rfl, rfl⟩)
              | fail)
            go_roundw
            case rel =>
              refine ⟨k + 1, W2.setCell ⟨bf, k, none⟩ (.int .i64 (x % 4001 - 2000)), kx, by go_num, by omega, rfl, Lib.hid ?_, Lib.hid (own_set HO2.out), Lib.hid (fun r hr => ⟨own_set (HF2.out r hr).1, (HF2.out r hr).2⟩)⟩
              have := HFS2.out.setF k (x % 4001 - 2000)
              rwa [EX.out, faultM_set F k hk1, ← EX.out] at this
            case measure => simp [intOf]; omega
          · obtain rfl : k = 12 := by omega
            have RR := Lib.hid (rdn_of_hb HFS2.out.hr 12 HFS2.out.l1.symm 12 (Nat.le_refl _))
            have RF := Lib.hid (rdn_of_hb HFS2.out.hf 12 HFS2.out.l2.symm 12 (Nat.le_refl _))
            have HQ2 := Lib.hid HFS2.out.q
            have RO := Lib.hid (fun r hr => (HF2.out r hr).rd)
            clear HFS2
            go_wp2_with (first
              | (at_builtin; refine wpList_app_row rfl _ _ rfl W2 v4 rows ⟨br, 12, restL X n⟩ _ rfl rfl (ownsRow_q HO2.out (by repeat' (first | exact Q.refl _ | refine Q.alloc ?_ _ | refine Q.jk ?_ _ | refine Q.drew ?_))) (by simp [go_sem, World.size_jk, chC]) (by rw [LR.out]; omega) (by repeat' (first | exact Q.refl _ | refine Q.alloc ?_ _ | refine Q.jk ?_ _ | refine Q.drew ?_)) ?_; intro v4' kx' hro hgr)
              | fail)
            go_ret2
            obtain ⟨g, c, e4, hch⟩ := chAt_own' hro (fun r hr => by
              rcases List.mem_append.1 hr with hr | hr
              · exact (((HF2.out r hr).q (show Q (W2.jk kx) _ by repeat' (first | exact Q.refl _ | refine Q.alloc ?_ _ | refine Q.jk ?_ _ | refine Q.drew ?_))).grown hgr (own_apart HO2.out (HF2.out r hr).1 (by decide))).1.rd
              · rw [List.mem_singleton] at hr
                subst hr
                exact RR.out.q (by repeat' (first | exact Q.refl _ | refine Q.alloc ?_ _ | refine Q.jk ?_ _ | refine Q.drew ?_))) (by intro h; simp at h)
            rw [List.length_append, LR.out] at e4 hch
            rw [hmin]
            refine ⟨g, c, _, bf, by subst e4; rfl, HQ2.out.jk kx', hch, ?_, RF.out.q (by repeat' (first | exact Q.refl _ | refine Q.alloc ?_ _ | refine Q.jk ?_ _ | refine Q.drew ?_))⟩
            rw [List.map_append, HD.out]
            rfl
      · have j1 : ((5 : Nat) : Int) < (n : Int) := by omega
        rw [show ((5 : Nat) : Int) = 5 from rfl] at j1 ⊢
        obtain ⟨v4, rfl⟩ : ∃ v4, v4 = u4 := ⟨_, rfl⟩
        clear HW
        go_wp2_with fail
        go_loopw [11] (fun s11 wr => ∃ (k : Nat) (W2 : World) (kx : Jk), s11 = .int .i64 k ∧ k ≤ 12 ∧ wr = W2.jk kx ∧ Hid (FSt w W2 w.heap.size br bf cs (restL X 5) (faultM F k)) ∧ Hid (RowR W2 (W2.jk kx) v4 rows) ∧ Hid (∀ r ∈ rows, RowF W2 (W2.jk kx) r)) (fun k _ => 12 - (intOf k).toNat)
        case atStart => exact ⟨0, W0, kk, rfl, Nat.zero_le _, rfl, HFS, HO, HFr⟩
        case round =>
          obtain ⟨k, W2, kx, rfl, hk, rfl, HFS2, HO2, HF2⟩ := hrel
          by_cases hk1 : k < 12
          · obtain ⟨x, ex⟩ : ∃ x, F k = x := ⟨_, rfl⟩
            have c1 : W2.cell? ⟨w.heap.size, 1 + k, none⟩ = some (.int .i64 x) := by rw [HFS2.out.h0.cell, HCF.out k hk1, ex]
            have c2 := HFS2.out.cF k hk1
            rw [faultM_getD F k hk1] at c2
            have c3 := HFS2.out.hf.soft k
            have o1 := HFS2.out.h0.old
            have o2 := HFS2.out.hf.old
            have EX : Hid (x % 4001 - 2000 = wv (F k)) := Lib.hid (by rw [ex]; rfl)
            clear ex
            have k0 : (0 : Int) ≤ (k : Int) := by omega
            have k2 : (k : Int) < 12 := by omega
            have m0 := Int.emod_nonneg x (show (4001 : Int) ≠ 0 by decide)
            have m1 := Int.emod_lt_of_pos x (show (0 : Int) < 4001 by decide)
            go_wp2_with (first
              | (go_at_call 5; (with_reducible refine (tpwithin_any _ _ _ (by decide) (by decide)).mono ?_); rintro e w' ⟨rfl, rfl⟩)
              | fail)
            go_roundw
            case rel =>
              refine ⟨k + 1, W2.setCell ⟨bf, k, none⟩ (.int .i64 (x % 4001 - 2000)), kx, by go_num, by omega, rfl, Lib.hid ?_, Lib.hid (own_set HO2.out), Lib.hid (fun r hr => ⟨own_set (HF2.out r hr).1, (HF2.out r hr).2⟩)⟩
              have := HFS2.out.setF k (x % 4001 - 2000)
              rwa [EX.out, faultM_set F k hk1, ← EX.out] at this
            case measure => simp [intOf]; omega
          · obtain rfl : k = 12 := by omega
            have RR := Lib.hid (rdn_of_hb HFS2.out.hr 12 HFS2.out.l1.symm 12 (Nat.le_refl _))
            have RF := Lib.hid (rdn_of_hb HFS2.out.hf 12 HFS2.out.l2.symm 12 (Nat.le_refl _))
            have HQ2 := Lib.hid HFS2.out.q
            have RO := Lib.hid (fun r hr => (HF2.out r hr).rd)
            clear HFS2
            go_wp2_with (first
              | (at_builtin; refine wpList_app_row rfl _ _ rfl W2 v4 rows ⟨br, 12, restL X 5⟩ _ rfl rfl (ownsRow_q HO2.out (by repeat' (first | exact Q.refl _ | refine Q.alloc ?_ _ | refine Q.jk ?_ _ | refine Q.drew ?_))) (by simp [go_sem, World.size_jk, chC]) (by rw [LR.out]; omega) (by repeat' (first | exact Q.refl _ | refine Q.alloc ?_ _ | refine Q.jk ?_ _ | refine Q.drew ?_)) ?_; intro v4' kx' hro hgr)
              | fail)
            go_ret2
            obtain ⟨g, c, e4, hch⟩ := chAt_own' hro (fun r hr => by
              rcases List.mem_append.1 hr with hr | hr
              · exact (((HF2.out r hr).q (show Q (W2.jk kx) _ by repeat' (first | exact Q.refl _ | refine Q.alloc ?_ _ | refine Q.jk ?_ _ | refine Q.drew ?_))).grown hgr (own_apart HO2.out (HF2.out r hr).1 (by decide))).1.rd
              · rw [List.mem_singleton] at hr
                subst hr
                exact RR.out.q (by repeat' (first | exact Q.refl _ | refine Q.alloc ?_ _ | refine Q.jk ?_ _ | refine Q.drew ?_))) (by intro h; simp at h)
            rw [List.length_append, LR.out] at e4 hch
            rw [hmin]
            refine ⟨g, c, _, bf, by subst e4; rfl, HQ2.out.jk kx', hch, ?_, RF.out.q (by repeat' (first | exact Q.refl _ | refine Q.alloc ?_ _ | refine Q.jk ?_ _ | refine Q.drew ?_))⟩
            rw [List.map_append, HD.out]
            rfl
end Go.Proofs.YtfdpnephjpcnbaaDoor
