
/- What Split returns. -/
import Derived.Test.YtfdpnephjpcnbaaDoorBz05
set_option linter.unusedSimpArgs false
set_option linter.unusedVariables false
set_option linter.unusedVariables false
set_option linter.unusedSimpArgs false
namespace Go.Sub
open Go
def zfs (m : Nat) : List Value := (List.replicate m [Value.int .i64 0, Value.int .i64 0, Value.bool false, Value.slice none 0 0, Value.slice none 0 0]).flatten
/-- The cells of twelve frames of which the first are there. -/
def frA (u : Int) (n : Nat) (l : List Fm) : Array Value := (l.flatMap (fmC u n) ++ zfs (12 - l.length)).toArray
theorem zfs_len (m : Nat) : (zfs m).length = m * 5 := by
  unfold zfs
  simp [List.length_flatten, List.map_replicate, List.sum_replicate_nat]
theorem zfs_succ (m : Nat) : zfs (m + 1) = [Value.int .i64 0, Value.int .i64 0, Value.bool false, Value.slice none 0 0, Value.slice none 0 0] ++ zfs m := by
  unfold zfs
  rw [List.replicate_succ, List.flatten_cons]
theorem frA_size (u : Int) (n : Nat) (l : List Fm) (h : l.length ≤ 12) : (frA u n l).size = 60 := by
  unfold frA
  rw [List.size_toArray, List.length_append, fmC_len, zfs_len]
  omega
theorem frA_at (u : Int) (n : Nat) (l : List Fm) (h : l.length < 12) : (frA u n l)[l.length * 5]? = some (.int .i64 0) ∧ (frA u n l)[l.length * 5 + 1]? = some (.int .i64 0) ∧ (frA u n l)[l.length * 5 + 2]? = some (.bool false) ∧ (frA u n l)[l.length * 5 + 3]? = some (.slice none 0 0) ∧ (frA u n l)[l.length * 5 + 4]? = some (.slice none 0 0) := by
  have e : ∀ j, j < 5 → (frA u n l)[l.length * 5 + j]? = [Value.int .i64 0, Value.int .i64 0, Value.bool false, Value.slice none 0 0, Value.slice none 0 0][j]? := by
    intro j hj
    unfold frA
    rw [List.getElem?_toArray, List.getElem?_append_right (by rw [fmC_len]; omega), fmC_len, Nat.add_sub_cancel_left, show 12 - l.length = (12 - (l.length + 1)) + 1 by omega, zfs_succ, List.getElem?_append_left (by simpa using hj)]
  exact ⟨e 0 (by decide), e 1 (by decide), e 2 (by decide), e 3 (by decide), e 4 (by decide)⟩
theorem frA_set (u : Int) (n : Nat) (l : List Fm) (f : Fm) (h : l.length < 12) (va vb vc vd ve : Value) (hv : fmC u n f = [va, vb, vc, vd, ve]) :
    ((((((frA u n l).setIfInBounds (l.length * 5) va).setIfInBounds (l.length * 5 + 1) vb).setIfInBounds (l.length * 5 + 2) vc).setIfInBounds (l.length * 5 + 3) vd).setIfInBounds (l.length * 5 + 4) ve) = frA u n (l ++ [f]) := by
  unfold frA
  simp only [List.setIfInBounds_toArray]
  congr 1
  rw [set5 _ _ _ _ _ _ _ (by rw [List.length_append, fmC_len, zfs_len]; omega), ← hv, List.take_left' (fmC_len u n l), List.drop_append, List.drop_of_length_le (by rw [fmC_len]; omega), fmC_len, Nat.add_sub_cancel_left, List.nil_append, show 12 - l.length = (12 - (l.length + 1)) + 1 by omega, zfs_succ, List.drop_left' (by rfl), List.flatMap_append, List.length_append]
  simp
/-- What the frames of a step say. -/
def datK (step : Int) (rows : List Ch) (k : Nat) : Int × List Int × List Int := ((12 * step + (k : Int)) % 600, rows.map (fun r => r.l.getD k 0), List.replicate rows.length 0)
def splitD (step : Int) (rows : List Ch) : List (Int × List Int × List Int) := (List.range 12).map (datK step rows)
end Go.Sub
namespace Go.Proofs.YtfdpnephjpcnbaaDoor
open Go.RowKit Go.Sub
theorem make_fr (w : World) (u : Int) (n : Nat) : (Instr.makeSlice 32 (.int .i64 12) (.int .i64 12)).run Tryd.prog w = .ok (.slice (some ⟨w.heap.size, 0, none⟩) 12 12) (w.alloc (.cells (frA u n []) 63)) := by kernel_rfl
/-- Twelve frames of a unit with n channels, and no error. -/
def RetFs (u : Int) (n : Nat) (D : List (Int × List Int × List Int)) (w : World) (e : Ending) (w' : World) : Prop := ∃ g l, e = .returned (.tuple #[.slice (some ⟨g, 0, none⟩) 12 12, .int .i64 0]) ∧ Q w w' ∧ FrAt w' g u n l ∧ l.map Fm.dat = D
theorem frAt_of {w : World} {g : Nat} {u : Int} {n : Nat} {l : List Fm} {t : TypeId} (h : HB w g (frA u n l) t) (hf : ∀ f ∈ l, FmAt w n f) : FrAt w g u n l := by
  refine ⟨h.lt, fun i v hi => ?_, hf⟩
  rw [h.cell]
  unfold frA
  rw [List.getElem?_toArray, List.getElem?_append_left (List.getElem?_eq_some_iff.1 hi).1]
  exact hi
attribute [local go_sem ↓] Go.wp_at_zero Go.wp_at_succ
set_option maxRecDepth 100000 in
set_option maxHeartbeats 8000000 in
theorem split_c (u step : Int) (A : Option Addr) (n ca : Nat) (rows : List Ch) (w : World) (h : ChAt w A n ca rows) (n0 : 1 ≤ n) (n1 : n ≤ 8) (u0 : 0 ≤ u) (u1 : u ≤ 999) (s0 : 0 ≤ step) (s1 : step ≤ 1099511627776) (bx : ∀ r ∈ rows, InB (-16383) 16383 r.l) :
    Calls Tryd.prog 7 #[.int .i64 u, .int .i64 step, .bool true, .slice A n ca] w (RetFs u n (splitD step rows) w) := by
  have HL := Lib.hid h.len
  obtain ⟨g, o, rfl, ho, hc⟩ := h.1.at_ (by omega)
  have HCH := Lib.hid h
  have HC : Hid (∀ k r, rows[k]? = some r → w.cell? ⟨g, o + k, none⟩ = some (chC r)) := Lib.hid fun k r hk => hc.out k _ (by rw [List.getElem?_map, hk]; rfl)
  clear h hc
  have BX := Lib.hid bx
  clear bx
  have hmk := fun w' => make_fr w' u n
  go_enter Tryd.func7, Tryd.ntmps7
  go_wp2_with (first
    | (go_at_call 19; (with_reducible refine (sbetween_ok _ _ _ _ (by omega) (by omega)).mono ?_); rintro e w' ⟨rfl, rfl⟩)
    | fail)
  clear hmk
  go_loop [27] (fun i => ∃ k : Nat, k ≤ n ∧ i = .int .i64 k) (fun i => n - (intOf i).toNat)
  case atStart => exact ⟨0, Nat.zero_le _, rfl⟩
  case round =>
    obtain ⟨k, hk, rfl⟩ := hrel
    by_cases hlt : k < n
    · obtain ⟨r, hr⟩ : ∃ r, rows[k]? = some r := ⟨_, List.getElem?_eq_getElem (by rw [HL.out]; exact hlt)⟩
      have hcell := HC.out k r hr
      unfold chC at hcell
      clear hr
      go_wp2_with fail
      go_round
      case rel => exact ⟨k + 1, by omega, by go_num⟩
      case measure => simp [intOf]; omega
    · obtain rfl : n = k := by omega
      clear hlt hk
      have hmk := fun w' => make_fr w' u n
      go_wp2_with fail
      clear hmk
      go_loopw [38] (fun i wr => ∃ (k : Nat) (l : List Fm), i = .int .i64 k ∧ k ≤ 12 ∧ Hid (l.length = k) ∧ Hid (Q w wr) ∧ Hid (HB wr w.heap.size (frA u n l) 63) ∧ Hid (∀ f ∈ l, FmAt wr n f) ∧ Hid (l.map Fm.dat = (List.range k).map (datK step rows))) (fun i _ => 12 - (intOf i).toNat)
      case atStart => exact ⟨0, [], rfl, by omega, Lib.hid rfl, Lib.hid (.alloc (.refl _) _), Lib.hid (HB.new _ _ _ _ rfl), Lib.hid (fun f hf => by cases hf), Lib.hid rfl⟩
      case round =>
        obtain ⟨k, l, rfl, hk, LL, HQ, HF, HFM, HD⟩ := hrel
        by_cases hlt : k < 12
        · have hk0 : (0 : Int) ≤ (k : Int) := by omega
          have hk1 : (k : Int) ≤ 11 := by omega
          obtain ⟨wo, rfl⟩ : ∃ wo : World, wo = wr := ⟨_, rfl⟩
          have hmk := fun w' => make_int w' (n : Int) n rfl (by omega)
          go_upto_region 15 with (fail)
          go_cut [14] (fun s14 wx => ∃ sa sb p, s14 = .pointer (some ⟨p, 0, none⟩) ∧ Q wo wx ∧ HB wx sa (cellsN .i64 (List.replicate n 0)) 3 ∧ HB wx sb (cellsN .i64 (List.replicate n 0)) 3 ∧ HB wx p #[.int .i64 u, .int .i64 ((12 * step + (k : Int)) % 600), .bool true, .slice (some ⟨sa, 0, none⟩) n n, .slice (some ⟨sb, 0, none⟩) n n] 63 ∧ wo.heap.size ≤ sa ∧ wo.heap.size ≤ sb ∧ wo.heap.size ≤ p ∧ sa ≠ sb ∧ sa ≠ p ∧ sb ≠ p)
          case first =>
            go_region_held3 (fun w' => True) (trivial) ((go_at_call 20; (with_reducible refine (count_c _ _ _ (by omega) (by omega) (by omega) (by omega)).mono ?_); rintro e w' ⟨rfl, rfl⟩))
            all_goals (go_wp2_with fail)
            all_goals go_meet
            all_goals clear hmk LL HQ HF HFM HD HC HCH BX HL
            all_goals (first
          | (refine ⟨wo.heap.size, wo.heap.size + 1, wo.heap.size + 1 + 1, rfl, ?_, ?_, ?_, ?_, by omega, by omega, by omega, by omega, by omega, by omega⟩ <;> (first | ((repeat' (first | (with_reducible exact Q.refl _) | (with_reducible refine Q.alloc ?_ _) | (with_reducible refine Q.jk ?_ _) | (with_reducible refine Q.drew ?_))); done) | ((repeat' (first | (with_reducible refine HB.drew ?_) | (with_reducible refine HB.jk ?_ _) | ((with_reducible refine HB.new _ _ _ _ ?_); first | (with_reducible rfl) | (simp only [World.size_jk, World.size_alloc, World.size_drew]; done)) | (with_reducible refine HB.alloc ?_ _))); done)))
          | (refine ⟨wo.heap.size, wo.heap.size + 1 + 1, wo.heap.size + 1, rfl, ?_, ?_, ?_, ?_, by omega, by omega, by omega, by omega, by omega, by omega⟩ <;> (first | ((repeat' (first | (with_reducible exact Q.refl _) | (with_reducible refine Q.alloc ?_ _) | (with_reducible refine Q.jk ?_ _) | (with_reducible refine Q.drew ?_))); done) | ((repeat' (first | (with_reducible refine HB.drew ?_) | (with_reducible refine HB.jk ?_ _) | ((with_reducible refine HB.new _ _ _ _ ?_); first | (with_reducible rfl) | (simp only [World.size_jk, World.size_alloc, World.size_drew]; done)) | (with_reducible refine HB.alloc ?_ _))); done)))
          | (refine ⟨wo.heap.size + 1, wo.heap.size, wo.heap.size + 1 + 1, rfl, ?_, ?_, ?_, ?_, by omega, by omega, by omega, by omega, by omega, by omega⟩ <;> (first | ((repeat' (first | (with_reducible exact Q.refl _) | (with_reducible refine Q.alloc ?_ _) | (with_reducible refine Q.jk ?_ _) | (with_reducible refine Q.drew ?_))); done) | ((repeat' (first | (with_reducible refine HB.drew ?_) | (with_reducible refine HB.jk ?_ _) | ((with_reducible refine HB.new _ _ _ _ ?_); first | (with_reducible rfl) | (simp only [World.size_jk, World.size_alloc, World.size_drew]; done)) | (with_reducible refine HB.alloc ?_ _))); done)))
          | (refine ⟨wo.heap.size + 1, wo.heap.size + 1 + 1, wo.heap.size, rfl, ?_, ?_, ?_, ?_, by omega, by omega, by omega, by omega, by omega, by omega⟩ <;> (first | ((repeat' (first | (with_reducible exact Q.refl _) | (with_reducible refine Q.alloc ?_ _) | (with_reducible refine Q.jk ?_ _) | (with_reducible refine Q.drew ?_))); done) | ((repeat' (first | (with_reducible refine HB.drew ?_) | (with_reducible refine HB.jk ?_ _) | ((with_reducible refine HB.new _ _ _ _ ?_); first | (with_reducible rfl) | (simp only [World.size_jk, World.size_alloc, World.size_drew]; done)) | (with_reducible refine HB.alloc ?_ _))); done)))
          | (refine ⟨wo.heap.size + 1 + 1, wo.heap.size, wo.heap.size + 1, rfl, ?_, ?_, ?_, ?_, by omega, by omega, by omega, by omega, by omega, by omega⟩ <;> (first | ((repeat' (first | (with_reducible exact Q.refl _) | (with_reducible refine Q.alloc ?_ _) | (with_reducible refine Q.jk ?_ _) | (with_reducible refine Q.drew ?_))); done) | ((repeat' (first | (with_reducible refine HB.drew ?_) | (with_reducible refine HB.jk ?_ _) | ((with_reducible refine HB.new _ _ _ _ ?_); first | (with_reducible rfl) | (simp only [World.size_jk, World.size_alloc, World.size_drew]; done)) | (with_reducible refine HB.alloc ?_ _))); done)))
          | (refine ⟨wo.heap.size + 1 + 1, wo.heap.size + 1, wo.heap.size, rfl, ?_, ?_, ?_, ?_, by omega, by omega, by omega, by omega, by omega, by omega⟩ <;> (first | ((repeat' (first | (with_reducible exact Q.refl _) | (with_reducible refine Q.alloc ?_ _) | (with_reducible refine Q.jk ?_ _) | (with_reducible refine Q.drew ?_))); done) | ((repeat' (first | (with_reducible refine HB.drew ?_) | (with_reducible refine HB.jk ?_ _) | ((with_reducible refine HB.new _ _ _ _ ?_); first | (with_reducible rfl) | (simp only [World.size_jk, World.size_alloc, World.size_drew]; done)) | (with_reducible refine HB.alloc ?_ _))); done))))
          case rest =>
            obtain ⟨sa, sb, p, rfl, hq, ha, hb, hp, g1, g2, g3, g4, g5, g6⟩ := hcut
            clear hmk
            obtain ⟨xs, hxs⟩ : ∃ xs, rows.map (fun r => r.l.getD k 0) = xs := ⟨_, rfl⟩
            have HX : Hid (xs.length = n) := Lib.hid (by rw [← hxs, List.length_map, HL.out])
            have HXS := Lib.hid hxs
            clear hxs
            rw [← HX.out, ← fillS_zero] at ha
            have HQ2 := Lib.hid hq
            have HA := Lib.hid ha
            have HB' := Lib.hid hb
            have HP := Lib.hid hp
            clear hq ha hb hp
            go_wp2_with fail
            go_loopw [55] (fun i wx => ∃ c : Nat, i = .int .i64 c ∧ c ≤ n ∧ Hid (Q wo wx) ∧ Hid (HB wx sa (cellsN .i64 (fillS xs c)) 3) ∧ Hid (HB wx sb (cellsN .i64 (List.replicate n 0)) 3) ∧ Hid (HB wx p #[.int .i64 u, .int .i64 ((12 * step + (k : Int)) % 600), .bool true, .slice (some ⟨sa, 0, none⟩) n n, .slice (some ⟨sb, 0, none⟩) n n] 63)) (fun i _ => n - (intOf i).toNat)
            case atStart => exact ⟨0, rfl, Nat.zero_le _, HQ2, HA, HB', HP⟩
            case round =>
              clear HQ2 HA HB' HP
              obtain ⟨c, rfl, hcn, HQ2, HA, HB', HP⟩ := hrel
              by_cases hlc : c < n
              · obtain ⟨r, hr⟩ : ∃ r, rows[c]? = some r := ⟨_, List.getElem?_eq_getElem (by rw [HL.out]; exact hlc)⟩
                have hrm : r ∈ rows := List.mem_of_getElem? hr
                have hQw := HQ.out.trans HQ2.out
                have hcell := (hQw.below.cell (p := ⟨g, o + c, none⟩) ho.lt).trans (HC.out c r hr)
                unfold chC at hcell
                obtain ⟨gr, orr, er, hor, hcr⟩ := (HCH.out.2 r hrm).at_ (by omega)
                cases er
                have hcx := hcr.out k hlt
                have hcx' := (hQw.below.cell (p := ⟨r.g, 0 + k, none⟩) hor.lt).trans hcx
                rw [Nat.zero_add] at hcx'
                have hxc : Hid (xs.getD c 0 = r.l.getD k 0) := Lib.hid (by
                  rw [← HXS.out, List.getD_eq_getElem?_getD, List.getElem?_map, hr]
                  rfl)
                have hs1 := Lib.hid (fillS_step xs c (by rw [HX.out]; exact hlc))
                have l1 := Lib.hid (fillS_len xs c (by rw [HX.out]; exact hcn))
                obtain ⟨x, ex⟩ : ∃ x, r.l.getD k 0 = x := ⟨_, rfl⟩
                rw [ex] at hcx' hxc
                have hs2 : Hid ((fillS xs c).set c x = fillS xs (c + 1)) := Lib.hid (by rw [← hxc.out]; exact hs1.out)
                have o6 : Old r.g wr := ⟨Nat.lt_of_lt_of_le hor.lt hQw.below.size⟩
                clear hr hrm hQw hcr hcx ex
                have o2 := HA.out.old
                have o4 := HP.out.old
                have G4 : wr.cell? ⟨p, 3, none⟩ = some (.slice (some ⟨sa, 0, none⟩) n n) := HP.out.cell 3
                have G6 : wr.cell? ⟨sa, c, none⟩ = some (.int .i64 ((fillS xs c).getD c 0)) := (HA.out.cell c).trans (cellsN_at (by rw [l1.out, HX.out]; exact hlc))
                have G8 : wr.frozen? ⟨sa, c, none⟩ = false := HA.out.soft c
                have j1 : (k : Int) < 12 := by omega
                go_wp2_with fail
                refine wp_region_tail 7 (by kernel_rfl) (by kernel_rfl) ?_
                simp only [List.take_succ_cons, List.take_zero, List.drop_succ_cons, List.drop_zero]
                repeat (go_big_quiet_step (fail))
                refine wpQuiet_nil ?_
                intro _ hw'
                obtain ⟨kq, rfl⟩ := hw'
                go_wp2_with fail
                go_roundw
                case rel =>
                  refine ⟨c + 1, by go_num, by omega, Lib.hid ((HQ2.out.setCell g1 _).jk kq), Lib.hid ?_, Lib.hid ((HB'.out.other g4).jk kq), Lib.hid ((HP.out.other g5).jk kq)⟩
                  rw [← hs2.out, ← cellsN_set]
                  exact (HA.out.set c _).jk kq
                case measure => simp [intOf]; omega
              · obtain rfl : n = c := by omega
                have F1 := fillS_all xs
                rw [HX.out] at F1
                have B1 : HB wr sa (cellsN .i64 xs) 3 := by have := HA.out; rw [F1] at this; exact this
                have HFX : Hid (HB wr w.heap.size (frA u n l) 63) := Lib.hid (HF.out.q HQ2.out)
                have HFA : Hid (FmAt wr n ⟨(12 * step + (k : Int)) % 600, sa, sb, xs, List.replicate n 0⟩) := Lib.hid ⟨B1, HB'.out, HX.out, by simp⟩
                have G0 : wr.cell? ⟨p, 0, none⟩ = some (.int .i64 u) := HP.out.cell 0
                have G1 : wr.cell? ⟨p, 1, none⟩ = some (.int .i64 ((12 * step + (k : Int)) % 600)) := HP.out.cell 1
                have G2 : wr.cell? ⟨p, 2, none⟩ = some (.bool true) := HP.out.cell 2
                have G3 : wr.cell? ⟨p, 3, none⟩ = some (.slice (some ⟨sa, 0, none⟩) n n) := HP.out.cell 3
                have G4 : wr.cell? ⟨p, 4, none⟩ = some (.slice (some ⟨sb, 0, none⟩) n n) := HP.out.cell 4
                have o4 := HP.out.old
                have o5 := HFX.out.old
                have BXS : Hid (InB (-16383) 16383 xs) := Lib.hid (by
                  intro j hj
                  rw [HX.out] at hj
                  obtain ⟨r, hr⟩ : ∃ r, rows[j]? = some r := ⟨_, List.getElem?_eq_getElem (by rw [HL.out]; exact hj)⟩
                  have hrm := List.mem_of_getElem? hr
                  rw [← HXS.out, List.getD_eq_getElem?_getD, List.getElem?_map, hr]
                  exact BX.out r hrm k (by rw [(HCH.out.2 r hrm).len]; exact hlt))
                have BQS : Hid (InB 0 255 (List.replicate n 0)) := Lib.hid (by
                  intro j hj
                  rw [List.length_replicate] at hj
                  simp [List.getD, hj])
                have A0 := frA_at u n l (by rw [LL.out]; exact hlt)
                rw [LL.out] at A0
                obtain ⟨a0, a1, a2, a3, a4⟩ := A0
                have C0 := (HFX.out.cell (k * 5)).trans a0
                have C1 := (HFX.out.cell (k * 5 + 1)).trans a1
                have C2 := (HFX.out.cell (k * 5 + 2)).trans a2
                have C3 := (HFX.out.cell (k * 5 + 3)).trans a3
                have C4 := (HFX.out.cell (k * 5 + 4)).trans a4
                have D0 := HFX.out.soft (k * 5)
                have D1 := HFX.out.soft (k * 5 + 1)
                have D2 := HFX.out.soft (k * 5 + 2)
                have D3 := HFX.out.soft (k * 5 + 3)
                have D4 := HFX.out.soft (k * 5 + 4)
                clear F1 B1 a0 a1 a2 a3 a4
                have c0 : 0 ≤ (12 * step + (k : Int)) % 600 := by omega
                have c1 : (12 * step + (k : Int)) % 600 ≤ 599 := by omega
                go_wp2_with (go_at_call 21; (with_reducible refine (scheck_c _ _ _ _ _ _ _ _ xs (List.replicate n 0) _ HFA.out.rx HFA.out.rq u0 u1 c0 c1 n0 n1 BXS.out BQS.out).mono ?_); rintro e w' ⟨rfl, kj, rfl⟩)
                clear G0 G1 G2 G3 G4 C0 C1 C2 C3 C4 D0 D1 D2 D3 D4
                go_roundw
                case rel =>
                  have hF1 := ((((((HFX.out.set (k * 5) (.int .i64 u)).set (k * 5 + 1) (.int .i64 ((12 * step + (k : Int)) % 600))).set (k * 5 + 2) (.bool true)).set (k * 5 + 3) (.slice (some ⟨sa, 0, none⟩) n n)).set (k * 5 + 4) (.slice (some ⟨sb, 0, none⟩) n n))).jk kj
                  have hset := frA_set u n l ⟨(12 * step + (k : Int)) % 600, sa, sb, xs, List.replicate n 0⟩ (by rw [LL.out]; exact hlt) _ _ _ _ _ rfl
                  rw [LL.out] at hset
                  rw [hset] at hF1
                  have hst : ∀ f, FmAt wr n f → FmAt ((((((wr.setCell ⟨w.heap.size, k * 5, none⟩ (.int .i64 u)).setCell ⟨w.heap.size, k * 5 + 1, none⟩ (.int .i64 ((12 * step + (k : Int)) % 600))).setCell ⟨w.heap.size, k * 5 + 2, none⟩ (.bool true)).setCell ⟨w.heap.size, k * 5 + 3, none⟩ (.slice (some ⟨sa, 0, none⟩) n n)).setCell ⟨w.heap.size, k * 5 + 4, none⟩ (.slice (some ⟨sb, 0, none⟩) n n)).jk kj) n f := fun f hf => by
                    have na := hb_ne_type HFX.out hf.1 (by decide)
                    have nb := hb_ne_type HFX.out hf.2.1 (by decide)
                    exact ⟨(((((hf.1.other na).other na).other na).other na).other na).jk kj, (((((hf.2.1.other nb).other nb).other nb).other nb).other nb).jk kj, hf.2.2⟩
                  refine ⟨k + 1, l ++ [⟨(12 * step + (k : Int)) % 600, sa, sb, xs, List.replicate n 0⟩], by go_num, by omega, Lib.hid (by rw [List.length_append, LL.out]; rfl), Lib.hid ?_, Lib.hid hF1, Lib.hid ?_, Lib.hid ?_⟩
                  · have hqw := HQ.out.trans HQ2.out
                    exact (((((hqw.setCell (Nat.le_refl _) _).setCell (Nat.le_refl _) _).setCell (Nat.le_refl _) _).setCell (Nat.le_refl _) _).setCell (Nat.le_refl _) _).jk kj
                  · intro f hf
                    rcases List.mem_append.1 hf with hf | hf
                    · exact hst f ((HFM.out f hf).q HQ2.out)
                    · rw [List.mem_singleton] at hf
                      subst hf
                      exact hst _ HFA.out
                  · rw [List.map_append, HD.out, List.range_succ, List.map_append]
                    simp only [List.map_cons, List.map_nil, Fm.dat, datK, HXS.out, HL.out]
                case measure => simp [intOf]; omega
        · obtain rfl : k = 12 := by omega
          go_wp2_with fail
          go_ret2
          exact ⟨w.heap.size, l, rfl, HQ.out, frAt_of HF.out HFM.out, HD.out⟩
end Go.Proofs.YtfdpnephjpcnbaaDoor
