
/- What fine of the rings returns. -/
import Derived.Test.YtfdpnephjpcnbaaDoorBz16
import Derived.Test.YtfdpnephjpcnbaaDoorBz05
set_option linter.unusedSimpArgs false
set_option linter.unusedVariables false
set_option linter.unusedVariables false
set_option linter.unusedSimpArgs false
namespace Go.Sub
/-- Where the cut is; at N there is none. -/
def cutP (c : Int) (N : Nat) : Nat := if 0 ≤ c then (c % (N : Int)).toNat else N
def cutL (c : Int) (N : Nat) : List Bool := if 0 ≤ c then (List.replicate N false).set (c % (N : Int)).toNat true else List.replicate N false
theorem cutL_at (c : Int) (N i : Nat) (hN : 0 < N) (hi : i < N) : (cutL c N).getD i false = (i == cutP c N) := by
  unfold cutL cutP
  have h0 := Int.emod_nonneg c (show (N : Int) ≠ 0 by omega)
  have h1 := Int.emod_lt_of_pos c (show (0 : Int) < N by omega)
  split
  · by_cases e : i = (c % (N : Int)).toNat
    · subst e
      simp [List.getD, hi]
    · have e' : ¬ (c % (N : Int)).toNat = i := fun h => e h.symm
      simp [List.getD, List.getElem?_set, e', hi, e]
  · have e : ¬ i = N := by omega
    simp [List.getD, hi, e]
theorem cutL_len (c : Int) (N : Nat) : (cutL c N).length = N := by unfold cutL; split <;> simp
theorem cutP_lt (c : Int) (N : Nat) (hN : 0 < N) : cutP c N < N + 1 := by
  unfold cutP
  have h1 := Int.emod_lt_of_pos c (show (0 : Int) < N by omega)
  have h0 := Int.emod_nonneg c (show (N : Int) ≠ 0 by omega)
  split <;> omega
end Go.Sub
namespace Go.Proofs.YtfdpnephjpcnbaaDoor
open Go.RowKit Go.Sub
/-- The number of nodes, the sender, and two rings. -/
def RetFine (N F : Nat) (x2 x3 : Int) (w : World) (e : Ending) (w' : World) : Prop := ∃ a b, e = .returned (.tuple #[.int .i64 (N : Int), .int .i64 (F : Int), .agg #[.slice (some ⟨a, 0, none⟩) N N, .slice (some ⟨b, 0, none⟩) N N]]) ∧ Q w w' ∧
  HB w' a (cellsB (cutL x2 N)) 4 ∧ HB w' b (cellsB (cutL x3 N)) 4
attribute [local go_sem ↓] Go.wp_at_zero Go.wp_at_succ
set_option maxRecDepth 100000 in
set_option maxHeartbeats 4000000 in
theorem fine_c (x0 x1 x2 x3 : Int) (N F : Nat) (w : World) (hN : 3 + x0 % 12 = (N : Int)) (hF : x1 % (N : Int) = (F : Int)) :
    Calls Tryd.prog 22 #[.agg #[.int .i64 x0, .int .i64 x1, .int .i64 x2, .int .i64 x3]] w (RetFine N F x2 x3 w) := by
  have n1 : 3 ≤ N := by omega
  have n2 : N ≤ 14 := by omega
  have hmk := fun w' => make_bool w' (N : Int) N rfl (by omega)
  have HN := Lib.hid hN
  have HF := Lib.hid hF
  have c0 := Int.emod_nonneg x0 (show (12 : Int) ≠ 0 by decide)
  have c1 := Int.emod_lt_of_pos x0 (show (0 : Int) < 12 by decide)
  have hE : 3 + x0 % 12 = (N : Int) := hN
  clear hN hF
  have hA : (decide (0 ≤ x2)) = true ∨ (decide (0 ≤ x2)) = false := by cases decide (0 ≤ x2) <;> simp
  have hB : (decide (0 ≤ x3)) = true ∨ (decide (0 ≤ x3)) = false := by cases decide (0 ≤ x3) <;> simp
  go_enter Tryd.func22, Tryd.ntmps22
  go_upto_region 2 with (go_at_call 5; (with_reducible refine (tpwithin_any _ _ _ (by omega) (by omega)).mono ?_); rintro e w' ⟨rfl, rfl⟩)
  clear hE
  go_cut [6] (fun s6 wx => ∃ sa sb p, s6 = .pointer (some ⟨p, 0, none⟩) ∧ Q ((w.alloc (.cells #[Value.int .i64 x0, Value.int .i64 x1, Value.int .i64 x2, Value.int .i64 x3] 23)).alloc (.cells #[Value.slice none 0 0, Value.slice none 0 0] 68)) wx ∧ HB wx sa (cellsB (List.replicate N false)) 4 ∧ HB wx sb (cellsB (List.replicate N false)) 4 ∧ HB wx p #[.slice (some ⟨sa, 0, none⟩) N N, .slice (some ⟨sb, 0, none⟩) N N] 68 ∧ w.heap.size + 1 < sa ∧ w.heap.size + 1 < sb ∧ w.heap.size + 1 < p ∧ sa ≠ sb ∧ sa ≠ p ∧ sb ≠ p)
  case first =>
    go_region_held3 (fun w' => True) (trivial) (fail)
    all_goals (go_wp2_with fail)
    all_goals go_meet
    all_goals clear hmk HN HF c0 c1
    all_goals (first
      | (refine ⟨w.heap.size + 1 + 1, w.heap.size + 1 + 1 + 1, w.heap.size + 1 + 1 + 1 + 1, rfl, ?_, ?_, ?_, ?_, by omega, by omega, by omega, by omega, by omega, by omega⟩ <;> (first | ((repeat' (first | (with_reducible exact Q.refl _) | (with_reducible refine Q.alloc ?_ _) | (with_reducible refine Q.jk ?_ _) | (with_reducible refine Q.drew ?_))); done) | ((repeat' (first | (with_reducible refine HB.drew ?_) | (with_reducible refine HB.jk ?_ _) | ((with_reducible refine HB.new _ _ _ _ ?_); first | (with_reducible rfl) | (simp only [World.size_jk, World.size_alloc, World.size_drew]; done)) | (with_reducible refine HB.alloc ?_ _))); done)))
      | (refine ⟨w.heap.size + 1 + 1, w.heap.size + 1 + 1 + 1 + 1, w.heap.size + 1 + 1 + 1, rfl, ?_, ?_, ?_, ?_, by omega, by omega, by omega, by omega, by omega, by omega⟩ <;> (first | ((repeat' (first | (with_reducible exact Q.refl _) | (with_reducible refine Q.alloc ?_ _) | (with_reducible refine Q.jk ?_ _) | (with_reducible refine Q.drew ?_))); done) | ((repeat' (first | (with_reducible refine HB.drew ?_) | (with_reducible refine HB.jk ?_ _) | ((with_reducible refine HB.new _ _ _ _ ?_); first | (with_reducible rfl) | (simp only [World.size_jk, World.size_alloc, World.size_drew]; done)) | (with_reducible refine HB.alloc ?_ _))); done)))
      | (refine ⟨w.heap.size + 1 + 1 + 1, w.heap.size + 1 + 1, w.heap.size + 1 + 1 + 1 + 1, rfl, ?_, ?_, ?_, ?_, by omega, by omega, by omega, by omega, by omega, by omega⟩ <;> (first | ((repeat' (first | (with_reducible exact Q.refl _) | (with_reducible refine Q.alloc ?_ _) | (with_reducible refine Q.jk ?_ _) | (with_reducible refine Q.drew ?_))); done) | ((repeat' (first | (with_reducible refine HB.drew ?_) | (with_reducible refine HB.jk ?_ _) | ((with_reducible refine HB.new _ _ _ _ ?_); first | (with_reducible rfl) | (simp only [World.size_jk, World.size_alloc, World.size_drew]; done)) | (with_reducible refine HB.alloc ?_ _))); done)))
      | (refine ⟨w.heap.size + 1 + 1 + 1, w.heap.size + 1 + 1 + 1 + 1, w.heap.size + 1 + 1, rfl, ?_, ?_, ?_, ?_, by omega, by omega, by omega, by omega, by omega, by omega⟩ <;> (first | ((repeat' (first | (with_reducible exact Q.refl _) | (with_reducible refine Q.alloc ?_ _) | (with_reducible refine Q.jk ?_ _) | (with_reducible refine Q.drew ?_))); done) | ((repeat' (first | (with_reducible refine HB.drew ?_) | (with_reducible refine HB.jk ?_ _) | ((with_reducible refine HB.new _ _ _ _ ?_); first | (with_reducible rfl) | (simp only [World.size_jk, World.size_alloc, World.size_drew]; done)) | (with_reducible refine HB.alloc ?_ _))); done)))
      | (refine ⟨w.heap.size + 1 + 1 + 1 + 1, w.heap.size + 1 + 1, w.heap.size + 1 + 1 + 1, rfl, ?_, ?_, ?_, ?_, by omega, by omega, by omega, by omega, by omega, by omega⟩ <;> (first | ((repeat' (first | (with_reducible exact Q.refl _) | (with_reducible refine Q.alloc ?_ _) | (with_reducible refine Q.jk ?_ _) | (with_reducible refine Q.drew ?_))); done) | ((repeat' (first | (with_reducible refine HB.drew ?_) | (with_reducible refine HB.jk ?_ _) | ((with_reducible refine HB.new _ _ _ _ ?_); first | (with_reducible rfl) | (simp only [World.size_jk, World.size_alloc, World.size_drew]; done)) | (with_reducible refine HB.alloc ?_ _))); done)))
      | (refine ⟨w.heap.size + 1 + 1 + 1 + 1, w.heap.size + 1 + 1 + 1, w.heap.size + 1 + 1, rfl, ?_, ?_, ?_, ?_, by omega, by omega, by omega, by omega, by omega, by omega⟩ <;> (first | ((repeat' (first | (with_reducible exact Q.refl _) | (with_reducible refine Q.alloc ?_ _) | (with_reducible refine Q.jk ?_ _) | (with_reducible refine Q.drew ?_))); done) | ((repeat' (first | (with_reducible refine HB.drew ?_) | (with_reducible refine HB.jk ?_ _) | ((with_reducible refine HB.new _ _ _ _ ?_); first | (with_reducible rfl) | (simp only [World.size_jk, World.size_alloc, World.size_drew]; done)) | (with_reducible refine HB.alloc ?_ _))); done))))
  case rest =>
    obtain ⟨sa, sb, p, rfl, hq, ha, hb, hp, g1, g2, g3, g4, g5, g6⟩ := hcut
    clear hmk
    have HQ := Lib.hid hq
    have HA := Lib.hid ha
    have HB' := Lib.hid hb
    have HP := Lib.hid hp
    clear hq ha hb hp
    have HX := Lib.hid ((show HB ((w.alloc (.cells #[Value.int .i64 x0, Value.int .i64 x1, Value.int .i64 x2, Value.int .i64 x3] 23)).alloc (.cells #[Value.slice none 0 0, Value.slice none 0 0] 68)) w.heap.size #[Value.int .i64 x0, Value.int .i64 x1, Value.int .i64 x2, Value.int .i64 x3] 23 from (HB.new _ _ _ _ rfl).alloc _).q HQ.out)
    have fx := HX.out.cell 2
    simp only [List.getElem?_toArray, List.getElem?_cons_zero, List.getElem?_cons_succ] at fx
    go_upto_if 20 with (fail)
    go_cut [] (fun wx => Q ((w.alloc (.cells #[Value.int .i64 x0, Value.int .i64 x1, Value.int .i64 x2, Value.int .i64 x3] 23)).alloc (.cells #[Value.slice none 0 0, Value.slice none 0 0] 68)) wx ∧ HB wx sa (cellsB (cutL x2 N)) 4 ∧ HB wx sb (cellsB (List.replicate N false)) 4 ∧ HB wx p #[.slice (some ⟨sa, 0, none⟩) N N, .slice (some ⟨sb, 0, none⟩) N N] 68)
    case first =>
      rcases hA with hx | hx
      · have hx' : 0 ≤ x2 := by simpa using hx
        have e0 := Int.emod_nonneg x2 (show (N : Int) ≠ 0 by omega)
        have e1 := Int.emod_lt_of_pos x2 (show (0 : Int) < N by omega)
        obtain ⟨a, ea⟩ : ∃ a : Nat, x2 % (N : Int) = (a : Int) := ⟨(x2 % (N : Int)).toNat, by omega⟩
        have et : x2.tmod (N : Int) = (a : Int) := by rw [Int.tmod_eq_emod_of_nonneg hx', ea]
        have EL : Hid (cutL x2 N = (List.replicate N false).set a true) := Lib.hid (by
          unfold cutL
          rw [if_pos hx', ea, Int.toNat_natCast])
        have ha1 : a < N := by omega
        have ha2 : (a : Int) < (N : Int) := by omega
        have ha0 : (0 : Int) ≤ (a : Int) := by omega
        have f0 := HP.out.cell 0
        simp only [List.getElem?_toArray, List.getElem?_cons_zero, List.getElem?_cons_succ] at f0
        have hat : (cellsB (List.replicate N false))[a]? = some (.bool false) := by
          rw [cellsB_at (by simpa using ha1)]
          simp [List.getD, ha1]
        have f1 := (HA.out.cell a).trans hat
        have f2 := HA.out.soft a
        have o1 := HP.out.old
        have o2 := HA.out.old
        have o3 := HX.out.old
        clear hat e0 e1
        go_wp2_with fail
        refine wp_region_tail 7 (by kernel_rfl) (by kernel_rfl) ?_
        simp only [List.take_succ_cons, List.take_zero, List.drop_succ_cons, List.drop_zero]
        repeat (go_big_quiet_step (fail))
        refine wpQuiet_nil ?_
        intro _ hw'
        obtain ⟨kq, rfl⟩ := hw'
        go_wp2_with fail
        go_meet
        case rel =>
          refine ⟨(HQ.out.setCell (by simp; omega) _).jk kq, ?_⟩
          rw [EL.out, ← cellsB_set]
          exact ⟨(HA.out.set a _).jk kq, (HB'.out.other g4).jk kq, (HP.out.other g5).jk kq⟩
      · have EL : Hid (cutL x2 N = List.replicate N false) := Lib.hid (by
          unfold cutL
          rw [if_neg (by simpa using hx)])
        have hx' : x2 < 0 := by simpa using hx
        go_wp2_with fail
        go_meet
        case rel => rw [EL.out]; exact ⟨HQ.out, HA.out, HB'.out, HP.out⟩
    case rest =>
    obtain ⟨hq, ha, hb, hp⟩ := hcut
    clear HQ HA HB' HP HX fx
    have HQ := Lib.hid hq
    have HA := Lib.hid ha
    have HB' := Lib.hid hb
    have HP := Lib.hid hp
    clear hq ha hb hp
    have HX := Lib.hid ((show HB ((w.alloc (.cells #[Value.int .i64 x0, Value.int .i64 x1, Value.int .i64 x2, Value.int .i64 x3] 23)).alloc (.cells #[Value.slice none 0 0, Value.slice none 0 0] 68)) w.heap.size #[Value.int .i64 x0, Value.int .i64 x1, Value.int .i64 x2, Value.int .i64 x3] 23 from (HB.new _ _ _ _ rfl).alloc _).q HQ.out)
    have fx := HX.out.cell 3
    simp only [List.getElem?_toArray, List.getElem?_cons_zero, List.getElem?_cons_succ] at fx
    go_upto_if 31 with (fail)
    go_cut [] (fun wx => Q ((w.alloc (.cells #[Value.int .i64 x0, Value.int .i64 x1, Value.int .i64 x2, Value.int .i64 x3] 23)).alloc (.cells #[Value.slice none 0 0, Value.slice none 0 0] 68)) wx ∧ HB wx sa (cellsB (cutL x2 N)) 4 ∧ HB wx sb (cellsB (cutL x3 N)) 4 ∧ HB wx p #[.slice (some ⟨sa, 0, none⟩) N N, .slice (some ⟨sb, 0, none⟩) N N] 68)
    case first =>
      rcases hB with hx | hx
      · have hx' : 0 ≤ x3 := by simpa using hx
        have e0 := Int.emod_nonneg x3 (show (N : Int) ≠ 0 by omega)
        have e1 := Int.emod_lt_of_pos x3 (show (0 : Int) < N by omega)
        obtain ⟨a, ea⟩ : ∃ a : Nat, x3 % (N : Int) = (a : Int) := ⟨(x3 % (N : Int)).toNat, by omega⟩
        have et : x3.tmod (N : Int) = (a : Int) := by rw [Int.tmod_eq_emod_of_nonneg hx', ea]
        have EL : Hid (cutL x3 N = (List.replicate N false).set a true) := Lib.hid (by
          unfold cutL
          rw [if_pos hx', ea, Int.toNat_natCast])
        have ha1 : a < N := by omega
        have ha2 : (a : Int) < (N : Int) := by omega
        have ha0 : (0 : Int) ≤ (a : Int) := by omega
        have f0 := HP.out.cell 1
        simp only [List.getElem?_toArray, List.getElem?_cons_zero, List.getElem?_cons_succ] at f0
        have hat : (cellsB (List.replicate N false))[a]? = some (.bool false) := by
          rw [cellsB_at (by simpa using ha1)]
          simp [List.getD, ha1]
        have f1 := (HB'.out.cell a).trans hat
        have f2 := HB'.out.soft a
        have o1 := HP.out.old
        have o2 := HB'.out.old
        have o3 := HX.out.old
        clear hat e0 e1
        go_wp2_with fail
        refine wp_region_tail 7 (by kernel_rfl) (by kernel_rfl) ?_
        simp only [List.take_succ_cons, List.take_zero, List.drop_succ_cons, List.drop_zero]
        repeat (go_big_quiet_step (fail))
        refine wpQuiet_nil ?_
        intro _ hw'
        obtain ⟨kq, rfl⟩ := hw'
        go_wp2_with fail
        go_meet
        case rel =>
          refine ⟨(HQ.out.setCell (by simp; omega) _).jk kq, ?_⟩
          rw [EL.out, ← cellsB_set]
          exact ⟨(HA.out.other (Ne.symm g4)).jk kq, (HB'.out.set a _).jk kq, (HP.out.other g6).jk kq⟩
      · have EL : Hid (cutL x3 N = List.replicate N false) := Lib.hid (by
          unfold cutL
          rw [if_neg (by simpa using hx)])
        have hx' : x3 < 0 := by simpa using hx
        go_wp2_with fail
        go_meet
        case rel => rw [EL.out]; exact ⟨HQ.out, HA.out, HB'.out, HP.out⟩
    case rest =>
    obtain ⟨hq, ha, hb, hp⟩ := hcut
    clear HQ HA HB' HP HX fx
    have HQ := Lib.hid hq
    have HA := Lib.hid ha
    have HB' := Lib.hid hb
    have HP := Lib.hid hp
    clear hq ha hb hp
    have HX := Lib.hid ((show HB ((w.alloc (.cells #[Value.int .i64 x0, Value.int .i64 x1, Value.int .i64 x2, Value.int .i64 x3] 23)).alloc (.cells #[Value.slice none 0 0, Value.slice none 0 0] 68)) w.heap.size #[Value.int .i64 x0, Value.int .i64 x1, Value.int .i64 x2, Value.int .i64 x3] 23 from (HB.new _ _ _ _ rfl).alloc _).q HQ.out)
    obtain ⟨k2, ek⟩ := HQ.out
    have f0 := HP.out.cell 0
    have f1 := HP.out.cell 1
    simp only [List.getElem?_toArray, List.getElem?_cons_zero, List.getElem?_cons_succ] at f0 f1
    have op := HP.out.old
    clear HX
    subst ek
    go_wp2_with fail
    have hF' : x1 % (N : Int) = (F : Int) := HF.out
    have FH : ∀ (o : Obj) (n : Nat), HB (((w.alloc (.cells #[Value.int .i64 x0, Value.int .i64 x1, Value.int .i64 x2, Value.int .i64 x3] 23)).alloc o).jk ⟨k2.os, n⟩) p #[.slice (some ⟨sa, 0, none⟩) N N, .slice (some ⟨sb, 0, none⟩) N N] 68 := fun o n => hb_swap HP.out (by simp; omega)
    have F0 : ∀ (o : Obj) (n : Nat), (((w.alloc (.cells #[Value.int .i64 x0, Value.int .i64 x1, Value.int .i64 x2, Value.int .i64 x3] 23)).alloc o).jk ⟨k2.os, n⟩).cell? ⟨p, 0, none⟩ = some (.slice (some ⟨sa, 0, none⟩) N N) := fun o n => (FH o n).cell 0
    have F1 : ∀ (o : Obj) (n : Nat), (((w.alloc (.cells #[Value.int .i64 x0, Value.int .i64 x1, Value.int .i64 x2, Value.int .i64 x3] 23)).alloc o).jk ⟨k2.os, n⟩).cell? ⟨p, 1, none⟩ = some (.slice (some ⟨sb, 0, none⟩) N N) := fun o n => (FH o n).cell 1
    clear FH
    go_region_held3 (fun w' => w'.cell? ⟨p, 0, none⟩ = some (.slice (some ⟨sa, 0, none⟩) N N) ∧ w'.cell? ⟨p, 1, none⟩ = some (.slice (some ⟨sb, 0, none⟩) N N) ∧ w'.cell? ⟨w.heap.size, 1, none⟩ = some (.int .i64 x1)) ((refine ⟨F0 _ _, F1 _ _, ?_⟩; simp [go_sem]; done)) ((go_at_call 5; (with_reducible refine (tpwithin_any _ _ _ (by omega) (by omega)).mono ?_); rintro e w' ⟨rfl, rfl⟩))
    clear hF' F0 F1 f0 f1 op
    go_wp2_with fail
    refine bodyPost_ret (v := .tuple #[.int .i64 (N : Int), .int .i64 (F : Int), .agg #[.slice (some ⟨sa, 0, none⟩) N N, .slice (some ⟨sb, 0, none⟩) N N]]) (by simp [results, Tryd.results22, go_sem]) rfl ?_
    refine ⟨sa, sb, rfl, ?_, ?_, ?_⟩
    · repeat' (first | exact Q.refl _ | refine Q.alloc ?_ _ | refine Q.jk ?_ _ | refine Q.drew ?_)
    · exact hb_swap (k := k2) HA.out (by simp; omega)
    · exact hb_swap (k := k2) HB'.out (by simp; omega)
end Go.Proofs.YtfdpnephjpcnbaaDoor
