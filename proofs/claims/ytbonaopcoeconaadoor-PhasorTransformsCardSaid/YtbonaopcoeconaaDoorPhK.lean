
/- What Check and Back of package phasor return for any window and any harmonics. -/
import Derived.Test.YtbonaopcoeconaaDoorPhB
import Derived.Test.YtbonaopcoeconaaDoorPhLaws
import Derived.Test.YtbonaopcoeconaaDoorCmp
namespace Go.Sub
/-- The error of a window of twelve numbers. -/
def chkE (x : Nat → Int) : Int := if (List.range 12).all (fun k => !brkB 16383 (x k)) then 0 else 2
theorem chkE_bad {x : Nat → Int} {k : Nat} (hk : k < 12) (h : brkB 16383 (x k) = true) : chkE x = 2 := by
  unfold chkE
  rw [if_neg]
  intro h1
  have := List.all_eq_true.1 h1 k (List.mem_range.2 hk)
  rw [h] at this
  cases this
theorem chkE_good {x : Nat → Int} (h : ∀ k, k < 12 → brkB 16383 (x k) = false) : chkE x = 0 := by
  unfold chkE
  rw [if_pos]
  apply List.all_eq_true.2
  intro k hk
  rw [h k (List.mem_range.1 hk)]
  rfl
/-- What the harmonics give at instant k, times 12. -/
def bk (c : Nat → Cy) (k : Nat) : Cy := sumC (fun h => (c h).turn ((h : Int) * k)) 12
def bkOK (c : Nat → Cy) (k : Nat) : Bool := Cy.eqB (bk c k) ⟨(bk c k).a, 0, 0, 0⟩ && (bk c k).a.tmod 12 == 0
def bkX (c : Nat → Cy) (k : Nat) : Int := (bk c k).a.tdiv 12
def backE (c : Nat → Cy) : Int :=
  if (List.range 12).all (fun h => wiB (c h) 1099511627776) then if (List.range 12).all (bkOK c) then chkE (bkX c) else 16 else 1
theorem bk_in {c : Nat → Cy} (h : ∀ j, j < 12 → wiB (c j) 1099511627776 = true) (k : Nat) : (bk c k).In 100000000000000 :=
  (sumC_in 12 fun j hj => Go.Proofs.YtbonaopcoeconaaDoor.turn_in _ (wiB_in (h j hj))).mono (by decide)
end Go.Sub
namespace Go.Proofs.YtbonaopcoeconaaDoor
open Go.RowKit Go.Sub

set_option maxHeartbeats 1000000 in
theorem phcheck_any (b o c : Nat) (x : Nat → Int) (w : World) (hw : Win w b o x) :
    Calls Tryd.prog 34 #[.slice (some ⟨b, o, none⟩) 12 c] w fun e w' => e = .returned (.int .i64 (chkE x)) ∧ w = w' := by
  go_enter Tryd.func34, Tryd.ntmps34
  go_wp2
  go_loop [10] (fun i => ∃ k : Nat, k ≤ 12 ∧ i = .int .i64 k ∧ ∀ j, j < k → brkB 16383 (x j) = false) (fun i => 12 - (intOf i).toNat)
  case atStart => exact ⟨0, by omega, rfl, fun j hj => absurd hj (Nat.not_lt_zero j)⟩
  case round =>
    obtain ⟨k, hk, rfl, hin⟩ := hrel
    have HI := Lib.hid hin
    clear hin
    by_cases hlt : k < 12
    · have hc := hw k hlt
      clear hw
      by_cases h1 : x k < -16383
      · have E := Lib.hid (chkE_bad (x := x) hlt (by simp [brkB, h1]))
        go_wp2
        go_ret
        exact ⟨by rw [E.out]; rfl, rfl⟩
      · by_cases h2 : 16383 < x k
        · have E := Lib.hid (chkE_bad (x := x) hlt (by simp [brkB, h2]))
          go_wp2
          go_ret
          exact ⟨by rw [E.out]; rfl, rfl⟩
        · go_wp2
          go_round
          case rel =>
            refine ⟨k + 1, by omega, by go_num, fun j hj => ?_⟩
            rcases Nat.lt_or_ge j k with h | h
            · exact HI.out j h
            · obtain rfl : j = k := by omega
              simp [brkB]
              omega
          case measure => simp [intOf]; omega
    · obtain rfl : k = 12 := by omega
      have E := Lib.hid (chkE_good (x := x) HI.out)
      clear hw
      go_wp2
      go_ret
      exact ⟨by rw [E.out]; rfl, rfl⟩

set_option maxHeartbeats 2000000 in
theorem phback1_c (h k : Nat) (b1 b7 : Nat) (cs : Array Value) (y : Cy) (w : World) (hh : h < 12) (hk : k < 12) [hb : Blk w b1 (.cells cs 52)]
    (c0 : cs[h * 4]? = some (.int .i64 y.a)) (c1 : cs[h * 4 + 1]? = some (.int .i64 y.b)) (c2 : cs[h * 4 + 2]? = some (.int .i64 y.c)) (c3 : cs[h * 4 + 3]? = some (.int .i64 y.d))
    (ck : w.cell? ⟨b7, 0, none⟩ = some (.int .i64 (k : Int))) (hy : y.In 100000000000000000) :
    Calls Tryd.prog 61 #[.int .i64 (h : Int), .pointer (some ⟨b1, 0, none⟩), .pointer (some ⟨b7, 0, none⟩)] w fun e w' => e = .returned (.tuple #[.agg #[.int .i64 (y.turn ((h : Int) * k)).a, .int .i64 (y.turn ((h : Int) * k)).b, .int .i64 (y.turn ((h : Int) * k)).c, .int .i64 (y.turn ((h : Int) * k)).d], .int .i64 0]) ∧ Q w w' := by
  have cb : ∀ i, w.cell? ⟨b1, i, none⟩ = cs[i]? := fun i => cell_of_row w b1 i cs _ (0, 0) hb.eq
  have d0 : w.cell? ⟨b1, h * 4, none⟩ = some (.int .i64 y.a) := by rw [cb]; exact c0
  have d1 : w.cell? ⟨b1, h * 4 + 1, none⟩ = some (.int .i64 y.b) := by rw [cb]; exact c1
  have d2 : w.cell? ⟨b1, h * 4 + 2, none⟩ = some (.int .i64 y.c) := by rw [cb]; exact c2
  have d3 : w.cell? ⟨b1, h * 4 + 3, none⟩ = some (.int .i64 y.d) := by rw [cb]; exact c3
  haveI := old_at d0
  haveI := old_at ck
  have h1 : (0 : Int) ≤ (h : Int) := by omega
  have h2 : (h : Int) < 12 := by omega
  have bm := bd_mul (n := 12) (m := 12) (a := (h : Int)) (b := (k : Int)) (by omega) (by omega) (by omega) (by omega)
  have bm1 : -1000 ≤ (h : Int) * (k : Int) := by omega
  have bm2 : (h : Int) * (k : Int) ≤ 1000 := by omega
  clear bm cb c0 c1 c2 c3
  go_enter Tryd.func61, Tryd.ntmps61
  go_wp2
  try simp only [List.append]
  refine wp_region_tail 9 (by kernel_rfl) (by kernel_rfl) ?_
  simp only [List.take_succ_cons, List.take_zero, List.drop_succ_cons, List.drop_zero]
  repeat (go_big_quiet_step ((go_at_call 37; exact Calls.jk_of (turn_c _ _ _ hy))))
  refine wpQuiet_nil ?_
  intro _ hw'
  obtain ⟨kq, rfl⟩ := hw'
  go_wp2
  refine bodyPost_ret (v := .tuple #[.agg #[.int .i64 (y.turn ((h : Int) * k)).a, .int .i64 (y.turn ((h : Int) * k)).b, .int .i64 (y.turn ((h : Int) * k)).c, .int .i64 (y.turn ((h : Int) * k)).d], .int .i64 0]) (by simp [results, Tryd.results61, go_sem]) rfl ⟨rfl, ?_⟩
  repeat' (first | exact Q.refl _ | refine Q.alloc ?_ _ | refine Q.jk ?_ _ | refine Q.drew ?_)

theorem index48_0 (c : Nat → Cy) (w : World) : (Instr.index 52 (.agg (cells48 c 12)) (.int .i64 0)).run Tryd.prog w = .ok (.agg #[.int .i64 (c 0).a, .int .i64 (c 0).b, .int .i64 (c 0).c, .int .i64 (c 0).d]) w := by kernel_rfl
theorem index48_1 (c : Nat → Cy) (w : World) : (Instr.index 52 (.agg (cells48 c 12)) (.int .i64 1)).run Tryd.prog w = .ok (.agg #[.int .i64 (c 1).a, .int .i64 (c 1).b, .int .i64 (c 1).c, .int .i64 (c 1).d]) w := by kernel_rfl
theorem index48_2 (c : Nat → Cy) (w : World) : (Instr.index 52 (.agg (cells48 c 12)) (.int .i64 2)).run Tryd.prog w = .ok (.agg #[.int .i64 (c 2).a, .int .i64 (c 2).b, .int .i64 (c 2).c, .int .i64 (c 2).d]) w := by kernel_rfl
theorem index48_3 (c : Nat → Cy) (w : World) : (Instr.index 52 (.agg (cells48 c 12)) (.int .i64 3)).run Tryd.prog w = .ok (.agg #[.int .i64 (c 3).a, .int .i64 (c 3).b, .int .i64 (c 3).c, .int .i64 (c 3).d]) w := by kernel_rfl
theorem index48_4 (c : Nat → Cy) (w : World) : (Instr.index 52 (.agg (cells48 c 12)) (.int .i64 4)).run Tryd.prog w = .ok (.agg #[.int .i64 (c 4).a, .int .i64 (c 4).b, .int .i64 (c 4).c, .int .i64 (c 4).d]) w := by kernel_rfl
theorem index48_5 (c : Nat → Cy) (w : World) : (Instr.index 52 (.agg (cells48 c 12)) (.int .i64 5)).run Tryd.prog w = .ok (.agg #[.int .i64 (c 5).a, .int .i64 (c 5).b, .int .i64 (c 5).c, .int .i64 (c 5).d]) w := by kernel_rfl
theorem index48_6 (c : Nat → Cy) (w : World) : (Instr.index 52 (.agg (cells48 c 12)) (.int .i64 6)).run Tryd.prog w = .ok (.agg #[.int .i64 (c 6).a, .int .i64 (c 6).b, .int .i64 (c 6).c, .int .i64 (c 6).d]) w := by kernel_rfl
theorem index48_7 (c : Nat → Cy) (w : World) : (Instr.index 52 (.agg (cells48 c 12)) (.int .i64 7)).run Tryd.prog w = .ok (.agg #[.int .i64 (c 7).a, .int .i64 (c 7).b, .int .i64 (c 7).c, .int .i64 (c 7).d]) w := by kernel_rfl
theorem index48_8 (c : Nat → Cy) (w : World) : (Instr.index 52 (.agg (cells48 c 12)) (.int .i64 8)).run Tryd.prog w = .ok (.agg #[.int .i64 (c 8).a, .int .i64 (c 8).b, .int .i64 (c 8).c, .int .i64 (c 8).d]) w := by kernel_rfl
theorem index48_9 (c : Nat → Cy) (w : World) : (Instr.index 52 (.agg (cells48 c 12)) (.int .i64 9)).run Tryd.prog w = .ok (.agg #[.int .i64 (c 9).a, .int .i64 (c 9).b, .int .i64 (c 9).c, .int .i64 (c 9).d]) w := by kernel_rfl
theorem index48_10 (c : Nat → Cy) (w : World) : (Instr.index 52 (.agg (cells48 c 12)) (.int .i64 10)).run Tryd.prog w = .ok (.agg #[.int .i64 (c 10).a, .int .i64 (c 10).b, .int .i64 (c 10).c, .int .i64 (c 10).d]) w := by kernel_rfl
theorem index48_11 (c : Nat → Cy) (w : World) : (Instr.index 52 (.agg (cells48 c 12)) (.int .i64 11)).run Tryd.prog w = .ok (.agg #[.int .i64 (c 11).a, .int .i64 (c 11).b, .int .i64 (c 11).c, .int .i64 (c 11).d]) w := by kernel_rfl
@[go_sem] theorem index48 (c : Nat → Cy) (k : Nat) (w : World) (hk : k < 12) : (Instr.index 52 (.agg (cells48 c 12)) (.int .i64 (k : Int))).run Tryd.prog w = .ok (.agg #[.int .i64 (c k).a, .int .i64 (c k).b, .int .i64 (c k).c, .int .i64 (c k).d]) w := by
  have hk' : k = 0 ∨ k = 1 ∨ k = 2 ∨ k = 3 ∨ k = 4 ∨ k = 5 ∨ k = 6 ∨ k = 7 ∨ k = 8 ∨ k = 9 ∨ k = 10 ∨ k = 11 := by omega
  rcases hk' with rfl | rfl | rfl | rfl | rfl | rfl | rfl | rfl | rfl | rfl | rfl | rfl
  · exact index48_0 c w
  · exact index48_1 c w
  · exact index48_2 c w
  · exact index48_3 c w
  · exact index48_4 c w
  · exact index48_5 c w
  · exact index48_6 c w
  · exact index48_7 c w
  · exact index48_8 c w
  · exact index48_9 c w
  · exact index48_10 c w
  · exact index48_11 c w
theorem zero12 (x : Nat → Int) : #[.int .i64 0, .int .i64 0, .int .i64 0, .int .i64 0, .int .i64 0, .int .i64 0, .int .i64 0, .int .i64 0, .int .i64 0, .int .i64 0, .int .i64 0, .int .i64 0] = cellsI (fun j => if j < 0 then x j else 0) 12 := rfl
@[go_sem] theorem make12 (w : World) : (Instr.makeSlice 42 (.int .i64 12) (.int .i64 12)).run Tryd.prog w = .ok (.slice (some ⟨w.heap.size, 0, none⟩) 12 12) (w.alloc (.cells #[.int .i64 0, .int .i64 0, .int .i64 0, .int .i64 0, .int .i64 0, .int .i64 0, .int .i64 0, .int .i64 0, .int .i64 0, .int .i64 0, .int .i64 0, .int .i64 0] 3)) := by kernel_rfl
/-- Back's result: a window, or none and an error. -/
def RetBack (w : World) (c : Nat → Cy) (e : Ending) (w' : World) : Prop :=
  Q w w' ∧ ((backE c = 0 ∧ ∃ g cp, e = .returned (.tuple #[.slice (some ⟨g, 0, none⟩) 12 cp, .int .i64 0]) ∧ Win w' g 0 (bkX c)) ∨ (backE c ≠ 0 ∧ e = .returned (.tuple #[.slice none 0 0, .int .i64 (backE c)])))
def AllIn (c : Nat → Cy) (k : Nat) : Prop := ∀ j, j < k → wiB (c j) 1099511627776 = true
def AllOK (c : Nat → Cy) (k : Nat) : Prop := ∀ j, j < k → bkOK c j = true
theorem backE_1 {c : Nat → Cy} {k : Nat} (hk : k < 12) (h : wiB (c k) 1099511627776 = false) : backE c = 1 := by
  unfold backE
  rw [if_neg]
  intro h1
  have := List.all_eq_true.1 h1 k (List.mem_range.2 hk)
  rw [h] at this
  cases this
theorem backE_16 {c : Nat → Cy} {k : Nat} (hin : AllIn c 12) (hk : k < 12) (h : bkOK c k = false) : backE c = 16 := by
  unfold backE
  rw [if_pos (List.all_eq_true.2 fun j hj => hin j (List.mem_range.1 hj)), if_neg]
  intro h1
  have := List.all_eq_true.1 h1 k (List.mem_range.2 hk)
  rw [h] at this
  cases this
theorem backE_ok {c : Nat → Cy} (hin : AllIn c 12) (h : AllOK c 12) : backE c = chkE (bkX c) := by
  unfold backE
  rw [if_pos (List.all_eq_true.2 fun j hj => hin j (List.mem_range.1 hj)), if_pos (List.all_eq_true.2 fun j hj => h j (List.mem_range.1 hj))]
theorem cells48_get (y : Nat → Cy) (k : Nat) (hk : k < 12) : (cells48 y 12)[k * 4]? = some (.int .i64 (y k).a) ∧ (cells48 y 12)[k * 4 + 1]? = some (.int .i64 (y k).b) ∧ (cells48 y 12)[k * 4 + 2]? = some (.int .i64 (y k).c) ∧ (cells48 y 12)[k * 4 + 3]? = some (.int .i64 (y k).d) := by
  have hk' : k = 0 ∨ k = 1 ∨ k = 2 ∨ k = 3 ∨ k = 4 ∨ k = 5 ∨ k = 6 ∨ k = 7 ∨ k = 8 ∨ k = 9 ∨ k = 10 ∨ k = 11 := by omega
  rcases hk' with rfl | rfl | rfl | rfl | rfl | rfl | rfl | rfl | rfl | rfl | rfl | rfl <;> exact ⟨rfl, rfl, rfl, rfl⟩
theorem cellsI_set (x : Nat → Int) (k n : Nat) (hk : k < n) : (cellsI (fun j => if j < k then x j else 0) n).setIfInBounds k (.int .i64 (x k)) = cellsI (fun j => if j < k + 1 then x j else 0) n := by
  apply Array.ext_getElem?
  intro i
  rw [Array.getElem?_setIfInBounds, cellsI_size]
  by_cases hi : k = i
  · subst hi
    rw [if_pos rfl, if_pos hk, cellsI_at _ _ _ hk]
    simp
  · rw [if_neg hi]
    by_cases hn : i < n
    · rw [cellsI_at _ _ _ hn, cellsI_at _ _ _ hn]
      have : i < k ↔ i < k + 1 := by omega
      simp [this]
    · rw [Array.getElem?_eq_none (by rw [cellsI_size]; omega), Array.getElem?_eq_none (by rw [cellsI_size]; omega)]
set_option maxRecDepth 100000 in
set_option maxHeartbeats 8000000 in
theorem phback_c (c : Nat → Cy) (w : World) :
    Calls Tryd.prog 40 #[.agg (cells48 c 12)] w (RetBack w c) := by
  go_enter Tryd.func40, Tryd.ntmps40
  go_wp2
  go_loopw [12] (fun i wr => ∃ k : Nat, k ≤ 12 ∧ i = .int .i64 k ∧ Q (w.alloc (.cells (cells48 c 12) 52)) wr ∧ AllIn c k) (fun i _ => 12 - (intOf i).toNat)
  case atStart => exact ⟨0, by omega, rfl, Q.refl _, fun j hj => absurd hj (Nat.not_lt_zero j)⟩
  case round =>
    obtain ⟨k, hk, rfl, ⟨kw, rfl⟩, hin⟩ := hrel
    have HI := Lib.hid hin
    clear hin
    by_cases hlt : k < 12
    · have kk : (0 : Int) ≤ (k : Int) := by omega
      have kk2 : (k : Int) < 12 := by omega
      cases hwi : wiB (c k) 1099511627776 with
      | true =>
        have hwi' : wiB ⟨(c k).a, (c k).b, (c k).c, (c k).d⟩ 1099511627776 = true := hwi
        go_wp2_with (go_at_call 60; refine (phwithin_any _ _ _ _ _ _ (by decide) (by decide)).mono ?_; rintro e w' ⟨rfl, kj, rfl⟩)
        go_roundw
        case rel =>
          refine ⟨k + 1, by omega, by go_num, by repeat' (first | exact Q.refl _ | refine Q.alloc ?_ _ | refine Q.jk ?_ _ | refine Q.drew ?_), fun j hj => ?_⟩
          rcases Nat.lt_or_ge j k with h | h
          · exact HI.out j h
          · obtain rfl : j = k := by omega
            exact hwi
        case measure => simp [intOf]; omega
      | false =>
        have hwi' : wiB ⟨(c k).a, (c k).b, (c k).c, (c k).d⟩ 1099511627776 = false := hwi
        have E := Lib.hid (backE_1 (c := c) hlt hwi)
        go_wp2_with (go_at_call 60; refine (phwithin_any _ _ _ _ _ _ (by decide) (by decide)).mono ?_; rintro e w' ⟨rfl, kj, rfl⟩)
        go_ret2
        refine ⟨?_, .inr ⟨by rw [E.out]; decide, by rw [E.out]; rfl⟩⟩
        repeat' (first | exact Q.refl _ | refine Q.alloc ?_ _ | refine Q.jk ?_ _ | refine Q.drew ?_)
    · obtain rfl : k = 12 := by omega
      have HB := Lib.hid (fun k => bk_in HI.out k)
      rw [show ((12 : Nat) : Int) = 12 from rfl]
      go_wp2
      rw [zero12 (bkX c)]
      go_loopw [22] (fun i wr => ∃ k : Nat, k ≤ 12 ∧ i = .int .i64 k ∧ Q (((w.alloc (.cells (cells48 c 12) 52)).jk kw).alloc (.cells (cellsI (fun j => if j < k then bkX c j else 0) 12) 3)) wr ∧ AllOK c k) (fun i _ => 12 - (intOf i).toNat)
      case atStart => exact ⟨0, by omega, rfl, Q.refl _, fun j hj => absurd hj (Nat.not_lt_zero j)⟩
      case round =>
        obtain ⟨k, hk2, rfl, ⟨kv, rfl⟩, hok⟩ := hrel
        have HO := Lib.hid hok
        clear hok
        by_cases hlt2 : k < 12
        · have kk : (0 : Int) ≤ (k : Int) := by omega
          have kk2 : (k : Int) < 12 := by omega
          have hbi := HB.out k
          go_wp2_with fail
          go_at_call 51
          refine (phsum_c _ _ (fun h => (c h).turn ((h : Int) * k)) _ (fun _ _ => by kernel_rfl) ?_ ?_).mono ?_
          · rintro h w' hh ⟨kz, rfl⟩
            obtain ⟨g0, g1, g2, g3⟩ := cells48_get c h hh
            exact phback1_c h k _ _ (cells48 c 12) (c h) _ hh hlt2 g0 g1 g2 g3 (by simp [go_sem]) ((wiB_in (HI.out h hh)).mono (by decide))
          · intro h hh
            exact (turn_in _ (wiB_in (HI.out h hh))).mono (by decide)
          · rintro e w' ⟨rfl, kj, rfl⟩
            have eb : sumC (fun h => (c h).turn ((h : Int) * k)) 12 = bk c k := rfl
            rw [eb]
            clear eb
            have hb1 := hbi.1
            have hb2 := hbi.2.1
            have HS := Lib.hid (cellsI_set (bkX c) k 12 hlt2)
            have hcz : (cellsI (fun j => if j < k then bkX c j else 0) 12)[k]? = some (.int .i64 0) := by
              rw [cellsI_at _ _ _ hlt2]
              simp
            cases h1 : Cy.eqB ⟨(bk c k).a, (bk c k).b, (bk c k).c, (bk c k).d⟩ ⟨(bk c k).a, 0, 0, 0⟩ with
            | false =>
              have E := Lib.hid (backE_16 HI.out hlt2 (by unfold bkOK; rw [show Cy.eqB (bk c k) ⟨(bk c k).a, 0, 0, 0⟩ = false from h1]; rfl))
              go_wp2
              go_ret2
              refine ⟨?_, .inr ⟨by rw [E.out]; decide, by rw [E.out]; rfl⟩⟩
              repeat' (first | exact Q.refl _ | refine Q.alloc ?_ _ | refine Q.jk ?_ _ | refine Q.drew ?_)
            | true =>
              by_cases h2 : (bk c k).a.tmod 12 = 0
              · go_wp2
                go_roundw
                case rel =>
                  refine ⟨k + 1, by omega, by go_num, ?_, fun j hj => ?_⟩
                  · rw [← HS.out]
                    repeat' (first | exact Q.refl _ | refine Q.alloc ?_ _ | refine Q.jk ?_ _ | refine Q.drew ?_)
                  · rcases Nat.lt_or_ge j k with h | h
                    · exact HO.out j h
                    · obtain rfl : j = k := by omega
                      unfold bkOK
                      rw [show Cy.eqB (bk c j) ⟨(bk c j).a, 0, 0, 0⟩ = true from h1, h2]
                      rfl
                case measure => simp [intOf]; omega
              · have E := Lib.hid (backE_16 HI.out hlt2 (by unfold bkOK; rw [show Cy.eqB (bk c k) ⟨(bk c k).a, 0, 0, 0⟩ = true from h1]; simpa using h2))
                have h3 : ((bk c k).a.tmod 12 != 0) = true := by simpa using h2
                go_wp2
                go_ret2
                refine ⟨?_, .inr ⟨by rw [E.out]; decide, by rw [E.out]; rfl⟩⟩
                repeat' (first | exact Q.refl _ | refine Q.alloc ?_ _ | refine Q.jk ?_ _ | refine Q.drew ?_)
        · obtain rfl : k = 12 := by omega
          have E := Lib.hid (backE_ok HI.out HO.out)
          have HW : Hid (∀ kz, Win (((((w.alloc (.cells (cells48 c 12) 52)).jk kw).alloc (.cells (cellsI (fun j => if j < 12 then bkX c j else 0) 12) 3)).jk kz)) (w.heap.size + 1 + kw.os.size) 0 (bkX c)) := Lib.hid (fun kz j hj => by
            rw [Nat.zero_add, World.cell?_jk, World.cell?_alloc_at _ _ _ _ (by simp [go_sem]), cellsI_at _ _ _ hj]
            simp [hj])
          by_cases hz : chkE (bkX c) = 0
          · go_wp2_with (go_at_call 34; refine (phcheck_any _ _ _ (bkX c) _ (HW.out _)).mono ?_; rintro e w' ⟨rfl, rfl⟩)
            go_ret2
            refine ⟨by repeat' (first | exact Q.refl _ | refine Q.alloc ?_ _ | refine Q.jk ?_ _ | refine Q.drew ?_), .inl ⟨by rw [E.out, hz], _, _, rfl, HW.out _⟩⟩
          · have hz2 : (chkE (bkX c) != 0) = true := by simpa using hz
            go_wp2_with (go_at_call 34; refine (phcheck_any _ _ _ (bkX c) _ (HW.out _)).mono ?_; rintro e w' ⟨rfl, rfl⟩)
            go_ret2
            refine ⟨by repeat' (first | exact Q.refl _ | refine Q.alloc ?_ _ | refine Q.jk ?_ _ | refine Q.drew ?_), .inr ⟨by rw [E.out]; exact hz, by rw [E.out]; rfl⟩⟩

end Go.Proofs.YtbonaopcoeconaaDoor
