
/- PhasorHalves: the walk. -/
import Derived.Test.YtbonaopcoeconaaDoorPhB
import Derived.Test.YtbonaopcoeconaaDoorPhLaws
namespace Go.Sub
def hbv (x : Nat → Int) (j : Nat) : Int := winV (x (j % 6))
def hav (x : Nat → Int) (j : Nat) : Int := if j < 6 then hbv x j else 0 - hbv x j
theorem hbv_bd (x : Nat → Int) (j : Nat) : -16383 ≤ hbv x j ∧ hbv x j ≤ 16383 := by unfold hbv winV; omega
theorem hav_bd (x : Nat → Int) (j : Nat) : -16383 ≤ hav x j ∧ hav x j ≤ 16383 := by
  have := hbv_bd x j
  unfold hav
  split <;> omega
theorem hav_half (x : Nat → Int) (h : Int) : harm (hav x) (2 * h) = ⟨0, 0, 0, 0⟩ := by
  refine harm_even _ h fun k hk => ?_
  have e1 : hav x k = hbv x k := if_pos hk
  have e2 : hav x (k + 6) = 0 - hbv x (k + 6) := if_neg (by omega)
  have e3 : hbv x (k + 6) = hbv x k := by unfold hbv; congr 2; omega
  rw [e1, e2, e3]
  omega
theorem hbv_half (x : Nat → Int) (h : Int) : harm (hbv x) (2 * h + 1) = ⟨0, 0, 0, 0⟩ := by
  refine harm_odd _ h fun k hk => ?_
  unfold hbv
  congr 2
  omega
def allz (x : Nat → Int) (k : Nat) : Bool := (List.range k).all fun j => hbv x j == 0
theorem allz_succ (x : Nat → Int) (k : Nat) : allz x (k + 1) = (allz x k && hbv x k == 0) := by simp [allz, List.range_succ]
theorem sq0 (a : Int) (h : a * a ≤ 0) : a = 0 := by
  rcases Int.lt_trichotomy a 0 with h1 | h1 | h1
  · have := Int.mul_pos_of_neg_of_neg h1 h1
    omega
  · exact h1
  · have := Int.mul_pos h1 h1
    omega
theorem sqn (a : Int) : 0 ≤ a * a := by
  rcases Int.le_total 0 a with h | h
  · exact Int.mul_nonneg h h
  · exact Int.mul_nonneg_of_nonpos_of_nonpos h h
theorem enrg_zero (x : Nat → Int) : enrg (hav x) 12 = 0 ↔ allz x 6 = true := by
  have hb : ∀ j, hav x j * hav x j = hbv x j * hbv x j := by
    intro j
    unfold hav
    split
    · rfl
    · have : (0 - hbv x j) * (0 - hbv x j) = hbv x j * hbv x j := by grind
      exact this
  have h6 : ∀ j, hbv x (j + 6) = hbv x j := by intro j; unfold hbv; congr 2; omega
  have e : enrg (hav x) 12 = 2 * (hbv x 0 * hbv x 0 + hbv x 1 * hbv x 1 + hbv x 2 * hbv x 2 + hbv x 3 * hbv x 3 + hbv x 4 * hbv x 4 + hbv x 5 * hbv x 5) := by
    have g0 := h6 0
    have g1 := h6 1
    have g2 := h6 2
    have g3 := h6 3
    have g4 := h6 4
    have g5 := h6 5
    simp only [Nat.reduceAdd] at g0 g1 g2 g3 g4 g5
    simp only [enrg, hb, g0, g1, g2, g3, g4, g5]
    omega
  have n0 := sqn (hbv x 0)
  have n1 := sqn (hbv x 1)
  have n2 := sqn (hbv x 2)
  have n3 := sqn (hbv x 3)
  have n4 := sqn (hbv x 4)
  have n5 := sqn (hbv x 5)
  have hz : allz x 6 = true ↔ hbv x 0 = 0 ∧ hbv x 1 = 0 ∧ hbv x 2 = 0 ∧ hbv x 3 = 0 ∧ hbv x 4 = 0 ∧ hbv x 5 = 0 := by
    simp [allz, List.range_succ]
  rw [hz, e]
  constructor
  · intro h
    exact ⟨sq0 _ (by omega), sq0 _ (by omega), sq0 _ (by omega), sq0 _ (by omega), sq0 _ (by omega), sq0 _ (by omega)⟩
  · rintro ⟨h0, h1, h2, h3, h4, h5⟩
    rw [h0, h1, h2, h3, h4, h5]
    rfl
end Go.Sub
namespace Go.Proofs.YtbonaopcoeconaaDoor
open Go.RowKit Go.Sub
set_option maxHeartbeats 4000000 in
theorem phHalves_walk (x : Nat → Int) (h : Int) (w : World) (hr : RootsOK w) :
    Calls Tryd.prog 8 #[.agg (cellsI x 6), .int .i64 h] w fun e w' => e = .returned (.bool true) ∧ Q w w' := by
  have hh1 : 0 ≤ h % 6 := by omega
  have hh2 : h % 6 < 6 := by omega
  go_enter Tryd.func8, Tryd.ntmps8
  go_wp2_with (go_at_call 24; refine (known20_c _ (by repeat' (first | with_reducible exact hr | refine RootsOK.alloc ?_ _ | refine RootsOK.jk ?_ _ | refine RootsOK.drew ?_))).mono ?_; rintro e w' ⟨rfl, kj, rfl⟩)
  obtain ⟨W0, hW⟩ : ∃ W0, W0 = (w.alloc (Obj.cells (cellsI x 6) 47)).jk kj := ⟨_, rfl⟩
  rw [← hW]
  have HW := Lib.hid hW
  clear hW
  go_loopw [5, 6, 7] (fun va vb i wr => ∃ k : Nat, k ≤ 12 ∧ i = .int .i64 k ∧ Q W0 wr ∧ RowI W0 wr va ((List.range k).map (hav x)) ∧ RowI W0 wr vb ((List.range k).map (hbv x)) ∧ Apart va vb) (fun _ _ i _ => 12 - (intOf i).toNat)
  case atStart => exact ⟨0, by omega, rfl, Q.refl _, RowI.nil _ _, RowI.nil _ _, Apart.nil _⟩
  case round =>
    obtain ⟨k, hk, rfl, ⟨kw, rfl⟩, ra, rb, ab⟩ := hrel
    have RA := Lib.hid ra
    have RB := Lib.hid rb
    have AB := Lib.hid ab
    clear ra rb ab
    by_cases hlt : k < 12
    · have hx : (W0.jk kw).cell? ⟨w.heap.size, k % 6, none⟩ = some (.int .i64 (x (k % 6))) := by
        rw [HW.out]
        simp only [World.cell?_jk]
        rw [World.cell?_alloc_at _ _ _ _ rfl]
        exact cellsI_at x 6 (k % 6) (by omega)
      have kk : (0 : Int) ≤ (k : Int) := by omega
      have kk2 : (k : Int) < 12 := by omega
      have wb := Lib.hid (hbv_bd x k)
      by_cases h6 : (6 : Int) ≤ (k : Int)
      all_goals
        go_wp2_with (first | (go_at_call 28; refine (within20_c _ _ _ (by decide) (by decide)).mono ?_; rintro e w' ⟨rfl, rfl⟩) | (at_builtin; refine wpList_app_int rfl _ _ rfl W0 _ _ (hbv x k) _ (by rfl) (by rfl) (RB.out.q ?c1) ?c2 ?c3 ?c4 ?_))
        case c1 => repeat' (first | exact Q.refl _ | refine Q.alloc ?_ _ | refine Q.jk ?_ _ | refine Q.drew ?_)
        case c2 => simp [go_sem, hbv, winV]
        case c3 => first | omega | (simp; omega)
        case c4 => repeat' (first | exact Q.refl _ | refine Q.alloc ?_ _ | refine Q.jk ?_ _ | refine Q.drew ?_)
        intro vb' k1 rb' gb
        rw [range_snoc (hbv x)] at rb'
        obtain ⟨ra1, ab1⟩ := (RA.out.q (by repeat' (first | exact Q.refl _ | refine Q.alloc ?_ _ | refine Q.jk ?_ _ | refine Q.drew ?_))).grown gb AB.out.symm
        have RB1 := Lib.hid rb'
        have RA1 := Lib.hid ra1
        have AB1 := Lib.hid ab1
        clear rb' gb ra1 ab1 hx
        go_wp2_with (first | (at_builtin; refine wpList_app_int rfl _ _ rfl W0 _ _ (hav x k) _ (by rfl) (by rfl) (RA1.out.q ?d1) ?d2 ?d3 ?d4 ?_))
        case d1 => repeat' (first | exact Q.refl _ | refine Q.alloc ?_ _ | refine Q.jk ?_ _ | refine Q.drew ?_)
        case d2 => simp [go_sem, hav, hbv, winV]; intro; omega
        case d3 => first | omega | (simp; omega)
        case d4 => repeat' (first | exact Q.refl _ | refine Q.alloc ?_ _ | refine Q.jk ?_ _ | refine Q.drew ?_)
        intro va' k2 ra' ga
        rw [range_snoc (hav x)] at ra'
        obtain ⟨rb2, ab2⟩ := (RB1.out.q (by repeat' (first | exact Q.refl _ | refine Q.alloc ?_ _ | refine Q.jk ?_ _ | refine Q.drew ?_))).grown ga AB1.out.symm
        have RA2 := Lib.hid ra'
        have RB2 := Lib.hid rb2
        have AB2 := Lib.hid ab2
        clear ra' ga rb2 ab2
        go_wp2
        go_roundw
        case rel => exact ⟨k + 1, by omega, by go_num, ⟨k2, rfl⟩, RA2.out, RB2.out, AB2.out⟩
        case measure => simp [intOf]; omega
    · obtain rfl : k = 12 := by omega
      obtain ⟨ga, ca, rfl, wa⟩ := RA.out.Win
      obtain ⟨gb, cb, rfl, wb⟩ := RB.out.Win
      have WA := Lib.hid wa
      have WB := Lib.hid wb
      clear wa wb RA RB AB
      have OA := Lib.hid (show WinOK (hav x) 16383 from fun k _ => hav_bd x k)
      have OB := Lib.hid (show WinOK (hbv x) 16383 from fun k _ => hbv_bd x k)
      have E1 := hav_half x (h % 6)
      have E2 := hbv_half x (h % 6)
      have hr : RootsOK W0 := by rw [HW.out]; exact (by repeat' (first | with_reducible exact hr | refine RootsOK.alloc ?_ _ | refine RootsOK.jk ?_ _ | refine RootsOK.drew ?_))
      go_wp2_with (first | (go_at_call 28; refine (within20_c _ _ _ (by decide) (by decide)).mono ?_; rintro e w' ⟨rfl, rfl⟩) | (go_at_call 25; (with_reducible show Calls _ _ #[.slice (some ⟨ga, 0, none⟩) _ _, _] _ _); refine (phharm_c _ ga 0 ca (hav x) _ (by repeat' (first | with_reducible exact hr | refine RootsOK.alloc ?_ _ | refine RootsOK.jk ?_ _ | refine RootsOK.drew ?_)) (WA.out.q (by repeat' (first | exact Q.refl _ | refine Q.alloc ?_ _ | refine Q.jk ?_ _ | refine Q.drew ?_))) OA.out).mono ?_; rintro e w' ⟨rfl, kj, rfl⟩) | (go_at_call 25; (with_reducible show Calls _ _ #[.slice (some ⟨gb, 0, none⟩) _ _, _] _ _); refine (phharm_c _ gb 0 cb (hbv x) _ (by repeat' (first | with_reducible exact hr | refine RootsOK.alloc ?_ _ | refine RootsOK.jk ?_ _ | refine RootsOK.drew ?_)) (WB.out.q (by repeat' (first | exact Q.refl _ | refine Q.alloc ?_ _ | refine Q.jk ?_ _ | refine Q.drew ?_))) OB.out).mono ?_; rintro e w' ⟨rfl, kj, rfl⟩))
      haveI := WB.out.old
      go_loop [13, 14] (fun s i => ∃ k : Nat, k ≤ 6 ∧ i = .int .i64 k ∧ s = .bool (allz x k)) (fun _ i => 6 - (intOf i).toNat)
      case atStart => exact ⟨0, by omega, rfl, rfl⟩
      case round =>
        obtain ⟨k, hk, rfl, rfl⟩ := hrel
        by_cases hlt : k < 6
        · have hc := WB.out k (by omega)
          rw [Nat.zero_add] at hc
          have kk : (0 : Int) ≤ (k : Int) := by omega
          have kk2 : (k : Int) < 6 := by omega
          have AS := Lib.hid (allz_succ x k)
          cases hz : allz x k with
          | true =>
            by_cases h0 : hbv x k = 0
            · go_wp2
              go_round
              case rel => exact ⟨k + 1, by omega, by go_num, by rw [AS.out, hz, h0]; rfl⟩
              case measure => simp [intOf]; omega
            · have h0' : (hbv x k == 0) = false := by simpa using h0
              go_wp2
              go_round
              case rel => exact ⟨k + 1, by omega, by go_num, by rw [AS.out, hz, h0']; rfl⟩
              case measure => simp [intOf]; omega
          | false =>
            go_wp2
            go_round
            case rel => exact ⟨k + 1, by omega, by go_num, by rw [AS.out, hz]; rfl⟩
            case measure => simp [intOf]; omega
        · obtain rfl : k = 6 := by omega
          have hiff := enrg_zero x
          cases hz : allz x 6 with
          | true =>
            have hn : enrg (hav x) 12 = 0 := hiff.2 hz
            clear hiff
            go_wp2_with (go_at_call 29; refine (phenergy_c ga 0 ca (hav x) _ (WA.out.q (by repeat' (first | exact Q.refl _ | refine Q.alloc ?_ _ | refine Q.jk ?_ _ | refine Q.drew ?_))) OA.out).mono ?_; rintro e w' ⟨rfl, rfl⟩)
            go_ret
            refine ⟨rfl, ?_⟩
            rw [HW.out]
            repeat' (first | exact Q.refl _ | refine Q.alloc ?_ _ | refine Q.jk ?_ _ | refine Q.drew ?_)
          | false =>
            have hn : (enrg (hav x) 12 == 0) = false := by
              simp only [beq_eq_false_iff_ne]
              intro e
              rw [hiff.1 e] at hz
              cases hz
            clear hiff
            go_wp2_with (go_at_call 29; refine (phenergy_c ga 0 ca (hav x) _ (WA.out.q (by repeat' (first | exact Q.refl _ | refine Q.alloc ?_ _ | refine Q.jk ?_ _ | refine Q.drew ?_))) OA.out).mono ?_; rintro e w' ⟨rfl, rfl⟩)
            go_ret
            refine ⟨rfl, ?_⟩
            rw [HW.out]
            repeat' (first | exact Q.refl _ | refine Q.alloc ?_ _ | refine Q.jk ?_ _ | refine Q.drew ?_)
end Go.Proofs.YtbonaopcoeconaaDoor
