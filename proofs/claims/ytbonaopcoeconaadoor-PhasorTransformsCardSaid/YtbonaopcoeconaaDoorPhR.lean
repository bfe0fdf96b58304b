
/- What Check and Back of the reference of phasor return. -/
import Derived.Test.YtbonaopcoeconaaDoorPhK
import Derived.Test.YtbonaopcoeconaaDoorRfW2
import Derived.Test.YtbonaopcoeconaaDoorRfW3
namespace Go.Proofs.YtbonaopcoeconaaDoor
open Go.RowKit Go.Sub

set_option maxHeartbeats 1000000 in
theorem rcheck_any (b o c : Nat) (x : Nat → Int) (w : World) (hw : Win w b o x) :
    Calls Tryd.prog 35 #[.slice (some ⟨b, o, none⟩) 12 c] w fun e w' => e = .returned (.int .i64 (chkE x)) ∧ w = w' := by
  go_enter Tryd.func35, Tryd.ntmps35
  go_wp2
  go_loop [3] (fun i => ∃ k : Nat, k ≤ 12 ∧ i = .int .i64 k ∧ ∀ j, j < k → brkB 16383 (x j) = false) (fun i => 12 - (intOf i).toNat)
  case atStart => exact ⟨0, by omega, rfl, fun j hj => absurd hj (Nat.not_lt_zero j)⟩
  case round =>
    obtain ⟨k, hk, rfl, hin⟩ := hrel
    have HI := Lib.hid hin
    clear hin
    by_cases hlt : k < 12
    · have hc := hw k hlt
      clear hw
      have kk : (0 : Int) ≤ (k : Int) := by omega
      have kk2 : (k : Int) < 12 := by omega
      by_cases h1 : x k < -16383
      · have E := Lib.hid (chkE_bad (x := x) hlt (by simp [brkB, h1]))
        go_wp2
        go_ret
        exact ⟨by rw [E.out]; rfl, rfl⟩
      · by_cases h2 : 16383 < x k
        · have E := Lib.hid (chkE_bad (x := x) hlt (by simp [brkB, h2]))
          go_wp2
          go_ret
          exact ⟨by rw [E.out]; rfl, rfl⟩
        · go_wp2
          go_round
          case rel =>
            refine ⟨k + 1, by omega, by go_num, fun j hj => ?_⟩
            rcases Nat.lt_or_ge j k with h | h
            · exact HI.out j h
            · obtain rfl : j = k := by omega
              simp [brkB]
              omega
          case measure => simp [intOf]; omega
    · obtain rfl : k = 12 := by omega
      have E := Lib.hid (chkE_good (x := x) HI.out)
      clear hw
      go_wp2
      go_ret
      exact ⟨by rw [E.out]; rfl, rfl⟩

theorem bkOK_iff (c : Nat → Cy) (k : Nat) : bkOK c k = true ↔ (bk c k).b = 0 ∧ (bk c k).c = 0 ∧ (bk c k).d = 0 ∧ (bk c k).a.tmod 12 = 0 := by
  unfold bkOK
  rw [Bool.and_eq_true, Cy.eqB_iff]
  constructor
  · rintro ⟨h1, h2⟩
    have e2 : (bk c k).b = 0 := congrArg Cy.b h1
    have e3 : (bk c k).c = 0 := congrArg Cy.c h1
    have e4 : (bk c k).d = 0 := congrArg Cy.d h1
    exact ⟨e2, e3, e4, by simpa using h2⟩
  · rintro ⟨h1, h2, h3, h4⟩
    exact ⟨Cy.ext' rfl h1 h2 h3, by simpa using h4⟩
theorem bkOK_yes {c : Nat → Cy} {k : Nat} (h1 : (bk c k).b = 0) (h2 : (bk c k).c = 0) (h3 : (bk c k).d = 0) (h4 : (bk c k).a.tmod 12 = 0) : bkOK c k = true := (bkOK_iff c k).2 ⟨h1, h2, h3, h4⟩
theorem bkOK_no {c : Nat → Cy} {k : Nat} (h : ¬ ((bk c k).b = 0 ∧ (bk c k).c = 0 ∧ (bk c k).d = 0 ∧ (bk c k).a.tmod 12 = 0)) : bkOK c k = false := by
  cases e : bkOK c k
  · rfl
  · exact absurd ((bkOK_iff c k).1 e) h

theorem radd_c (x y : Cy) (w : World) (hx : x.In 100000000000000000) (hy : y.In 100000000000000000) :
    Calls Tryd.prog 64 #[.agg #[.int .i64 x.a, .int .i64 x.b, .int .i64 x.c, .int .i64 x.d], .agg #[.int .i64 y.a, .int .i64 y.b, .int .i64 y.c, .int .i64 y.d]] w fun e w' => e = .returned (.tuple #[.agg #[.int .i64 (x.add y).a, .int .i64 (x.add y).b, .int .i64 (x.add y).c, .int .i64 (x.add y).d], .int .i64 0]) ∧ Q w w' := by
  have h := radd_any x.a x.b x.c x.d y.a y.b y.c y.d w
  rw [addR_ok hx hy] at h
  exact h
theorem rturn_c (x : Cy) (k : Int) (w : World) (hx : x.In 100000000000000000) :
    Calls Tryd.prog 63 #[.agg #[.int .i64 x.a, .int .i64 x.b, .int .i64 x.c, .int .i64 x.d], .int .i64 k] w fun e w' => e = .returned (.tuple #[.agg #[.int .i64 (x.turn k).a, .int .i64 (x.turn k).b, .int .i64 (x.turn k).c, .int .i64 (x.turn k).d], .int .i64 0]) ∧ Q w w' := by
  have h := rturn_any x.a x.b x.c x.d k w
  rw [turnR_ok k hx] at h
  exact h
set_option maxRecDepth 100000 in
set_option maxHeartbeats 8000000 in
theorem rback_c (c : Nat → Cy) (w : World) :
    Calls Tryd.prog 41 #[.agg (cells48 c 12)] w (RetBack w c) := by
  go_enter Tryd.func41, Tryd.ntmps41
  go_wp2
  go_loopw [4] (fun i wr => ∃ k : Nat, k ≤ 12 ∧ i = .int .i64 k ∧ Q (w.alloc (.cells (cells48 c 12) 52)) wr ∧ AllIn c k) (fun i _ => 12 - (intOf i).toNat)
  case atStart => exact ⟨0, by omega, rfl, Q.refl _, fun j hj => absurd hj (Nat.not_lt_zero j)⟩
  case round =>
    obtain ⟨k, hk, rfl, ⟨kw, rfl⟩, hin⟩ := hrel
    have HI := Lib.hid hin
    clear hin
    by_cases hlt : k < 12
    · have kk : (0 : Int) ≤ (k : Int) := by omega
      have kk2 : (k : Int) < 12 := by omega
      obtain ⟨g0, g1, g2, g3⟩ := cells48_get c k hlt
      cases hwi : wiB (c k) 1099511627776 with
      | true =>
        have hwi' : wiB ⟨(c k).a, (c k).b, (c k).c, (c k).d⟩ 1099511627776 = true := hwi
        go_wp2_with (go_at_call 62; refine (rwithin_any _ _ _ _ _ _ (by decide) (by decide)).mono ?_; rintro e w' ⟨rfl, kj, rfl⟩)
        go_roundw
        case rel =>
          refine ⟨k + 1, by omega, by go_num, by repeat' (first | exact Q.refl _ | refine Q.alloc ?_ _ | refine Q.jk ?_ _ | refine Q.drew ?_), fun j hj => ?_⟩
          rcases Nat.lt_or_ge j k with h | h
          · exact HI.out j h
          · obtain rfl : j = k := by omega
            exact hwi
        case measure => simp [intOf]; omega
      | false =>
        have hwi' : wiB ⟨(c k).a, (c k).b, (c k).c, (c k).d⟩ 1099511627776 = false := hwi
        have E := Lib.hid (backE_1 (c := c) hlt hwi)
        go_wp2_with (go_at_call 62; refine (rwithin_any _ _ _ _ _ _ (by decide) (by decide)).mono ?_; rintro e w' ⟨rfl, kj, rfl⟩)
        go_ret2
        refine ⟨?_, .inr ⟨by rw [E.out]; decide, by rw [E.out]; rfl⟩⟩
        repeat' (first | exact Q.refl _ | refine Q.alloc ?_ _ | refine Q.jk ?_ _ | refine Q.drew ?_)
    · obtain rfl : k = 12 := by omega
      have HB := Lib.hid (fun k => bk_in HI.out k)
      rw [show ((12 : Nat) : Int) = 12 from rfl]
      go_wp2
      obtain ⟨W0, hW⟩ : ∃ W0, W0 = (w.alloc (.cells (cells48 c 12) 52)).jk kw := ⟨_, rfl⟩
      rw [← hW]
      have HW := Lib.hid hW
      have hblk : Blk W0 w.heap.size (.cells (cells48 c 12) 52) := by rw [hW]; infer_instance
      clear hW
      have cb : ∀ i, W0.cell? ⟨w.heap.size, i, none⟩ = (cells48 c 12)[i]? := fun i => cell_of_row W0 w.heap.size i _ _ (0, 0) hblk.eq
      have CB := Lib.hid cb
      clear cb
      go_loopw [5, 6] (fun v i wr => ∃ k : Nat, k ≤ 12 ∧ i = .int .i64 k ∧ Q W0 wr ∧ RowI W0 wr v ((List.range k).map (bkX c)) ∧ AllOK c k) (fun _ i _ => 12 - (intOf i).toNat)
      case atStart => exact ⟨0, by omega, rfl, Q.refl _, RowI.nil _ _, fun j hj => absurd hj (Nat.not_lt_zero j)⟩
      case round =>
        obtain ⟨k, hk2, rfl, ⟨kv, rfl⟩, hrow, hok⟩ := hrel
        have HO := Lib.hid hok
        have HR := Lib.hid hrow
        clear hok hrow
        by_cases hlt2 : k < 12
        · have kk : (0 : Int) ≤ (k : Int) := by omega
          have kk2 : (k : Int) < 12 := by omega
          have hbi := HB.out k
          go_wp2
          obtain ⟨wv, rfl⟩ : ∃ wv : World, wv = W0.jk kv := ⟨_, rfl⟩
          go_loopw [8] (fun i wr => ∃ h : Nat, h ≤ 12 ∧ i = .int .i64 h ∧ Q ((W0.jk kv).alloc (.cells #[.int .i64 (sumC (fun h => (c h).turn ((h : Int) * k)) h).a, .int .i64 (sumC (fun h => (c h).turn ((h : Int) * k)) h).b, .int .i64 (sumC (fun h => (c h).turn ((h : Int) * k)) h).c, .int .i64 (sumC (fun h => (c h).turn ((h : Int) * k)) h).d] 23)) wr) (fun i _ => 12 - (intOf i).toNat)
          case atStart => exact ⟨0, by omega, rfl, Q.refl _⟩
          case round =>
            obtain ⟨h, hh, rfl, kz, rfl⟩ := hrel
            by_cases hlt3 : h < 12
            · obtain ⟨g0, g1, g2, g3⟩ := cells48_get c h hlt3
              have d0 := (CB.out (h * 4)).trans g0
              have d1 := (CB.out (h * 4 + 1)).trans g1
              have d2 := (CB.out (h * 4 + 2)).trans g2
              have d3 := (CB.out (h * 4 + 3)).trans g3
              clear g0 g1 g2 g3
              haveI := old_at d0
              have hh1 : (0 : Int) ≤ (h : Int) := by omega
              have hh2 : (h : Int) < 12 := by omega
              have bm := bd_mul (n := 12) (m := 12) (a := (h : Int)) (b := (k : Int)) (by omega) (by omega) (by omega) (by omega)
              have bm1 : -1000 ≤ (h : Int) * (k : Int) := by omega
              have bm2 : (h : Int) * (k : Int) ≤ 1000 := by omega
              clear bm
              have hi1 := wiB_in (HI.out h hlt3)
              have hi2 := turn_in ((h : Int) * k) hi1
              have hi3 := sumC_in (y := fun h => (c h).turn ((h : Int) * k)) (l := 2 * 1099511627776) h fun j hj => turn_in _ (wiB_in (HI.out j (by omega)))
              have hi4 := hi3.mono (show (h : Int) * (2 * 1099511627776) ≤ 100000000000000 by omega)
              clear hi3
              go_wp2_with (first | (go_at_call 63; refine (rturn_c _ _ _ (Cy.In.mono (by with_reducible assumption) (by decide))).mono ?_; rintro e w' ⟨rfl, kj, rfl⟩) | (go_at_call 64; refine (radd_c _ _ _ (Cy.In.mono (by with_reducible assumption) (by decide)) (Cy.In.mono (by with_reducible assumption) (by decide))).mono ?_; rintro e w' ⟨rfl, kj, rfl⟩))
              go_roundw
              case rel =>
                refine ⟨h + 1, by omega, by go_num, ?_⟩
                repeat' (first | exact Q.refl _ | refine Q.alloc ?_ _ | refine Q.jk ?_ _ | refine Q.drew ?_)
              case measure => simp [intOf]; omega
            · obtain rfl : h = 12 := by omega
              rw [show ((12 : Nat) : Int) = 12 from rfl]
              rw [show sumC (fun h => (c h).turn ((h : Int) * k)) 12 = bk c k from rfl]
              have hb1 := hbi.1
              have hb2 := hbi.2.1
              by_cases n1 : (bk c k).b = 0
              case neg =>
                have n2 : ((bk c k).b != 0) = true := by simpa using n1
                have E := Lib.hid (backE_16 HI.out hlt2 (bkOK_no (fun h => n1 h.1)))
                go_wp2
                go_ret2
                refine ⟨?_, .inr ⟨by rw [E.out]; decide, by rw [E.out]; rfl⟩⟩
                rw [HW.out]
                repeat' (first | exact Q.refl _ | refine Q.alloc ?_ _ | refine Q.jk ?_ _ | refine Q.drew ?_)
              have zb := n1
              clear n1
              by_cases n1 : (bk c k).c = 0
              case neg =>
                have n2 : ((bk c k).c != 0) = true := by simpa using n1
                have E := Lib.hid (backE_16 HI.out hlt2 (bkOK_no (fun h => n1 h.2.1)))
                go_wp2
                go_ret2
                refine ⟨?_, .inr ⟨by rw [E.out]; decide, by rw [E.out]; rfl⟩⟩
                rw [HW.out]
                repeat' (first | exact Q.refl _ | refine Q.alloc ?_ _ | refine Q.jk ?_ _ | refine Q.drew ?_)
              have zc := n1
              clear n1
              by_cases n1 : (bk c k).d = 0
              case neg =>
                have n2 : ((bk c k).d != 0) = true := by simpa using n1
                have E := Lib.hid (backE_16 HI.out hlt2 (bkOK_no (fun h => n1 h.2.2.1)))
                go_wp2
                go_ret2
                refine ⟨?_, .inr ⟨by rw [E.out]; decide, by rw [E.out]; rfl⟩⟩
                rw [HW.out]
                repeat' (first | exact Q.refl _ | refine Q.alloc ?_ _ | refine Q.jk ?_ _ | refine Q.drew ?_)
              have zd := n1
              clear n1
              by_cases n1 : (bk c k).a.tmod 12 = 0
              case neg =>
                have n2 : ((bk c k).a.tmod 12 != 0) = true := by simpa using n1
                have E := Lib.hid (backE_16 HI.out hlt2 (bkOK_no (fun h => n1 h.2.2.2)))
                go_wp2
                go_ret2
                refine ⟨?_, .inr ⟨by rw [E.out]; decide, by rw [E.out]; rfl⟩⟩
                rw [HW.out]
                repeat' (first | exact Q.refl _ | refine Q.alloc ?_ _ | refine Q.jk ?_ _ | refine Q.drew ?_)
              have zt := n1
              clear n1
              have HOK := Lib.hid (bkOK_yes (c := c) (k := k) zb zc zd zt)
              go_wp2_with (at_builtin; refine wpList_app_int rfl _ _ rfl W0 _ _ (bkX c k) _ (by rfl) (by rfl) (HR.out.q ?c1) ?c2 ?c3 ?c4 ?_)
              case c1 => repeat' (first | exact Q.refl _ | refine Q.alloc ?_ _ | refine Q.jk ?_ _ | refine Q.drew ?_)
              case c2 => simp [go_sem, bkX]
              case c3 => first | omega | (simp; omega)
              case c4 => repeat' (first | exact Q.refl _ | refine Q.alloc ?_ _ | refine Q.jk ?_ _ | refine Q.drew ?_)
              intro v' k1 hr' hg
              rw [range_snoc (bkX c)] at hr'
              have HR' := Lib.hid hr'
              clear hr' hg
              go_wp2
              go_roundw
              case rel =>
                refine ⟨k + 1, by omega, by go_num, ⟨k1, rfl⟩, HR'.out, fun j hj => ?_⟩
                rcases Nat.lt_or_ge j k with h | h
                · exact HO.out j h
                · obtain rfl : j = k := by omega
                  exact HOK.out
              case measure => simp [intOf]; omega
        · obtain rfl : k = 12 := by omega
          have E := Lib.hid (backE_ok HI.out HO.out)
          obtain ⟨g, cp, rfl, hw⟩ := HR.out.Win
          have HV := Lib.hid hw
          clear hw
          by_cases hz : chkE (bkX c) = 0
          · go_wp2_with (go_at_call 35; refine (rcheck_any _ _ _ (bkX c) _ HV.out).mono ?_; rintro e w' ⟨rfl, rfl⟩)
            go_ret2
            refine ⟨by rw [HW.out]; repeat' (first | exact Q.refl _ | refine Q.alloc ?_ _ | refine Q.jk ?_ _ | refine Q.drew ?_), .inl ⟨by rw [E.out, hz], _, _, rfl, HV.out⟩⟩
          · have hz2 : (chkE (bkX c) != 0) = true := by simpa using hz
            go_wp2_with (go_at_call 35; refine (rcheck_any _ _ _ (bkX c) _ HV.out).mono ?_; rintro e w' ⟨rfl, rfl⟩)
            go_ret2
            refine ⟨by rw [HW.out]; repeat' (first | exact Q.refl _ | refine Q.alloc ?_ _ | refine Q.jk ?_ _ | refine Q.drew ?_), .inr ⟨by rw [E.out]; exact hz, by rw [E.out]; rfl⟩⟩

end Go.Proofs.YtbonaopcoeconaaDoor
