
/- known returns true: the example of the chapter. -/
import Derived.Test.YtcjflafjmdfanaaGreatDoorBv31
import Derived.Test.YtcjflafjmdfanaaGreatDoorBv36
import Derived.Test.YtcjflafjmdfanaaGreatDoorBv35
set_option maxHeartbeats 64000000
set_option maxRecDepth 100000
set_option linter.unusedSimpArgs false
set_option linter.unusedVariables false
/- The example of the chapter, reckoned: neither bay trips where the windows cancel, both where they add up. -/
namespace Go.Proofs.YtcjflafjmdfanaaGreatDoor
open Go.RowKit Go.Sub
def pos0 (d0 d1 : Option Addr) (e0 e1 : Nat) (aC : Option Addr) (cC : Nat) (aK : Option Addr) (cK : Nat) : Pos := ⟨[true, true], [⟨d0, e0, [1]⟩, ⟨d1, e1, [1]⟩], aC, cC, aK, cK⟩
theorem pos0_of (p : Pos) (hc : p.closed = [true, true]) (hr : p.rows.map Ro.l = [[1], [1]]) : ∃ d0 d1 e0 e1, p = pos0 d0 d1 e0 e1 p.aC p.cC p.aK p.cK := by
 obtain ⟨cl, rows, aC, cC, aK, cK⟩ := p
 dsimp only at hc hr
 subst hc
 match rows, hr with
 | [⟨d0, e0, l0⟩, ⟨d1, e1, l1⟩], hr =>
  simp only [List.map_cons, List.map_nil, List.cons.injEq, and_true] at hr
  obtain ⟨rfl, rfl⟩ := hr
  exact ⟨d0, d1, e0, e1, rfl⟩
section
variable (aB aS aY : Option Addr) (cY : Nat) (l0 l1 d0 d1 : Option Addr) (e0 e1 : Nat) (aC : Option Addr) (cC : Nat) (aK : Option Addr) (cK : Nat)
theorem pos0_e : psE (sta0 aB aS aY cY l0 l1) (pos0 d0 d1 e0 e1 aC cC aK cK) = 0 := by kernel_rfl
theorem ck0_a : ckE ⟨4, 5, 1, 2, 0⟩ (wav0 1 ++ wav0 (-1)) [true, true] 2 2 2 2 = 0 := by kernel_rfl
theorem ck0_b : ckE ⟨4, 5, 1, 2, 0⟩ (wav0 1 ++ wav0 1) [true, true] 2 2 2 2 = 0 := by kernel_rfl
theorem tr0_a0 : trB (imI (sta0 aB aS aY cY l0 l1) (pos0 d0 d1 e0 e1 aC cC aK cK)) (prS (sta0 aB aS aY cY l0 l1) (wav0 1 ++ wav0 (-1)) [true, true] ⟨4, 5, 1, 2, 0⟩) 0 = false := by kernel_rfl
theorem tr0_a1 : trB (imI (sta0 aB aS aY cY l0 l1) (pos0 d0 d1 e0 e1 aC cC aK cK)) (prS (sta0 aB aS aY cY l0 l1) (wav0 1 ++ wav0 (-1)) [true, true] ⟨4, 5, 1, 2, 0⟩) 1 = false := by kernel_rfl
theorem tr0_b0 : trB (imI (sta0 aB aS aY cY l0 l1) (pos0 d0 d1 e0 e1 aC cC aK cK)) (prS (sta0 aB aS aY cY l0 l1) (wav0 1 ++ wav0 1) [true, true] ⟨4, 5, 1, 2, 0⟩) 0 = true := by kernel_rfl
theorem tr0_b1 : trB (imI (sta0 aB aS aY cY l0 l1) (pos0 d0 d1 e0 e1 aC cC aK cK)) (prS (sta0 aB aS aY cY l0 l1) (wav0 1 ++ wav0 1) [true, true] ⟨4, 5, 1, 2, 0⟩) 1 = true := by kernel_rfl
end
end Go.Proofs.YtcjflafjmdfanaaGreatDoor
namespace Go.Proofs.YtcjflafjmdfanaaGreatDoor
open Go.RowKit Go.Sub
attribute [local go_sem ↓] Go.wp_at_zero Go.wp_at_succ
theorem gd_two (W : World) (g : Nat) (b0 b1 : Bool) (h : g = W.heap.size) : GdAt (W.alloc (.cells #[.bool b0, .bool b1] 4)) (some ⟨g, 0, none⟩) 2 2 [b0, b1] := ⟨rdv_of_hb (HB.new _ _ _ _ h) 2 2 1 _ rfl rfl (by decide), by decide⟩
theorem known_tr (a b : Int) (t : Bool) (aB aS aY : Option Addr) (cY : Nat) (l0 l1 : Option Addr) (p : Pos) (aW : Option Addr) (cW : Nat) (aG aF : Option Addr) (cF : Nat) (w : World) (hr : RootsOK w) (hst : StAt w (sta0 aB aS aY cY l0 l1)) (hps : PosAt w p) (hc : p.closed = [true, true]) (hrw : p.rows.map Ro.l = [[1], [1]]) (hwv : WvAt w aW 2 cW (wav0 a ++ wav0 b)) (hgd : GdAt w aG 2 2 [true, true]) (hF : GdAt w aF 2 cF [false, false])
  (hck : ckE ⟨4, 5, 1, 2, 0⟩ (wav0 a ++ wav0 b) [true, true] 2 2 2 2 = 0)
  (ht : ∀ (d0 d1 : Option Addr) (e0 e1 : Nat) (aC : Option Addr) (cC : Nat) (aK : Option Addr) (cK : Nat), trB (imI (sta0 aB aS aY cY l0 l1) (pos0 d0 d1 e0 e1 aC cC aK cK)) (prS (sta0 aB aS aY cY l0 l1) (wav0 a ++ wav0 b) [true, true] ⟨4, 5, 1, 2, 0⟩) 0 = t ∧ trB (imI (sta0 aB aS aY cY l0 l1) (pos0 d0 d1 e0 e1 aC cC aK cK)) (prS (sta0 aB aS aY cY l0 l1) (wav0 a ++ wav0 b) [true, true] ⟨4, 5, 1, 2, 0⟩) 1 = t) :
  Calls Tryz.prog 9 #[.agg #[Value.string ⟨#[115]⟩, Value.slice aB 1 1, Value.slice none 0 0, Value.slice aS 2 2, Value.slice aY 2 cY], .agg #[Value.slice p.aC p.closed.length p.cC, Value.slice p.aK p.rows.length p.cK], .agg rel0, .slice aW 2 cW, .slice aG 2 2, .slice aF 2 cF] w fun e w' => ∃ g c, e = .returned (.tuple #[.slice (some ⟨g, 0, none⟩) 2 c, .int .i64 0]) ∧ Q w w' ∧ w'.cell? ⟨g, 0, none⟩ = some (.bool t) ∧ w'.cell? ⟨g, 1, none⟩ = some (.bool t) := by
 obtain ⟨d0, d1, e0, e1, ep⟩ := pos0_of p hc hrw
 have hg : GoodAt w (sta0 aB aS aY cY l0 l1) p := ⟨hst, hps, sta0_e _ _ _ _ _ _, by rw [ep]; exact pos0_e ..⟩
 have hE : seE (sta0 aB aS aY cY l0 l1) p ⟨4, 5, 1, 2, 0⟩ (wav0 a ++ wav0 b) [true, true] 2 2 ((2 : Nat) : Int) = 0 := by
  unfold seE
  rw [hg.e1, hg.e2]
  exact hck
 have hn : ∀ n k, tgB (sta0 aB aS aY cY l0 l1) p [false, false] n k = false := fun n k => by
  unfold tgB
  rw [List.any_eq_false]
  intro i _
  rw [show [false, false].getD i false = false by rcases i with _ | _ | i <;> rfl, Bool.false_and]
  exact Bool.false_ne_true
 have h := trips_c (sta0 aB aS aY cY l0 l1) p rel0 ⟨4, 5, 1, 2, 0⟩ aW 2 cW (wav0 a ++ wav0 b) aG 2 2 [true, true] aF 2 cF [false, false] w hr hst hps hwv hgd hF
 rw [hE] at h
 refine h.mono ?_
 rintro e w' ⟨A, n, c, rfl, hq, _, hy⟩
 obtain ⟨rfl, g, rfl, hb⟩ := hy rfl
 have h0 := hb.cell 0
 have h1 := hb.cell 1
 rw [arrF_get _ (show 0 < (sta0 aB aS aY cY l0 l1).bays.length from (by decide : 0 < 2))] at h0
 rw [arrF_get _ (show 1 < (sta0 aB aS aY cY l0 l1).bays.length from (by decide : 1 < 2))] at h1
 unfold tpB at h0 h1
 rw [hn, Bool.false_or, ep, (ht _ _ _ _ _ _ _ _).1] at h0
 rw [hn, Bool.false_or, ep, (ht _ _ _ _ _ _ _ _).2] at h1
 exact ⟨g, c, rfl, hq, h0, h1⟩
theorem known34_c (w : World) (hr : RootsOK w) :
  Calls Tryz.prog 8 #[] w fun e w' => e = .returned (.bool true) ∧ Q w w' := by
 have S1 : Hid (∀ w', Calls Tryz.prog 16 #[.int .i64 1, .int .i64 (-1)] w' (SrcRet 1 (-1) w')) := hh fun w' => lawsrc_c 1 (-1) w' (by decide) (by decide)
 have S2 : Hid (∀ w', Calls Tryz.prog 16 #[.int .i64 1, .int .i64 1] w' (SrcRet 1 1 w')) := hh fun w' => lawsrc_c 1 1 w' (by decide) (by decide)
 unfold SrcRet at S1 S2
 go_enter Tryz.func8, Tryz.ntmps8
 go_wp2_with (first | (go_at_call 16; (with_reducible refine (S1.o _).mono ?_); rintro e w' ⟨aB1, aS1, aY1, cY1, l01, l11, p1, aW1, cW1, aG1, rfl, ⟨kA, rfl⟩, hst, hps, hc, hrw, hwv, hgd⟩; have HST1 := hh hst; have HPS1 := hh hps; have HC1 := hh hc; have HRW1 := hh hrw; have HWV1 := hh hwv; have HGD1 := hh hgd; clear hst hps hc hrw hwv hgd) | (go_at_call 16; (with_reducible refine (S2.o _).mono ?_); rintro e w' ⟨aB2, aS2, aY2, cY2, l02, l12, p2, aW2, cW2, aG2, rfl, ⟨kB, rfl⟩, hst, hps, hc, hrw, hwv, hgd⟩; have HST2 := hh hst; have HPS2 := hh hps; have HC2 := hh hc; have HRW2 := hh hrw; have HWV2 := hh hwv; have HGD2 := hh hgd; clear hst hps hc hrw hwv hgd) | (go_at_call 9; (with_reducible refine (known_tr 1 (-1) _ aB1 aS1 aY1 cY1 l01 l11 p1 aW1 cW1 aG1 _ _ _ (hr.q Q.i) (HST1.o.q Q.i) (HPS1.o.q Q.i) HC1.o HRW1.o (HWV1.o.q Q.i) (HGD1.o.q Q.i) (gd_two _ _ _ _ (by simp [World.size_jk])) ck0_a (fun _ _ _ _ _ _ _ _ => ⟨tr0_a0 .., tr0_a1 ..⟩)).mono ?_); rintro e w' ⟨g1, cc1, rfl, ⟨kC, rfl⟩, b01, b11⟩; have og1 := old_at b01) | (go_at_call 9; (with_reducible refine (known_tr 1 1 _ aB2 aS2 aY2 cY2 l02 l12 p2 aW2 cW2 aG2 _ _ _ (hr.q Q.i) (HST2.o.q Q.i) (HPS2.o.q Q.i) HC2.o HRW2.o (HWV2.o.q Q.i) (HGD2.o.q Q.i) (gd_two _ _ _ _ (by simp [World.size_jk])) ck0_b (fun _ _ _ _ _ _ _ _ => ⟨tr0_b0 .., tr0_b1 ..⟩)).mono ?_); rintro e w' ⟨g2, cc2, rfl, ⟨kD, rfl⟩, b02, b12⟩; have og2 := old_at b02) | fail)
 go_ret
 exact ⟨rfl, Q.i⟩
end Go.Proofs.YtcjflafjmdfanaaGreatDoor
