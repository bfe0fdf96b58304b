
/- What the functions of the bus relay return for the cases of the law's examples. -/
import Derived.Test.YtcjflafjmdfanaaGreatDoorBx01
import Derived.Test.YtcjflafjmdfanaaGreatDoorBv37
set_option linter.unusedSimpArgs false
set_option linter.unusedVariables false
namespace Go.Proofs.YtcjflafjmdfanaaGreatDoor
open Go.RowKit Go.Sub
def RetOne (gd tr : Bool) (w : World) (e : Ending) (w' : World) : Prop := ∃ (g o c n0 c0 n1 c1 : Nat) (a0 a1 : Option Addr) (mv : Bool), e = .returned (.tuple #[.slice (some ⟨g, o, none⟩) 1 c, .int .i64 0]) ∧ Q w w' ∧ Old g w' ∧
 w'.cell? ⟨g, o, none⟩ = some (.slice a0 n0 c0) ∧ w'.cell? ⟨g, o + 1, none⟩ = some (.slice a1 n1 c1) ∧ w'.cell? ⟨g, o + 2, none⟩ = some (.bool mv) ∧
 (gd = true → w'.cell? ⟨g, o + 3, none⟩ = some (.bool false) ∧ w'.cell? ⟨g, o + 4, none⟩ = some (.bool false) ∧ w'.cell? ⟨g, o + 5, none⟩ = some (.bool false)) ∧ w'.cell? ⟨g, o + 9, none⟩ = some (.bool gd) ∧ w'.cell? ⟨g, o + 10, none⟩ = some (.bool tr)
theorem retOne {l : List Sec} {f : Sec → Prt} {gd tr : Bool} {w w' : World} {e : Ending} (h : RetPr l f w e w') (h1 : l.length = 1) (h2 : ∀ x ∈ l, (f x).gd = gd ∧ (f x).tr = tr ∧ (f x).op 0 = false ∧ (f x).op 1 = false ∧ (f x).op 2 = false) : RetOne gd tr w e w' := by
 obtain ⟨A, c, rs, rfl, hq, hd, hp⟩ := h
 subst hd
 obtain ⟨a, rfl⟩ := List.length_eq_one_iff.1 (by simpa using h1)
 obtain ⟨q1, q2, q3, q4, q5⟩ := h2 a.d (by simp)
 obtain ⟨g, o, rfl, og, hc⟩ := PrAt.at_ hp Nat.zero_lt_one
 have hc := hc.o 0 a
 have c0 := hc 0 _ rfl (by decide) rfl
 have c1 := hc 1 _ rfl (by decide) rfl
 have c2 := hc 2 _ rfl (by decide) rfl
 have c3 := hc 3 _ rfl (by decide) rfl
 have c4 := hc 4 _ rfl (by decide) rfl
 have c5 := hc 5 _ rfl (by decide) rfl
 have c9 := hc 9 _ rfl (by decide) rfl
 have c10 := hc 10 _ rfl (by decide) rfl
 simp only [Nat.zero_mul, Nat.add_zero, q1, q2, q3, q4, q5] at c0 c1 c2 c3 c4 c5 c9 c10
 exact ⟨g, o, c, _, _, _, _, _, _, _, rfl, hq, og, c0, c1, c2, fun _ => ⟨c3, c4, c5⟩, c9, c10⟩
theorem ex_a_e (aB aS aY : Option Addr) (cY : Nat) (l0 l1 : Option Addr) : ovO (sta0 aB aS aY cY l0 l1) (wav0 1 ++ wav0 1) [true, true] ⟨4, 5, 1, 2, 0⟩ 0 = true ∧ ovO (sta0 aB aS aY cY l0 l1) (wav0 1 ++ wav0 1) [true, true] ⟨4, 5, 1, 2, 0⟩ 1 = false ∧ ovO (sta0 aB aS aY cY l0 l1) (wav0 1 ++ wav0 1) [true, true] ⟨4, 5, 1, 2, 0⟩ 2 = false ∧ cpB [true, true] (ovM (sta0 aB aS aY cY l0 l1) 2) = true ∧ ckE ⟨4, 5, 1, 2, 0⟩ (wav0 1 ++ wav0 1) [true, true] 2 2 2 2 = 0 := ⟨by kernel_rfl, by kernel_rfl, by kernel_rfl, by kernel_rfl, by kernel_rfl⟩
theorem ex_a (aB aS aY : Option Addr) (cY : Nat) (l0 l1 : Option Addr) (aW : Option Addr) (cW : Nat) (aG : Option Addr) (cG : Nat) (w : World) (hr : RootsOK w) (hst : StAt w (sta0 aB aS aY cY l0 l1)) (hwv : WvAt w aW 2 cW (wav0 1 ++ wav0 1)) (hgd : GdAt w aG 2 cG [true, true]) :
  Calls Tryz.prog 17 #[.agg #[Value.string ⟨#[115]⟩, Value.slice aB 1 1, Value.slice none 0 0, Value.slice aS 2 2, Value.slice aY 2 cY], .agg rel0, .slice aW 2 cW, .slice aG 2 cG] w fun e w' => e = .returned (.tuple #[.agg #[.bool true, .bool false, .bool false], .bool true, .int .i64 0]) ∧ Q w w' := by
 obtain ⟨h0, h1, h2, hg, hck⟩ := ex_a_e aB aS aY cY l0 l1
 have h := over_c (sta0 aB aS aY cY l0 l1) rel0 ⟨4, 5, 1, 2, 0⟩ aW cW (wav0 1 ++ wav0 1) aG cG [true, true] w hr hst (sta0_e ..) hwv hgd hck
 rw [h0, h1, h2, show cpB [true, true] (ovM (sta0 aB aS aY cY l0 l1) (sta0 aB aS aY cY l0 l1).bays.length) = true from hg] at h
 exact h
theorem ex_b_e (aB aS aY : Option Addr) (cY : Nat) (l0 l1 : Option Addr) : ovO (sta0 aB aS aY cY l0 l1) (wav0 1 ++ wav0 1) [true, false] ⟨4, 5, 1, 2, 0⟩ 0 = false ∧ ovO (sta0 aB aS aY cY l0 l1) (wav0 1 ++ wav0 1) [true, false] ⟨4, 5, 1, 2, 0⟩ 1 = false ∧ ovO (sta0 aB aS aY cY l0 l1) (wav0 1 ++ wav0 1) [true, false] ⟨4, 5, 1, 2, 0⟩ 2 = false ∧ cpB [true, false] (ovM (sta0 aB aS aY cY l0 l1) 2) = false ∧ ckE ⟨4, 5, 1, 2, 0⟩ (wav0 1 ++ wav0 1) [true, false] 2 2 2 2 = 0 := ⟨by kernel_rfl, by kernel_rfl, by kernel_rfl, by kernel_rfl, by kernel_rfl⟩
theorem ex_b (aB aS aY : Option Addr) (cY : Nat) (l0 l1 : Option Addr) (aW : Option Addr) (cW : Nat) (aG : Option Addr) (cG : Nat) (w : World) (hr : RootsOK w) (hst : StAt w (sta0 aB aS aY cY l0 l1)) (hwv : WvAt w aW 2 cW (wav0 1 ++ wav0 1)) (hgd : GdAt w aG 2 cG [true, false]) :
  Calls Tryz.prog 17 #[.agg #[Value.string ⟨#[115]⟩, Value.slice aB 1 1, Value.slice none 0 0, Value.slice aS 2 2, Value.slice aY 2 cY], .agg rel0, .slice aW 2 cW, .slice aG 2 cG] w fun e w' => e = .returned (.tuple #[.agg #[.bool false, .bool false, .bool false], .bool false, .int .i64 0]) ∧ Q w w' := by
 obtain ⟨h0, h1, h2, hg, hck⟩ := ex_b_e aB aS aY cY l0 l1
 have h := over_c (sta0 aB aS aY cY l0 l1) rel0 ⟨4, 5, 1, 2, 0⟩ aW cW (wav0 1 ++ wav0 1) aG cG [true, false] w hr hst (sta0_e ..) hwv hgd hck
 rw [h0, h1, h2, show cpB [true, false] (ovM (sta0 aB aS aY cY l0 l1) (sta0 aB aS aY cY l0 l1).bays.length) = false from hg] at h
 exact h
theorem ex_g_e (aB aS aY : Option Addr) (cY : Nat) (l0 l1 : Option Addr) (d0 d1 : Option Addr) (e0 e1 : Nat) (aC : Option Addr) (cC : Nat) (aK : Option Addr) (cK : Nat) : ckE ⟨4, 5, 1, 2, 0⟩ (wav0 1 ++ wav0 1) [true, false] 2 2 2 2 = 0 ∧ (imI (sta0 aB aS aY cY l0 l1) (pos0 d0 d1 e0 e1 aC cC aK cK)).length = 1 ∧ ((imI (sta0 aB aS aY cY l0 l1) (pos0 d0 d1 e0 e1 aC cC aK cK)).all fun x => (prS (sta0 aB aS aY cY l0 l1) (wav0 1 ++ wav0 1) [true, false] ⟨4, 5, 1, 2, 0⟩ x).gd == false && (prS (sta0 aB aS aY cY l0 l1) (wav0 1 ++ wav0 1) [true, false] ⟨4, 5, 1, 2, 0⟩ x).tr == false && !(prS (sta0 aB aS aY cY l0 l1) (wav0 1 ++ wav0 1) [true, false] ⟨4, 5, 1, 2, 0⟩ x).op 0 && !(prS (sta0 aB aS aY cY l0 l1) (wav0 1 ++ wav0 1) [true, false] ⟨4, 5, 1, 2, 0⟩ x).op 1 && !(prS (sta0 aB aS aY cY l0 l1) (wav0 1 ++ wav0 1) [true, false] ⟨4, 5, 1, 2, 0⟩ x).op 2) = true := ⟨by kernel_rfl, by kernel_rfl, by kernel_rfl⟩
theorem ex_g (cs : Array Value) [hR : RelC cs ⟨4, 5, 1, 2, 0⟩] (aB aS aY : Option Addr) (cY : Nat) (l0 l1 : Option Addr) (p : Pos) (aW : Option Addr) (cW : Nat) (aG : Option Addr) (cG : Nat) (w : World) (hr : RootsOK w) (hst : StAt w (sta0 aB aS aY cY l0 l1)) (hps : PosAt w p) (hc : p.closed = [true, true]) (hrw : p.rows.map Ro.l = [[1], [1]]) (hwv : WvAt w aW 2 cW (wav0 1 ++ wav0 1)) (hgd : GdAt w aG 2 cG [true, false]) :
  Calls Tryz.prog 14 #[.agg #[Value.string ⟨#[115]⟩, Value.slice aB 1 1, Value.slice none 0 0, Value.slice aS 2 2, Value.slice aY 2 cY], .agg #[Value.slice p.aC p.closed.length p.cC, Value.slice p.aK p.rows.length p.cK], .agg cs, .slice aW 2 cW, .slice aG 2 cG] w (RetOne false false w) := by
 obtain ⟨d0, d1, e0, e1, ep⟩ := pos0_of p hc hrw
 obtain ⟨h1, h2, h3⟩ := ex_g_e aB aS aY cY l0 l1 d0 d1 e0 e1 p.aC p.cC p.aK p.cK
 rw [← ep] at h2 h3
 refine (secs_c (sta0 aB aS aY cY l0 l1) p cs ⟨4, 5, 1, 2, 0⟩ aW 2 cW (wav0 1 ++ wav0 1) aG 2 cG [true, false] w hr hst hps hwv hgd).mono fun e w' h => ?_
 have hz : seE (sta0 aB aS aY cY l0 l1) p ⟨4, 5, 1, 2, 0⟩ (wav0 1 ++ wav0 1) [true, false] 2 2 (((sta0 aB aS aY cY l0 l1).bays.length : Nat) : Int) = 0 := by
  unfold seE
  rw [sta0_e, show psE (sta0 aB aS aY cY l0 l1) p = 0 by rw [ep]; exact pos0_e ..]
  exact h1
 rcases h with ⟨h, _⟩ | ⟨_, h⟩
 ·exact absurd hz h
 exact retOne h h2 fun x hx => by
  have := List.all_eq_true.1 h3 x hx
  simp only [Bool.and_eq_true, beq_iff_eq, Bool.not_eq_true'] at this
  obtain ⟨⟨⟨⟨q1, q2⟩, q3⟩, q4⟩, q5⟩ := this
  exact ⟨q1, q2, q3, q4, q5⟩
theorem ex_k_e (aB aS aY : Option Addr) (cY : Nat) (l0 l1 : Option Addr) (d0 d1 : Option Addr) (e0 e1 : Nat) (aC : Option Addr) (cC : Nat) (aK : Option Addr) (cK : Nat) : ckE ⟨4, 0, 0, 0, 0⟩ (wav0 1 ++ wav0 1) [true, true] 2 2 2 2 = 0 ∧ (imI (sta0 aB aS aY cY l0 l1) (pos0 d0 d1 e0 e1 aC cC aK cK)).length = 1 ∧ ((imI (sta0 aB aS aY cY l0 l1) (pos0 d0 d1 e0 e1 aC cC aK cK)).all fun x => (prS (sta0 aB aS aY cY l0 l1) (wav0 1 ++ wav0 1) [true, true] ⟨4, 0, 0, 0, 0⟩ x).gd == true && (prS (sta0 aB aS aY cY l0 l1) (wav0 1 ++ wav0 1) [true, true] ⟨4, 0, 0, 0, 0⟩ x).tr == false && !(prS (sta0 aB aS aY cY l0 l1) (wav0 1 ++ wav0 1) [true, true] ⟨4, 0, 0, 0, 0⟩ x).op 0 && !(prS (sta0 aB aS aY cY l0 l1) (wav0 1 ++ wav0 1) [true, true] ⟨4, 0, 0, 0, 0⟩ x).op 1 && !(prS (sta0 aB aS aY cY l0 l1) (wav0 1 ++ wav0 1) [true, true] ⟨4, 0, 0, 0, 0⟩ x).op 2) = true := ⟨by kernel_rfl, by kernel_rfl, by kernel_rfl⟩
theorem ex_k (cs : Array Value) [hR : RelC cs ⟨4, 0, 0, 0, 0⟩] (aB aS aY : Option Addr) (cY : Nat) (l0 l1 : Option Addr) (p : Pos) (aW : Option Addr) (cW : Nat) (aG : Option Addr) (cG : Nat) (w : World) (hr : RootsOK w) (hst : StAt w (sta0 aB aS aY cY l0 l1)) (hps : PosAt w p) (hc : p.closed = [true, true]) (hrw : p.rows.map Ro.l = [[1], [1]]) (hwv : WvAt w aW 2 cW (wav0 1 ++ wav0 1)) (hgd : GdAt w aG 2 cG [true, true]) :
  Calls Tryz.prog 14 #[.agg #[Value.string ⟨#[115]⟩, Value.slice aB 1 1, Value.slice none 0 0, Value.slice aS 2 2, Value.slice aY 2 cY], .agg #[Value.slice p.aC p.closed.length p.cC, Value.slice p.aK p.rows.length p.cK], .agg cs, .slice aW 2 cW, .slice aG 2 cG] w (RetOne true false w) := by
 obtain ⟨d0, d1, e0, e1, ep⟩ := pos0_of p hc hrw
 obtain ⟨h1, h2, h3⟩ := ex_k_e aB aS aY cY l0 l1 d0 d1 e0 e1 p.aC p.cC p.aK p.cK
 rw [← ep] at h2 h3
 refine (secs_c (sta0 aB aS aY cY l0 l1) p cs ⟨4, 0, 0, 0, 0⟩ aW 2 cW (wav0 1 ++ wav0 1) aG 2 cG [true, true] w hr hst hps hwv hgd).mono fun e w' h => ?_
 have hz : seE (sta0 aB aS aY cY l0 l1) p ⟨4, 0, 0, 0, 0⟩ (wav0 1 ++ wav0 1) [true, true] 2 2 (((sta0 aB aS aY cY l0 l1).bays.length : Nat) : Int) = 0 := by
  unfold seE
  rw [sta0_e, show psE (sta0 aB aS aY cY l0 l1) p = 0 by rw [ep]; exact pos0_e ..]
  exact h1
 rcases h with ⟨h, _⟩ | ⟨_, h⟩
 ·exact absurd hz h
 exact retOne h h2 fun x hx => by
  have := List.all_eq_true.1 h3 x hx
  simp only [Bool.and_eq_true, beq_iff_eq, Bool.not_eq_true'] at this
  obtain ⟨⟨⟨⟨q1, q2⟩, q3⟩, q4⟩, q5⟩ := this
  exact ⟨q1, q2, q3, q4, q5⟩
theorem ex_h (cs : Array Value) [hR : RelC cs ⟨1, 0, 0, 0, 0⟩] (aB aS aY : Option Addr) (cY : Nat) (l0 l1 : Option Addr) (p : Pos) (aW : Option Addr) (cW : Nat) (aG : Option Addr) (cG : Nat) (w : World) (hr : RootsOK w) (hst : StAt w (sta0 aB aS aY cY l0 l1)) (hps : PosAt w p) (hc : p.closed = [true, true]) (hrw : p.rows.map Ro.l = [[1], [1]]) (hwv : WvAt w aW 2 cW (wav0 1 ++ wav0 1)) (hgd : GdAt w aG 2 cG [true, true]) :
  Calls Tryz.prog 14 #[.agg #[Value.string ⟨#[115]⟩, Value.slice aB 1 1, Value.slice none 0 0, Value.slice aS 2 2, Value.slice aY 2 cY], .agg #[Value.slice p.aC p.closed.length p.cC, Value.slice p.aK p.rows.length p.cK], .agg cs, .slice aW 2 cW, .slice aG 2 cG] w fun e w' => e = .returned (.tuple #[.slice none 0 0, .int .i64 10]) ∧ Q w w' := by
 obtain ⟨d0, d1, e0, e1, ep⟩ := pos0_of p hc hrw
 have h1 : ckE ⟨1, 0, 0, 0, 0⟩ (wav0 1 ++ wav0 1) [true, true] 2 2 2 2 = 10 := by kernel_rfl
 refine (secs_c (sta0 aB aS aY cY l0 l1) p cs ⟨1, 0, 0, 0, 0⟩ aW 2 cW (wav0 1 ++ wav0 1) aG 2 cG [true, true] w hr hst hps hwv hgd).mono fun e w' h => ?_
 have hz : seE (sta0 aB aS aY cY l0 l1) p ⟨1, 0, 0, 0, 0⟩ (wav0 1 ++ wav0 1) [true, true] 2 2 (((sta0 aB aS aY cY l0 l1).bays.length : Nat) : Int) = 10 := by
  unfold seE
  rw [sta0_e, show psE (sta0 aB aS aY cY l0 l1) p = 0 by rw [ep]; exact pos0_e ..]
  exact h1
 rw [hz] at h
 rcases h with ⟨_, he, hq⟩ | ⟨h, _⟩
 ·exact ⟨he, hq⟩
 exact absurd h (by decide)
theorem ex_i (cs : Array Value) [hR : RelC cs ⟨4, 5, 1, 0, 0⟩] (aB aS aY : Option Addr) (cY : Nat) (l0 l1 : Option Addr) (p : Pos) (aW : Option Addr) (cW : Nat) (aG : Option Addr) (cG : Nat) (w : World) (hr : RootsOK w) (hst : StAt w (sta0 aB aS aY cY l0 l1)) (hps : PosAt w p) (hc : p.closed = [true, true]) (hrw : p.rows.map Ro.l = [[1], [1]]) (hwv : WvAt w aW 2 cW (wav0 1 ++ wav0 1)) (hgd : GdAt w aG 2 cG [true, true]) :
  Calls Tryz.prog 14 #[.agg #[Value.string ⟨#[115]⟩, Value.slice aB 1 1, Value.slice none 0 0, Value.slice aS 2 2, Value.slice aY 2 cY], .agg #[Value.slice p.aC p.closed.length p.cC, Value.slice p.aK p.rows.length p.cK], .agg cs, .slice aW 2 cW, .slice aG 2 cG] w fun e w' => e = .returned (.tuple #[.slice none 0 0, .int .i64 2]) ∧ Q w w' := by
 obtain ⟨d0, d1, e0, e1, ep⟩ := pos0_of p hc hrw
 have h1 : ckE ⟨4, 5, 1, 0, 0⟩ (wav0 1 ++ wav0 1) [true, true] 2 2 2 2 = 2 := by kernel_rfl
 refine (secs_c (sta0 aB aS aY cY l0 l1) p cs ⟨4, 5, 1, 0, 0⟩ aW 2 cW (wav0 1 ++ wav0 1) aG 2 cG [true, true] w hr hst hps hwv hgd).mono fun e w' h => ?_
 have hz : seE (sta0 aB aS aY cY l0 l1) p ⟨4, 5, 1, 0, 0⟩ (wav0 1 ++ wav0 1) [true, true] 2 2 (((sta0 aB aS aY cY l0 l1).bays.length : Nat) : Int) = 2 := by
  unfold seE
  rw [sta0_e, show psE (sta0 aB aS aY cY l0 l1) p = 0 by rw [ep]; exact pos0_e ..]
  exact h1
 rw [hz] at h
 rcases h with ⟨_, he, hq⟩ | ⟨h, _⟩
 ·exact ⟨he, hq⟩
 exact absurd h (by decide)
theorem ex_j (cs : Array Value) [hR : RelC cs ⟨4, 0, 0, 0, 0⟩] (aB aS aY : Option Addr) (cY : Nat) (l0 l1 : Option Addr) (p : Pos) (aW : Option Addr) (cW : Nat) (aG : Option Addr) (cG : Nat) (w : World) (hr : RootsOK w) (hst : StAt w (sta0 aB aS aY cY l0 l1)) (hps : PosAt w p) (hc : p.closed = [true, true]) (hrw : p.rows.map Ro.l = [[1], [1]]) (hwv : WvAt w aW 1 cW (wav0 1)) (hgd : GdAt w aG 2 cG [true, true]) :
  Calls Tryz.prog 14 #[.agg #[Value.string ⟨#[115]⟩, Value.slice aB 1 1, Value.slice none 0 0, Value.slice aS 2 2, Value.slice aY 2 cY], .agg #[Value.slice p.aC p.closed.length p.cC, Value.slice p.aK p.rows.length p.cK], .agg cs, .slice aW 1 cW, .slice aG 2 cG] w fun e w' => e = .returned (.tuple #[.slice none 0 0, .int .i64 3]) ∧ Q w w' := by
 obtain ⟨d0, d1, e0, e1, ep⟩ := pos0_of p hc hrw
 have h1 : ckE ⟨4, 0, 0, 0, 0⟩ (wav0 1) [true, true] 2 1 2 2 = 3 := by kernel_rfl
 refine (secs_c (sta0 aB aS aY cY l0 l1) p cs ⟨4, 0, 0, 0, 0⟩ aW 1 cW (wav0 1) aG 2 cG [true, true] w hr hst hps hwv hgd).mono fun e w' h => ?_
 have hz : seE (sta0 aB aS aY cY l0 l1) p ⟨4, 0, 0, 0, 0⟩ (wav0 1) [true, true] 1 2 (((sta0 aB aS aY cY l0 l1).bays.length : Nat) : Int) = 3 := by
  unfold seE
  rw [sta0_e, show psE (sta0 aB aS aY cY l0 l1) p = 0 by rw [ep]; exact pos0_e ..]
  exact h1
 rw [hz] at h
 rcases h with ⟨_, he, hq⟩ | ⟨h, _⟩
 ·exact ⟨he, hq⟩
 exact absurd h (by decide)
end Go.Proofs.YtcjflafjmdfanaaGreatDoor
