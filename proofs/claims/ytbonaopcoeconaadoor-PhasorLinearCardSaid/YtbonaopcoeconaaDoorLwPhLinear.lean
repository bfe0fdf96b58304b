
/- PhasorLinear: the walk. -/
import Derived.Test.YtbonaopcoeconaaDoorPhB
namespace Go.Sub
theorem sumC_add (y z : Nat → Cy) (n : Nat) : sumC (fun k => (y k).add (z k)) n = (sumC y n).add (sumC z n) := by
  induction n with
  | zero => apply Cy.ext' <;> simp [sumC, Cy.add]
  | succ n ih =>
    show (sumC (fun k => (y k).add (z k)) n).add ((y n).add (z n)) = ((sumC y n).add (y n)).add ((sumC z n).add (z n))
    rw [ih]
    apply Cy.ext' <;> simp only [Cy.add] <;> omega
theorem sumC_scl (y : Nat → Cy) (c : Int) (n : Nat) : sumC (fun k => (y k).scl c) n = (sumC y n).scl c := by
  induction n with
  | zero => apply Cy.ext' <;> simp [sumC, Cy.scl]
  | succ n ih =>
    show (sumC (fun k => (y k).scl c) n).add ((y n).scl c) = ((sumC y n).add (y n)).scl c
    rw [ih]
    apply Cy.ext' <;> simp only [Cy.add, Cy.scl] <;> grind
theorem harm_add (x y : Nat → Int) (h : Int) : harm (fun k => x k + y k) h = (harm x h).add (harm y h) := by
  unfold harm
  rw [← sumC_add]
  congr 1
  funext k
  apply Cy.ext' <;> simp only [hterm, Cy.scl, Cy.add] <;> grind
theorem harm_scl (x : Nat → Int) (c h : Int) : harm (fun k => c * x k) h = (harm x h).scl c := by
  unfold harm
  rw [← sumC_scl]
  congr 1
  funext k
  apply Cy.ext' <;> simp only [hterm, Cy.scl] <;> grind
end Go.Sub
namespace Go.Proofs.YtbonaopcoeconaaDoor
open Go.RowKit Go.Sub
set_option maxHeartbeats 4000000 in
theorem phLinear_walk (x y : Nat → Int) (h : Int) (w : World) (hr : RootsOK w) :
    Calls Tryd.prog 7 #[.agg (cellsI x 12), .agg (cellsI y 12), .int .i64 h] w fun e w' => e = .returned (.bool true) ∧ Q w w' := by
  go_enter Tryd.func7, Tryd.ntmps7
  go_wp2_with (go_at_call 24; refine (known20_c _ (by repeat' (first | with_reducible exact hr | refine RootsOK.alloc ?_ _ | refine RootsOK.jk ?_ _ | refine RootsOK.drew ?_))).mono ?_; rintro e w' ⟨rfl, kj, rfl⟩)
  obtain ⟨W0, hW⟩ : ∃ W0, W0 = ((w.alloc (Obj.cells (cellsI x 12) 41)).alloc (Obj.cells (cellsI y 12) 41)).jk kj := ⟨_, rfl⟩
  rw [← hW]
  have HW := Lib.hid hW
  clear hW
  go_loopw [7, 8, 9, 10, 11] (fun va vb vs vt i wr => ∃ k : Nat, k ≤ 12 ∧ i = .int .i64 k ∧ Q W0 wr ∧ RowI W0 wr va ((List.range k).map fun j => (x j).tmod 4000) ∧ RowI W0 wr vb ((List.range k).map fun j => (y j).tmod 4000) ∧
      RowI W0 wr vs ((List.range k).map fun j => (x j).tmod 4000 + (y j).tmod 4000) ∧ RowI W0 wr vt ((List.range k).map fun j => 3 * (x j).tmod 4000) ∧ Apart va vb ∧ Apart va vs ∧ Apart va vt ∧ Apart vb vs ∧ Apart vb vt ∧ Apart vs vt) (fun _ _ _ _ i _ => 12 - (intOf i).toNat)
  case atStart => exact ⟨0, by omega, rfl, Q.refl _, RowI.nil _ _, RowI.nil _ _, RowI.nil _ _, RowI.nil _ _, Apart.nil _, Apart.nil _, Apart.nil _, Apart.nil _, Apart.nil _, Apart.nil _⟩
  case round =>
    obtain ⟨k, hk, rfl, ⟨kw, rfl⟩, ra, rb, rs, rt, ab, as1, at1, bs, bt, st⟩ := hrel
    have RA := Lib.hid ra
    have RB := Lib.hid rb
    have RS := Lib.hid rs
    have RT := Lib.hid rt
    have AP := Lib.hid (And.intro ab (And.intro as1 (And.intro at1 (And.intro bs (And.intro bt st)))))
    clear ra rb rs rt ab as1 at1 bs bt st
    by_cases hlt : k < 12
    · have hx : (W0.jk kw).cell? ⟨w.heap.size, k, none⟩ = some (.int .i64 (x k)) := by
        rw [HW.out]
        simp only [World.cell?_jk, World.cell?_alloc_old']
        rw [World.cell?_alloc_at _ _ _ _ rfl]
        exact cellsI_at x 12 k hlt
      have hy : (W0.jk kw).cell? ⟨w.heap.size + 1, k, none⟩ = some (.int .i64 (y k)) := by
        rw [HW.out]
        simp only [World.cell?_jk]
        rw [World.cell?_alloc_at _ _ _ _ (by simp)]
        exact cellsI_at y 12 k hlt
      have kk : (0 : Int) ≤ (k : Int) := by omega
      have kk2 : (k : Int) < 12 := by omega
      have tx := tmod_bd (x k) 4000 (by decide)
      have ty := tmod_bd (y k) 4000 (by decide)
      haveI := old_at hx
      haveI := old_at hy
      go_wp2
      try simp only [List.append]
      refine wp_region_jk (by kernel_rfl) (by kernel_rfl) ?_
      repeat (go_big_quiet_step (fail))
      refine wpQuiet_nil ?_
      intro _ hw'
      obtain ⟨kq, rfl⟩ := hw'
      obtain ⟨ab, as1, at1, bs, bt, st⟩ := AP.out
      have Hab0 := Lib.hid ab
      have Has0 := Lib.hid as1
      have Hat0 := Lib.hid at1
      have Hbs0 := Lib.hid bs
      have Hbt0 := Lib.hid bt
      have Hst0 := Lib.hid st
      clear ab as1 at1 bs bt st AP
      go_wp2_with (at_builtin; refine wpList_app_int rfl _ _ rfl W0 _ _ ((x k).tmod 4000) _ (by rfl) (by rfl) (RA.out.q ?c1) ?c2 ?c3 ?c4 ?_)
      case c1 => repeat' (first | exact Q.refl _ | refine Q.alloc ?_ _ | refine Q.jk ?_ _ | refine Q.drew ?_)
      case c2 => simp [go_sem]
      case c3 => simp; omega
      case c4 => repeat' (first | exact Q.refl _ | refine Q.alloc ?_ _ | refine Q.jk ?_ _ | refine Q.drew ?_)
      intro va' k1 ra' ga
      rw [range_snoc (fun j => (x j).tmod 4000)] at ra'
      obtain ⟨rb0, ab0⟩ := (RB.out.q (by repeat' (first | exact Q.refl _ | refine Q.alloc ?_ _ | refine Q.jk ?_ _ | refine Q.drew ?_))).grown ga (Hab0.out)
      obtain ⟨rs0, as0⟩ := (RS.out.q (by repeat' (first | exact Q.refl _ | refine Q.alloc ?_ _ | refine Q.jk ?_ _ | refine Q.drew ?_))).grown ga (Has0.out)
      obtain ⟨rt0, at0⟩ := (RT.out.q (by repeat' (first | exact Q.refl _ | refine Q.alloc ?_ _ | refine Q.jk ?_ _ | refine Q.drew ?_))).grown ga (Hat0.out)
      have RAn := Lib.hid ra'
      have RB0 := Lib.hid rb0
      have Hab1 := Lib.hid ab0
      have RS0 := Lib.hid rs0
      have Has1 := Lib.hid as0
      have RT0 := Lib.hid rt0
      have Hat1 := Lib.hid at0
      clear ra' ga rb0 ab0 rs0 as0 rt0 at0
      go_wp2_with (at_builtin; refine wpList_app_int rfl _ _ rfl W0 _ _ ((y k).tmod 4000) _ (by rfl) (by rfl) (RB0.out.q ?c1) ?c2 ?c3 ?c4 ?_)
      case c1 => repeat' (first | exact Q.refl _ | refine Q.alloc ?_ _ | refine Q.jk ?_ _ | refine Q.drew ?_)
      case c2 => simp [go_sem]
      case c3 => simp; omega
      case c4 => repeat' (first | exact Q.refl _ | refine Q.alloc ?_ _ | refine Q.jk ?_ _ | refine Q.drew ?_)
      intro vb' k2 rb' gb
      rw [range_snoc (fun j => (y j).tmod 4000)] at rb'
      obtain ⟨ra1, aa1⟩ := (RAn.out.q (by repeat' (first | exact Q.refl _ | refine Q.alloc ?_ _ | refine Q.jk ?_ _ | refine Q.drew ?_))).grown gb ((Hab1.out).symm)
      obtain ⟨rs1, as1⟩ := (RS0.out.q (by repeat' (first | exact Q.refl _ | refine Q.alloc ?_ _ | refine Q.jk ?_ _ | refine Q.drew ?_))).grown gb (Hbs0.out)
      obtain ⟨rt1, at1⟩ := (RT0.out.q (by repeat' (first | exact Q.refl _ | refine Q.alloc ?_ _ | refine Q.jk ?_ _ | refine Q.drew ?_))).grown gb (Hbt0.out)
      have RBn := Lib.hid rb'
      have RA1 := Lib.hid ra1
      have Hba2 := Lib.hid aa1
      have RS1 := Lib.hid rs1
      have Hbs2 := Lib.hid as1
      have RT1 := Lib.hid rt1
      have Hbt2 := Lib.hid at1
      clear rb' gb ra1 aa1 rs1 as1 rt1 at1
      go_wp2_with (at_builtin; refine wpList_app_int rfl _ _ rfl W0 _ _ ((x k).tmod 4000 + (y k).tmod 4000) _ (by rfl) (by rfl) (RS1.out.q ?c1) ?c2 ?c3 ?c4 ?_)
      case c1 => repeat' (first | exact Q.refl _ | refine Q.alloc ?_ _ | refine Q.jk ?_ _ | refine Q.drew ?_)
      case c2 => simp [go_sem]
      case c3 => simp; omega
      case c4 => repeat' (first | exact Q.refl _ | refine Q.alloc ?_ _ | refine Q.jk ?_ _ | refine Q.drew ?_)
      intro vs' k3 rs' gs
      rw [range_snoc (fun j => (x j).tmod 4000 + (y j).tmod 4000)] at rs'
      obtain ⟨ra2, aa2⟩ := (RA1.out.q (by repeat' (first | exact Q.refl _ | refine Q.alloc ?_ _ | refine Q.jk ?_ _ | refine Q.drew ?_))).grown gs ((Has1.out).symm)
      obtain ⟨rb2, ab2⟩ := (RBn.out.q (by repeat' (first | exact Q.refl _ | refine Q.alloc ?_ _ | refine Q.jk ?_ _ | refine Q.drew ?_))).grown gs ((Hbs2.out).symm)
      obtain ⟨rt2, at2⟩ := (RT1.out.q (by repeat' (first | exact Q.refl _ | refine Q.alloc ?_ _ | refine Q.jk ?_ _ | refine Q.drew ?_))).grown gs (Hst0.out)
      have RSn := Lib.hid rs'
      have RA2 := Lib.hid ra2
      have Hsa3 := Lib.hid aa2
      have RB2 := Lib.hid rb2
      have Hsb3 := Lib.hid ab2
      have RT2 := Lib.hid rt2
      have Hst3 := Lib.hid at2
      clear rs' gs ra2 aa2 rb2 ab2 rt2 at2
      go_wp2_with (at_builtin; refine wpList_app_int rfl _ _ rfl W0 _ _ (3 * (x k).tmod 4000) _ (by rfl) (by rfl) (RT2.out.q ?c1) ?c2 ?c3 ?c4 ?_)
      case c1 => repeat' (first | exact Q.refl _ | refine Q.alloc ?_ _ | refine Q.jk ?_ _ | refine Q.drew ?_)
      case c2 => simp [go_sem]
      case c3 => simp; omega
      case c4 => repeat' (first | exact Q.refl _ | refine Q.alloc ?_ _ | refine Q.jk ?_ _ | refine Q.drew ?_)
      intro vt' k4 rt' gt
      rw [range_snoc (fun j => 3 * (x j).tmod 4000)] at rt'
      obtain ⟨ra3, aa3⟩ := (RA2.out.q (by repeat' (first | exact Q.refl _ | refine Q.alloc ?_ _ | refine Q.jk ?_ _ | refine Q.drew ?_))).grown gt ((Hat1.out).symm)
      obtain ⟨rb3, ab3⟩ := (RB2.out.q (by repeat' (first | exact Q.refl _ | refine Q.alloc ?_ _ | refine Q.jk ?_ _ | refine Q.drew ?_))).grown gt ((Hbt2.out).symm)
      obtain ⟨rs3, as3⟩ := (RSn.out.q (by repeat' (first | exact Q.refl _ | refine Q.alloc ?_ _ | refine Q.jk ?_ _ | refine Q.drew ?_))).grown gt ((Hst3.out).symm)
      have RTn := Lib.hid rt'
      have RA3 := Lib.hid ra3
      have Hta4 := Lib.hid aa3
      have RB3 := Lib.hid rb3
      have Htb4 := Lib.hid ab3
      have RS3 := Lib.hid rs3
      have Hts4 := Lib.hid as3
      clear rt' gt ra3 aa3 rb3 ab3 rs3 as3
      go_wp2
      go_roundw
      case rel => exact ⟨k + 1, by omega, by go_num, ⟨k4, rfl⟩, RA3.out, RB3.out, RS3.out, RTn.out, (Hba2.out).symm, (Hsa3.out).symm, (Hta4.out).symm, (Hsb3.out).symm, (Htb4.out).symm, (Hts4.out).symm⟩
      case measure => simp [intOf]; omega
    · obtain rfl : k = 12 := by omega
      obtain ⟨ga, ca, rfl, wa⟩ := RA.out.Win
      obtain ⟨gb, cb, rfl, wb⟩ := RB.out.Win
      obtain ⟨gs, cs, rfl, ws⟩ := RS.out.Win
      obtain ⟨gt, ct, rfl, wt⟩ := RT.out.Win
      have WA := Lib.hid wa
      have WB := Lib.hid wb
      have WS := Lib.hid ws
      have WT := Lib.hid wt
      clear wa wb ws wt RA RB RS RT AP
      have oka : WinOK (fun j => (x j).tmod 4000) 3999 := fun j _ => tmod_bd (x j) 4000 (by decide)
      have okb : WinOK (fun j => (y j).tmod 4000) 3999 := fun j _ => tmod_bd (y j) 4000 (by decide)
      have oks : WinOK (fun j => (x j).tmod 4000 + (y j).tmod 4000) 16383 := fun j hj => by
        have := oka j hj
        have := okb j hj
        dsimp only at *
        omega
      have okt : WinOK (fun j => 3 * (x j).tmod 4000) 16383 := fun j hj => by
        have := oka j hj
        dsimp only at *
        omega
      have ia := harm_in h oka
      have ib := harm_in h okb
      have OA := Lib.hid oka
      have OB := Lib.hid okb
      have OS := Lib.hid oks
      have OT := Lib.hid okt
      have E1 := harm_add (fun j => (x j).tmod 4000) (fun j => (y j).tmod 4000) h
      have E2 := harm_scl (fun j => (x j).tmod 4000) 3 h
      have hr : RootsOK W0 := by rw [HW.out]; exact (by repeat' (first | with_reducible exact hr | refine RootsOK.alloc ?_ _ | refine RootsOK.jk ?_ _ | refine RootsOK.drew ?_))
      clear oka okb oks okt
      go_wp2_with (first | (go_at_call 25; (with_reducible show Calls _ _ #[.slice (some ⟨ga, 0, none⟩) _ _, _] _ _); refine (phharm_c h ga 0 ca (fun j => (x j).tmod 4000) _ (by repeat' (first | with_reducible exact hr | refine RootsOK.alloc ?_ _ | refine RootsOK.jk ?_ _ | refine RootsOK.drew ?_)) (WA.out.q (by repeat' (first | exact Q.refl _ | refine Q.alloc ?_ _ | refine Q.jk ?_ _ | refine Q.drew ?_))) (fun j hj => by have := OA.out j hj; dsimp only at *; omega)).mono ?_; rintro e w' ⟨rfl, kj, rfl⟩) | (go_at_call 25; (with_reducible show Calls _ _ #[.slice (some ⟨gb, 0, none⟩) _ _, _] _ _); refine (phharm_c h gb 0 cb (fun j => (y j).tmod 4000) _ (by repeat' (first | with_reducible exact hr | refine RootsOK.alloc ?_ _ | refine RootsOK.jk ?_ _ | refine RootsOK.drew ?_)) (WB.out.q (by repeat' (first | exact Q.refl _ | refine Q.alloc ?_ _ | refine Q.jk ?_ _ | refine Q.drew ?_))) (fun j hj => by have := OB.out j hj; dsimp only at *; omega)).mono ?_; rintro e w' ⟨rfl, kj, rfl⟩) | (go_at_call 25; (with_reducible show Calls _ _ #[.slice (some ⟨gs, 0, none⟩) _ _, _] _ _); refine (phharm_c h gs 0 cs (fun j => (x j).tmod 4000 + (y j).tmod 4000) _ (by repeat' (first | with_reducible exact hr | refine RootsOK.alloc ?_ _ | refine RootsOK.jk ?_ _ | refine RootsOK.drew ?_)) (WS.out.q (by repeat' (first | exact Q.refl _ | refine Q.alloc ?_ _ | refine Q.jk ?_ _ | refine Q.drew ?_))) OS.out).mono ?_; rintro e w' ⟨rfl, kj, rfl⟩) | (go_at_call 25; (with_reducible show Calls _ _ #[.slice (some ⟨gt, 0, none⟩) _ _, _] _ _); refine (phharm_c h gt 0 ct (fun j => 3 * (x j).tmod 4000) _ (by repeat' (first | with_reducible exact hr | refine RootsOK.alloc ?_ _ | refine RootsOK.jk ?_ _ | refine RootsOK.drew ?_)) (WT.out.q (by repeat' (first | exact Q.refl _ | refine Q.alloc ?_ _ | refine Q.jk ?_ _ | refine Q.drew ?_))) OT.out).mono ?_; rintro e w' ⟨rfl, kj, rfl⟩) | (go_at_call 26; refine (add_c _ _ _ (Cy.In.mono (by with_reducible assumption) (by decide)) (Cy.In.mono (by with_reducible assumption) (by decide))).mono ?_; rintro e w' ⟨rfl, kj, rfl⟩) | (go_at_call 27; refine (scale_c _ _ _ (Cy.In.mono (by with_reducible assumption) (by decide)) (by decide)).mono ?_; rintro e w' ⟨rfl, kj, rfl⟩))
      go_ret
      refine ⟨rfl, ?_⟩
      rw [HW.out]
      repeat' (first | exact Q.refl _ | refine Q.alloc ?_ _ | refine Q.jk ?_ _ | refine Q.drew ?_)
end Go.Proofs.YtbonaopcoeconaaDoor
