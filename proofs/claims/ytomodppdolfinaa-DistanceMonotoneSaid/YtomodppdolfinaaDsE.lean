
/- What Loops of package distance returns for arguments in their range. -/
import Derived.Test.YtomodppdolfinaaDsD
namespace Go.Proofs.Ytomodppdolfinaa
open Go.RowKit Go.Sub
set_option maxRecDepth 100000 in
set_option maxHeartbeats 4000000 in
theorem loops_c (u v t x y z : Cy) (r q : Int) (w : World) (hu : u.In 65536) (hv : v.In 65536) (ht : t.In 65536) (hx : x.In 65536) (hy : y.In 65536) (hz : z.In 65536) (r0 : -200 ≤ r) (r1 : r ≤ 200) (q0 : -200 ≤ q) (q1 : q ≤ 200) :
    Calls Try.prog 23 #[.agg #[.int .i64 u.a, .int .i64 u.b, .int .i64 u.c, .int .i64 u.d, .int .i64 v.a, .int .i64 v.b, .int .i64 v.c, .int .i64 v.d, .int .i64 t.a, .int .i64 t.b, .int .i64 t.c, .int .i64 t.d], .agg #[.int .i64 x.a, .int .i64 x.b, .int .i64 x.c, .int .i64 x.d, .int .i64 y.a, .int .i64 y.b, .int .i64 y.c, .int .i64 y.d, .int .i64 z.a, .int .i64 z.b, .int .i64 z.c, .int .i64 z.d], .int .i64 r, .int .i64 q] w fun e w' => e = .returned (.tuple #[.agg (c48L (loopV u v t) (loopI x y z r q) 6), .int .i64 0]) ∧ Q w w' := by
  have p1 : ph3 u v t = true := (ph3_iff _ _ _).2 ⟨hu, hv, ht⟩
  have p2 : ph3 x y z = true := (ph3_iff _ _ _).2 ⟨hx, hy, hz⟩
  have hk : (Cy.mk r 0 0 q).In 268435456 := by unfold Cy.In; dsimp only; omega
  have hs2 : (x.add y).In 131072 := Cy.add_in hx hy
  have hs3 : ((x.add y).add z).In 268435456 := (Cy.add_in hs2 hz).mono (by decide)
  have he := ext_in hx hy hz r0 r1 q0 q1
  have HV := Lib.hid (fun n => six_in hu hv ht n)
  have HI := Lib.hid (fun n => six_in hx hy hz n)
  obtain ⟨E, hE⟩ : ∃ E, E = extC x y z r q := ⟨_, rfl⟩
  have HE : Hid ((Cy.mk r 0 0 q).mul ((x.add y).add z) = E) := Lib.hid hE.symm
  rw [← hE] at he
  have HE2 := Lib.hid hE
  clear hE
  go_enter Try.func23, Try.ntmps23
  go_wp2_with (first | (go_at_call 56; first | ((with_reducible refine (dphases_any u v t _).mono ?_); rintro e w' ⟨rfl, kj, rfl⟩) | ((with_reducible refine (dphases_any x y z _).mono ?_); rintro e w' ⟨rfl, kj, rfl⟩)) | (go_at_call 57; refine (dbetween_any _ _ _ _).mono ?_; rintro e w' ⟨rfl, rfl⟩))
  try simp only [List.append]
  refine wp_region_al1 13 12 11 (.cells #[.int .i64 0, .int .i64 0, .int .i64 0, .int .i64 0] 23) Try.func0 rfl (by kernel_rfl) (by kernel_rfl) (by kernel_rfl) (by kernel_rfl) (by kernel_rfl) (by intro op hop a w; simp at hop; subst hop; simp [go_sem]) ?_
  intro k0
  simp only [List.map_cons, List.map_nil, unal, List.take_succ_cons, List.take_zero, List.drop_succ_cons, List.drop_zero]
  repeat (go_big_quiet_step ((first | (go_at_call 58; exact Calls.jk_of (kadd_c _ _ _ _ (Calc.mk (by simp [go_sem]) (by simp [go_sem])) (Cy.In.mono (by with_reducible assumption) (by decide)) (Cy.In.mono (by with_reducible assumption) (by decide)))) | (go_at_call 42; exact Calls.jk_of (kmul_c _ ⟨r, 0, 0, q⟩ ((x.add y).add z) _ (Calc.mk (by simp [go_sem]) (by simp [go_sem])) hk hs3)))))
  refine wpQuiet_nil ?_
  intro k1 k2 _
  simp only [Act.put, List.setIfInBounds_toArray, List.set_cons_succ, List.set_cons_zero]
  rw [HE.out]
  simp only [World.size_jk, World.size_alloc]
  go_upto_region 5 with fail
  try simp only [List.append]
  refine wp_region_al2x 6 4 12 (.cells #[.int .i64 0, .int .i64 0, .int .i64 0, .int .i64 0, .int .i64 0, .int .i64 0, .int .i64 0, .int .i64 0, .int .i64 0, .int .i64 0, .int .i64 0, .int .i64 0, .int .i64 0, .int .i64 0, .int .i64 0, .int .i64 0, .int .i64 0, .int .i64 0, .int .i64 0, .int .i64 0, .int .i64 0, .int .i64 0, .int .i64 0, .int .i64 0] 100) 5 13 (.cells #[.int .i64 0, .int .i64 0, .int .i64 0, .int .i64 0, .int .i64 0, .int .i64 0, .int .i64 0, .int .i64 0, .int .i64 0, .int .i64 0, .int .i64 0, .int .i64 0, .int .i64 0, .int .i64 0, .int .i64 0, .int .i64 0, .int .i64 0, .int .i64 0, .int .i64 0, .int .i64 0, .int .i64 0, .int .i64 0, .int .i64 0, .int .i64 0] 100) Try.func0 rfl (by kernel_rfl) (by kernel_rfl) (by kernel_rfl) (by kernel_rfl) (by decide) (by kernel_rfl) (by intro op hop a w; simp at hop; subst hop; simp [go_sem]) (by intro op hop a w; simp at hop; subst hop; simp [go_sem]) ?_
  intro k0
  simp only [List.map_cons, List.map_nil, unal, List.take_succ_cons, List.take_zero, List.drop_succ_cons, List.drop_zero]
  repeat (go_big_quiet_step ((first | (go_at_call 59; (with_reducible show Calls _ _ #[_, .agg #[.int .i64 u.a, .int .i64 u.b, .int .i64 u.c, .int .i64 u.d, .int .i64 v.a, .int .i64 v.b, .int .i64 v.c, .int .i64 v.d, .int .i64 t.a, .int .i64 t.b, .int .i64 t.c, .int .i64 t.d]] _ _); exact Calls.jk_of (ksix_c _ u v t _ (Calc.mk (by simp [go_sem]) (by simp [go_sem])) hu hv ht)) | (go_at_call 59; (with_reducible show Calls _ _ #[_, .agg #[.int .i64 x.a, .int .i64 x.b, .int .i64 x.c, .int .i64 x.d, .int .i64 y.a, .int .i64 y.b, .int .i64 y.c, .int .i64 y.d, .int .i64 z.a, .int .i64 z.b, .int .i64 z.c, .int .i64 z.d]] _ _); exact Calls.jk_of (ksix_c _ x y z _ (Calc.mk (by simp [go_sem]) (by simp [go_sem])) hx hy hz)))))
  refine wpQuiet_nil ?_
  intro b1 b2 q1 q2 n12
  simp only [Act.put, List.setIfInBounds_toArray, List.set_cons_succ, List.set_cons_zero]
  have t1 := run_store24 (n := b1) (cs' := c24 (sixC u v t)) (h := ⟨q1.2⟩) (by rfl) rfl
  have t2 := run_store24 (n := b2) (cs' := c24 (sixC x y z)) (h := ⟨(setBlk_block_ne (o' := .cells (c24 (sixC u v t)) 100) n12).trans q2.2⟩) (by rfl) rfl
  go_upto_region 6 with fail
  clear t1 t2
  obtain ⟨kx, hk, C1, C2⟩ := two_rows (o1' := .cells (c24 (sixC u v t)) 100) (o2' := .cells (c24 (sixC x y z)) 100) ⟨k0, rfl⟩ q1 q2 n12
  rw [hk]
  clear hk q1 q2 n12
  haveI := old_block C1
  haveI := old_block C2
  refine wp_world ?_
  intro B hB
  obtain ⟨s, hs⟩ : ∃ s, B.heap.size = s := ⟨_, rfl⟩
  have HB := Lib.hid hB
  have D1 := Lib.hid C1
  have D2 := Lib.hid C2
  clear hB C1 C2
  go_wp2_with fail
  try rw [hs]
  go_loopw [51] (fun i wr => ∃ k : Nat, k ≤ 6 ∧ i = .int .i64 k ∧ Q (B.alloc (.cells (c48L (loopV u v t) (loopI x y z r q) k) 49)) wr) (fun i _ => 6 - (intOf i).toNat)
  case atStart => exact ⟨0, by omega, rfl, Q.refl _⟩
  case round =>
    obtain ⟨k, hk, rfl, kw, rfl⟩ := hrel
    have hB := HB.out
    subst hB
    simp only [World.size_jk, World.size_alloc] at hs
    subst hs
    by_cases hlt : k < 6
    · have hk6 : k = 0 ∨ k = 1 ∨ k = 2 ∨ k = 3 ∨ k = 4 ∨ k = 5 := by omega
      clear hk hlt
      rcases hk6 with rfl | rfl | rfl | rfl | rfl | rfl
      · have g1 : u.In 131072 := HV.out 0
        have g2 : x.In 131072 := HI.out 0
        have g3 : (x.sc 100).In 13107200 := sc_in (k := 100) (m := 100) g2 (by decide) (by decide)
        have a0 := (cell_of_block (i := 0) D1.out).trans (show _ = some (.int .i64 u.a) from rfl)
        have d0 := (cell_of_block (i := 0) D2.out).trans (show _ = some (.int .i64 x.a) from rfl)
        have a1 := (cell_of_block (i := 1) D1.out).trans (show _ = some (.int .i64 u.b) from rfl)
        have d1 := (cell_of_block (i := 1) D2.out).trans (show _ = some (.int .i64 x.b) from rfl)
        have a2 := (cell_of_block (i := 2) D1.out).trans (show _ = some (.int .i64 u.c) from rfl)
        have d2 := (cell_of_block (i := 2) D2.out).trans (show _ = some (.int .i64 x.c) from rfl)
        have a3 := (cell_of_block (i := 3) D1.out).trans (show _ = some (.int .i64 u.d) from rfl)
        have d3 := (cell_of_block (i := 3) D2.out).trans (show _ = some (.int .i64 x.d) from rfl)
        obtain ⟨e0, e1, e2, e3, e4, e5, e6, e7⟩ := c48L_at0 (loopV u v t) (loopI x y z r q)
        have HS := Lib.hid (c48L_set0 (loopV u v t) (loopI x y z r q))
        go_wp2_with fail
        try simp only [List.append]
        refine wp_region_tail 11 (by kernel_rfl) (by kernel_rfl) ?_
        simp only [List.take_succ_cons, List.take_zero, List.drop_succ_cons, List.drop_zero]
        repeat (go_big_quiet_step ((go_at_call 60; exact Calls.jk_of (kscale_c _ _ 100 _ (Calc.mk (by simp [go_sem]) (by simp [go_sem])) (Cy.In.mono (by with_reducible assumption) (by decide)) (by decide) (by decide)))))
        refine wpQuiet_nil ?_
        intro _ hw'
        obtain ⟨kq, rfl⟩ := hw'
        go_wp2_with fail
        try simp only [List.append]
        refine wp_region_tail 9 (by kernel_rfl) (by kernel_rfl) ?_
        simp only [List.take_succ_cons, List.take_zero, List.drop_succ_cons, List.drop_zero]
        repeat (go_big_quiet_step ((go_at_call 58; exact Calls.jk_of (kadd_c _ _ _ _ (Calc.mk (by simp [go_sem]) (by simp [go_sem])) (Cy.In.mono (by with_reducible assumption) (by decide)) (Cy.In.mono (by with_reducible assumption) (by decide))))))
        refine wpQuiet_nil ?_
        intro _ hw'
        obtain ⟨kq, rfl⟩ := hw'
        go_wp2_with fail
        go_roundw
        case rel =>
          refine ⟨1, by omega, rfl, ?_⟩
          rw [HE2.out]
          rw [← HS.out]
          repeat' (first | exact Q.refl _ | refine Q.alloc ?_ _ | refine Q.jk ?_ _ | refine Q.drew ?_)
        case measure => simp [intOf]
      · have g1 : v.In 131072 := HV.out 1
        have g2 : y.In 131072 := HI.out 1
        have g3 : (y.sc 100).In 13107200 := sc_in (k := 100) (m := 100) g2 (by decide) (by decide)
        have a0 := (cell_of_block (i := 4) D1.out).trans (show _ = some (.int .i64 v.a) from rfl)
        have d0 := (cell_of_block (i := 4) D2.out).trans (show _ = some (.int .i64 y.a) from rfl)
        have a1 := (cell_of_block (i := 5) D1.out).trans (show _ = some (.int .i64 v.b) from rfl)
        have d1 := (cell_of_block (i := 5) D2.out).trans (show _ = some (.int .i64 y.b) from rfl)
        have a2 := (cell_of_block (i := 6) D1.out).trans (show _ = some (.int .i64 v.c) from rfl)
        have d2 := (cell_of_block (i := 6) D2.out).trans (show _ = some (.int .i64 y.c) from rfl)
        have a3 := (cell_of_block (i := 7) D1.out).trans (show _ = some (.int .i64 v.d) from rfl)
        have d3 := (cell_of_block (i := 7) D2.out).trans (show _ = some (.int .i64 y.d) from rfl)
        obtain ⟨e0, e1, e2, e3, e4, e5, e6, e7⟩ := c48L_at1 (loopV u v t) (loopI x y z r q)
        have HS := Lib.hid (c48L_set1 (loopV u v t) (loopI x y z r q))
        go_wp2_with fail
        try simp only [List.append]
        refine wp_region_tail 11 (by kernel_rfl) (by kernel_rfl) ?_
        simp only [List.take_succ_cons, List.take_zero, List.drop_succ_cons, List.drop_zero]
        repeat (go_big_quiet_step ((go_at_call 60; exact Calls.jk_of (kscale_c _ _ 100 _ (Calc.mk (by simp [go_sem]) (by simp [go_sem])) (Cy.In.mono (by with_reducible assumption) (by decide)) (by decide) (by decide)))))
        refine wpQuiet_nil ?_
        intro _ hw'
        obtain ⟨kq, rfl⟩ := hw'
        go_wp2_with fail
        try simp only [List.append]
        refine wp_region_tail 9 (by kernel_rfl) (by kernel_rfl) ?_
        simp only [List.take_succ_cons, List.take_zero, List.drop_succ_cons, List.drop_zero]
        repeat (go_big_quiet_step ((go_at_call 58; exact Calls.jk_of (kadd_c _ _ _ _ (Calc.mk (by simp [go_sem]) (by simp [go_sem])) (Cy.In.mono (by with_reducible assumption) (by decide)) (Cy.In.mono (by with_reducible assumption) (by decide))))))
        refine wpQuiet_nil ?_
        intro _ hw'
        obtain ⟨kq, rfl⟩ := hw'
        go_wp2_with fail
        go_roundw
        case rel =>
          refine ⟨2, by omega, rfl, ?_⟩
          rw [HE2.out]
          rw [← HS.out]
          repeat' (first | exact Q.refl _ | refine Q.alloc ?_ _ | refine Q.jk ?_ _ | refine Q.drew ?_)
        case measure => simp [intOf]
      · have g1 : t.In 131072 := HV.out 2
        have g2 : z.In 131072 := HI.out 2
        have g3 : (z.sc 100).In 13107200 := sc_in (k := 100) (m := 100) g2 (by decide) (by decide)
        have a0 := (cell_of_block (i := 8) D1.out).trans (show _ = some (.int .i64 t.a) from rfl)
        have d0 := (cell_of_block (i := 8) D2.out).trans (show _ = some (.int .i64 z.a) from rfl)
        have a1 := (cell_of_block (i := 9) D1.out).trans (show _ = some (.int .i64 t.b) from rfl)
        have d1 := (cell_of_block (i := 9) D2.out).trans (show _ = some (.int .i64 z.b) from rfl)
        have a2 := (cell_of_block (i := 10) D1.out).trans (show _ = some (.int .i64 t.c) from rfl)
        have d2 := (cell_of_block (i := 10) D2.out).trans (show _ = some (.int .i64 z.c) from rfl)
        have a3 := (cell_of_block (i := 11) D1.out).trans (show _ = some (.int .i64 t.d) from rfl)
        have d3 := (cell_of_block (i := 11) D2.out).trans (show _ = some (.int .i64 z.d) from rfl)
        obtain ⟨e0, e1, e2, e3, e4, e5, e6, e7⟩ := c48L_at2 (loopV u v t) (loopI x y z r q)
        have HS := Lib.hid (c48L_set2 (loopV u v t) (loopI x y z r q))
        go_wp2_with fail
        try simp only [List.append]
        refine wp_region_tail 11 (by kernel_rfl) (by kernel_rfl) ?_
        simp only [List.take_succ_cons, List.take_zero, List.drop_succ_cons, List.drop_zero]
        repeat (go_big_quiet_step ((go_at_call 60; exact Calls.jk_of (kscale_c _ _ 100 _ (Calc.mk (by simp [go_sem]) (by simp [go_sem])) (Cy.In.mono (by with_reducible assumption) (by decide)) (by decide) (by decide)))))
        refine wpQuiet_nil ?_
        intro _ hw'
        obtain ⟨kq, rfl⟩ := hw'
        go_wp2_with fail
        try simp only [List.append]
        refine wp_region_tail 9 (by kernel_rfl) (by kernel_rfl) ?_
        simp only [List.take_succ_cons, List.take_zero, List.drop_succ_cons, List.drop_zero]
        repeat (go_big_quiet_step ((go_at_call 58; exact Calls.jk_of (kadd_c _ _ _ _ (Calc.mk (by simp [go_sem]) (by simp [go_sem])) (Cy.In.mono (by with_reducible assumption) (by decide)) (Cy.In.mono (by with_reducible assumption) (by decide))))))
        refine wpQuiet_nil ?_
        intro _ hw'
        obtain ⟨kq, rfl⟩ := hw'
        go_wp2_with fail
        go_roundw
        case rel =>
          refine ⟨3, by omega, rfl, ?_⟩
          rw [HE2.out]
          rw [← HS.out]
          repeat' (first | exact Q.refl _ | refine Q.alloc ?_ _ | refine Q.jk ?_ _ | refine Q.drew ?_)
        case measure => simp [intOf]
      · have g1 : (u.sub v).In 131072 := HV.out 3
        have g2 : (x.sub y).In 131072 := HI.out 3
        have g3 : ((x.sub y).sc 100).In 13107200 := sc_in (k := 100) (m := 100) g2 (by decide) (by decide)
        have a0 := (cell_of_block (i := 12) D1.out).trans (show _ = some (.int .i64 (u.sub v).a) from rfl)
        have d0 := (cell_of_block (i := 12) D2.out).trans (show _ = some (.int .i64 (x.sub y).a) from rfl)
        have a1 := (cell_of_block (i := 13) D1.out).trans (show _ = some (.int .i64 (u.sub v).b) from rfl)
        have d1 := (cell_of_block (i := 13) D2.out).trans (show _ = some (.int .i64 (x.sub y).b) from rfl)
        have a2 := (cell_of_block (i := 14) D1.out).trans (show _ = some (.int .i64 (u.sub v).c) from rfl)
        have d2 := (cell_of_block (i := 14) D2.out).trans (show _ = some (.int .i64 (x.sub y).c) from rfl)
        have a3 := (cell_of_block (i := 15) D1.out).trans (show _ = some (.int .i64 (u.sub v).d) from rfl)
        have d3 := (cell_of_block (i := 15) D2.out).trans (show _ = some (.int .i64 (x.sub y).d) from rfl)
        obtain ⟨e0, e1, e2, e3, e4, e5, e6, e7⟩ := c48L_at3 (loopV u v t) (loopI x y z r q)
        have HS := Lib.hid (c48L_set3 (loopV u v t) (loopI x y z r q))
        go_wp2_with fail
        try simp only [List.append]
        refine wp_region_tail 11 (by kernel_rfl) (by kernel_rfl) ?_
        simp only [List.take_succ_cons, List.take_zero, List.drop_succ_cons, List.drop_zero]
        repeat (go_big_quiet_step ((go_at_call 60; exact Calls.jk_of (kscale_c _ _ 100 _ (Calc.mk (by simp [go_sem]) (by simp [go_sem])) (Cy.In.mono (by with_reducible assumption) (by decide)) (by decide) (by decide)))))
        refine wpQuiet_nil ?_
        intro _ hw'
        obtain ⟨kq, rfl⟩ := hw'
        go_wp2_with fail
        go_roundw
        case rel =>
          refine ⟨4, by omega, rfl, ?_⟩
          rw [HE2.out]
          rw [← HS.out]
          repeat' (first | exact Q.refl _ | refine Q.alloc ?_ _ | refine Q.jk ?_ _ | refine Q.drew ?_)
        case measure => simp [intOf]
      · have g1 : (v.sub t).In 131072 := HV.out 4
        have g2 : (y.sub z).In 131072 := HI.out 4
        have g3 : ((y.sub z).sc 100).In 13107200 := sc_in (k := 100) (m := 100) g2 (by decide) (by decide)
        have a0 := (cell_of_block (i := 16) D1.out).trans (show _ = some (.int .i64 (v.sub t).a) from rfl)
        have d0 := (cell_of_block (i := 16) D2.out).trans (show _ = some (.int .i64 (y.sub z).a) from rfl)
        have a1 := (cell_of_block (i := 17) D1.out).trans (show _ = some (.int .i64 (v.sub t).b) from rfl)
        have d1 := (cell_of_block (i := 17) D2.out).trans (show _ = some (.int .i64 (y.sub z).b) from rfl)
        have a2 := (cell_of_block (i := 18) D1.out).trans (show _ = some (.int .i64 (v.sub t).c) from rfl)
        have d2 := (cell_of_block (i := 18) D2.out).trans (show _ = some (.int .i64 (y.sub z).c) from rfl)
        have a3 := (cell_of_block (i := 19) D1.out).trans (show _ = some (.int .i64 (v.sub t).d) from rfl)
        have d3 := (cell_of_block (i := 19) D2.out).trans (show _ = some (.int .i64 (y.sub z).d) from rfl)
        obtain ⟨e0, e1, e2, e3, e4, e5, e6, e7⟩ := c48L_at4 (loopV u v t) (loopI x y z r q)
        have HS := Lib.hid (c48L_set4 (loopV u v t) (loopI x y z r q))
        go_wp2_with fail
        try simp only [List.append]
        refine wp_region_tail 11 (by kernel_rfl) (by kernel_rfl) ?_
        simp only [List.take_succ_cons, List.take_zero, List.drop_succ_cons, List.drop_zero]
        repeat (go_big_quiet_step ((go_at_call 60; exact Calls.jk_of (kscale_c _ _ 100 _ (Calc.mk (by simp [go_sem]) (by simp [go_sem])) (Cy.In.mono (by with_reducible assumption) (by decide)) (by decide) (by decide)))))
        refine wpQuiet_nil ?_
        intro _ hw'
        obtain ⟨kq, rfl⟩ := hw'
        go_wp2_with fail
        go_roundw
        case rel =>
          refine ⟨5, by omega, rfl, ?_⟩
          rw [HE2.out]
          rw [← HS.out]
          repeat' (first | exact Q.refl _ | refine Q.alloc ?_ _ | refine Q.jk ?_ _ | refine Q.drew ?_)
        case measure => simp [intOf]
      · have g1 : (t.sub u).In 131072 := HV.out 5
        have g2 : (z.sub x).In 131072 := HI.out 5
        have g3 : ((z.sub x).sc 100).In 13107200 := sc_in (k := 100) (m := 100) g2 (by decide) (by decide)
        have a0 := (cell_of_block (i := 20) D1.out).trans (show _ = some (.int .i64 (t.sub u).a) from rfl)
        have d0 := (cell_of_block (i := 20) D2.out).trans (show _ = some (.int .i64 (z.sub x).a) from rfl)
        have a1 := (cell_of_block (i := 21) D1.out).trans (show _ = some (.int .i64 (t.sub u).b) from rfl)
        have d1 := (cell_of_block (i := 21) D2.out).trans (show _ = some (.int .i64 (z.sub x).b) from rfl)
        have a2 := (cell_of_block (i := 22) D1.out).trans (show _ = some (.int .i64 (t.sub u).c) from rfl)
        have d2 := (cell_of_block (i := 22) D2.out).trans (show _ = some (.int .i64 (z.sub x).c) from rfl)
        have a3 := (cell_of_block (i := 23) D1.out).trans (show _ = some (.int .i64 (t.sub u).d) from rfl)
        have d3 := (cell_of_block (i := 23) D2.out).trans (show _ = some (.int .i64 (z.sub x).d) from rfl)
        obtain ⟨e0, e1, e2, e3, e4, e5, e6, e7⟩ := c48L_at5 (loopV u v t) (loopI x y z r q)
        have HS := Lib.hid (c48L_set5 (loopV u v t) (loopI x y z r q))
        go_wp2_with fail
        try simp only [List.append]
        refine wp_region_tail 11 (by kernel_rfl) (by kernel_rfl) ?_
        simp only [List.take_succ_cons, List.take_zero, List.drop_succ_cons, List.drop_zero]
        repeat (go_big_quiet_step ((go_at_call 60; exact Calls.jk_of (kscale_c _ _ 100 _ (Calc.mk (by simp [go_sem]) (by simp [go_sem])) (Cy.In.mono (by with_reducible assumption) (by decide)) (by decide) (by decide)))))
        refine wpQuiet_nil ?_
        intro _ hw'
        obtain ⟨kq, rfl⟩ := hw'
        go_wp2_with fail
        go_roundw
        case rel =>
          refine ⟨6, by omega, rfl, ?_⟩
          rw [HE2.out]
          rw [← HS.out]
          repeat' (first | exact Q.refl _ | refine Q.alloc ?_ _ | refine Q.jk ?_ _ | refine Q.drew ?_)
        case measure => simp [intOf]
    · obtain rfl : k = 6 := by omega
      go_wp2
      refine bodyPost_ret (v := .tuple #[.agg (c48L (loopV u v t) (loopI x y z r q) 6), .int .i64 0]) (results_blk2 Try.results23 rfl rfl Try.underlying49 rfl (by rw [c48L_size]; exact info48L)) rfl ⟨rfl, ?_⟩
      repeat' (first | exact Q.refl _ | refine Q.alloc ?_ _ | refine Q.jk ?_ _ | refine Q.drew ?_)
end Go.Proofs.Ytomodppdolfinaa
