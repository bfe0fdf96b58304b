
/- What Inside of package distance returns for arguments in their range. -/
import Derived.Test.YtomodppdolfinaaDsB
namespace Go.Proofs.Ytomodppdolfinaa
open Go.RowKit Go.Sub

@[go_sem high] theorem neqSurd (w : World) (a b a' b' : Int) :
    (binOp .neq 89 (.agg #[.int .i64 a, .int .i64 b]) (.agg #[.int .i64 a', .int .i64 b'])).run Try.prog w = .ok (.bool (!(Su.eqB ⟨a, b⟩ ⟨a', b'⟩))) w := by
  simp only [Su.eqB]
  by_cases h : a = a'
  · subst h; by_cases h2 : b = b' <;> simp [go_sem, h2]
  · simp [go_sem, h]
theorem old_block {w : World} {b : Nat} {o : Obj} (h : w.heap[b]? = some o) : Old b w := ⟨(Array.getElem?_eq_some_iff.1 h).1⟩
/-- Three new pairs written: only new blocks still, and what lies there. -/
theorem three_pairs {w u : World} {t : TypeId} {b1 b2 b3 : Nat} {p1 q1 p2 q2 p3 q3 p1' q1' p2' q2' p3' q3' : Value} (hq : Q w u) (h1 : w.heap.size ≤ b1 ∧ u.heap[b1]? = some (.cells #[p1', q1'] t)) (h2 : w.heap.size ≤ b2 ∧ u.heap[b2]? = some (.cells #[p2', q2'] t)) (h3 : w.heap.size ≤ b3 ∧ u.heap[b3]? = some (.cells #[p3', q3'] t))
    (n12 : b1 ≠ b2) (n13 : b1 ≠ b3) (n23 : b2 ≠ b3) :
    ∃ k : Jk, ((((((u.setCell ⟨b1, 0, none⟩ p1).setCell ⟨b1, 1, none⟩ q1).setCell ⟨b2, 0, none⟩ p2).setCell ⟨b2, 1, none⟩ q2).setCell ⟨b3, 0, none⟩ p3).setCell ⟨b3, 1, none⟩ q3) = w.jk k ∧
      (w.jk k).heap[b1]? = some (.cells #[p1, q1] t) ∧ (w.jk k).heap[b2]? = some (.cells #[p2, q2] t) ∧ (w.jk k).heap[b3]? = some (.cells #[p3, q3] t) := by
  have hq2 : Q w ((((((u.setCell ⟨b1, 0, none⟩ p1).setCell ⟨b1, 1, none⟩ q1).setCell ⟨b2, 0, none⟩ p2).setCell ⟨b2, 1, none⟩ q2).setCell ⟨b3, 0, none⟩ p3).setCell ⟨b3, 1, none⟩ q3) :=
    (((((hq.setCell h1.1 _).setCell h1.1 _).setCell h2.1 _).setCell h2.1 _).setCell h3.1 _).setCell h3.1 _
  obtain ⟨k, hk⟩ := hq2
  refine ⟨k, hk, ?_, ?_, ?_⟩
  · rw [← hk, setCell_block_ne n13.symm, setCell_block_ne n13.symm, setCell_block_ne n12.symm, setCell_block_ne n12.symm, setCell_block (setCell_block h1.2)]
    rfl
  · have e : ((u.setCell ⟨b1, 0, none⟩ p1).setCell ⟨b1, 1, none⟩ q1).heap[b2]? = some (.cells #[p2', q2'] t) := by
      rw [setCell_block_ne n12, setCell_block_ne n12]; exact h2.2
    rw [← hk, setCell_block_ne n23.symm, setCell_block_ne n23.symm, setCell_block (setCell_block e)]
    rfl
  · have e : ((((u.setCell ⟨b1, 0, none⟩ p1).setCell ⟨b1, 1, none⟩ q1).setCell ⟨b2, 0, none⟩ p2).setCell ⟨b2, 1, none⟩ q2).heap[b3]? = some (.cells #[p3', q3'] t) := by
      rw [setCell_block_ne n23, setCell_block_ne n23, setCell_block_ne n13, setCell_block_ne n13]; exact h3.2
    rw [← hk, setCell_block (setCell_block e)]
    rfl

set_option maxRecDepth 100000 in
set_option maxHeartbeats 4000000 in
theorem inside_core (v i m : Cy) (X Y N : Su) (on fwd : Bool) (zx zr zl zd : Int) (s p1 p2 p3 : Int) (w : World) (hv : v.In 33554432) (hi : i.In 134217728) (hz : Zn.OK ⟨on, fwd, zx, zr, zl, zd⟩) (hc : i.conj.In 268435456) (em : Hid (v.mul i.conj = m)) (hm : m.In 100000000000000000) (eY : Hid (m.real = Y)) (eX : Hid (m.imag = X)) (eN : Hid (i.norm = N))
    (hs : (fwd = true ∧ s = 1) ∨ (fwd = false ∧ s = -1)) (V1 : Hid (∀ b w, Calc w b → Calls Try.prog 48 #[.pointer (some ⟨b, 0, none⟩), .agg #[.int .i64 X.a, .int .i64 X.b], .int .i64 s, .agg #[.int .i64 N.a, .int .i64 N.b], .int .i64 (2 * zx)] w fun e w' => e = .returned (.int .i64 p1) ∧ Q w w')) (V2 : Hid (∀ b w, Calc w b → Calls Try.prog 48 #[.pointer (some ⟨b, 0, none⟩), .agg #[.int .i64 Y.a, .int .i64 Y.b], .int .i64 s, .agg #[.int .i64 N.a, .int .i64 N.b], .int .i64 (2 * zr)] w fun e w' => e = .returned (.int .i64 p2) ∧ Q w w')) (V3 : Hid (∀ b w, Calc w b → Calls Try.prog 48 #[.pointer (some ⟨b, 0, none⟩), .agg #[.int .i64 Y.a, .int .i64 Y.b], .int .i64 s, .agg #[.int .i64 N.a, .int .i64 N.b], .int .i64 (-2 * zl)] w fun e w' => e = .returned (.int .i64 p3) ∧ Q w w'))
    (HP : (Su.eqB ⟨N.a, N.b⟩ ⟨0, 0⟩ = true) ∨ (Su.eqB ⟨N.a, N.b⟩ ⟨0, 0⟩ = false ∧ 0 < p1) ∨ (Su.eqB ⟨N.a, N.b⟩ ⟨0, 0⟩ = false ∧ p1 ≤ 0 ∧ 0 < p2) ∨ (Su.eqB ⟨N.a, N.b⟩ ⟨0, 0⟩ = false ∧ p1 ≤ 0 ∧ p2 ≤ 0)) :
    Calls Try.prog 18 #[.agg #[.int .i64 v.a, .int .i64 v.b, .int .i64 v.c, .int .i64 v.d, .int .i64 i.a, .int .i64 i.b, .int .i64 i.c, .int .i64 i.d], .agg #[.bool on, .bool fwd, .int .i64 zx, .int .i64 zr, .int .i64 zl, .int .i64 zd]] w fun e w' => e = .returned (.tuple #[.bool (!(Su.eqB ⟨N.a, N.b⟩ ⟨0, 0⟩) && decide (p1 ≤ 0) && decide (p2 ≤ 0) && decide (0 ≤ p3)), .int .i64 0]) ∧ Q w w' := by
  have h1 := wiB_of hv
  have h2 := wiB_of hi
  have HZ := Lib.hid hz
  obtain ⟨zx0, zx1, zr0, zr1, zl0, zl1⟩ := hz
  dsimp only at zx0 zx1 zr0 zr1 zl0 zl1
  have HPP := Lib.hid HP
  clear HP
  rcases hs with ⟨rfl, rfl⟩ | ⟨rfl, rfl⟩
  · go_enter Try.func18, Try.ntmps18
    go_wp2_with (first | (go_at_call 40; refine (dwithin_c _ _ _ (by decide) (by decide)).mono ?_; rintro e w' ⟨rfl, kj, rfl⟩) | (go_at_call 41; (with_reducible refine (dreaches_c ⟨on, _, zx, zr, zl, zd⟩ _ HZ.out).mono ?_); rintro e w' ⟨rfl, kj, rfl⟩))
    try simp only [List.append]
    refine wp_region_al1 7 6 7 (.cells #[.int .i64 0, .int .i64 0, .int .i64 0, .int .i64 0] 23) Try.func0 rfl (by kernel_rfl) (by kernel_rfl) (by kernel_rfl) (by kernel_rfl) (by kernel_rfl) (by intro op hop a w; simp at hop; subst hop; simp [go_sem]) ?_
    intro k0
    simp only [List.map_cons, List.map_nil, unal, List.take_succ_cons, List.take_zero, List.drop_succ_cons, List.drop_zero]
    repeat (go_big_quiet_step ((first | (go_at_call 43; exact Calls.jk_of (kconj_c _ i _ (Calc.mk (by simp [go_sem]) (by simp [go_sem])) (hi.mono (by decide)))) | (go_at_call 42; exact Calls.jk_of (kmul_c _ v i.conj _ (Calc.mk (by simp [go_sem]) (by simp [go_sem])) (hv.mono (by decide)) hc)))))
    refine wpQuiet_nil ?_
    intro k1 k2 _
    simp only [Act.put, List.setIfInBounds_toArray, List.set_cons_succ, List.set_cons_zero]
    rw [em.out]
    simp only [World.size_jk, World.size_alloc]
    go_upto_region 5 with fail
    try simp only [List.append]
    refine wp_region_al3 10 7 8 (.cells #[.int .i64 0, .int .i64 0] 89) 8 9 (.cells #[.int .i64 0, .int .i64 0] 89) 9 10 (.cells #[.int .i64 0, .int .i64 0] 89) Try.func0 rfl (by kernel_rfl) (by kernel_rfl) (by kernel_rfl) (by kernel_rfl) (by decide) (by decide) (by decide) (by kernel_rfl) (by intro op hop a w; simp at hop; subst hop; simp [go_sem]) (by intro op hop a w; simp at hop; subst hop; simp [go_sem]) (by intro op hop a w; simp at hop; subst hop; simp [go_sem]) ?_
    intro k0
    simp only [List.map_cons, List.map_nil, unal, List.take_succ_cons, List.take_zero, List.drop_succ_cons, List.drop_zero]
    repeat (go_big_quiet_step ((first | (go_at_call 44; (with_reducible show Calls _ _ #[_, .func (.func 45) _ _, _] _ _); exact Calls.jk_of (kreal_c _ m _ (Calc.mk (by simp [go_sem]) (by simp [go_sem])) hm)) | (go_at_call 44; (with_reducible show Calls _ _ #[_, .func (.func 46) _ _, _] _ _); exact Calls.jk_of (kimag_c _ m _ (Calc.mk (by simp [go_sem]) (by simp [go_sem])) hm)) | (go_at_call 44; (with_reducible show Calls _ _ #[_, .func (.func 47) _ _, _] _ _); exact Calls.jk_of (knorm_c _ i _ (Calc.mk (by simp [go_sem]) (by simp [go_sem])) (hi.mono (by decide)))))))
    refine wpQuiet_nil ?_
    intro b1 b2 b3 q1 q2 q3 n12 n13 n23
    simp only [Act.put, List.setIfInBounds_toArray, List.set_cons_succ, List.set_cons_zero]
    rw [eY.out, eX.out, eN.out]
    have c10 := cell_of_block (i := 0) q1.2
    have c11 := cell_of_block (i := 1) q1.2
    have c20 := cell_of_block (i := 0) q2.2
    have c21 := cell_of_block (i := 1) q2.2
    have c30 := cell_of_block (i := 0) q3.2
    have c31 := cell_of_block (i := 1) q3.2
    have f10 := soft_of_block (i := 0) q1.2
    have f11 := soft_of_block (i := 1) q1.2
    have f20 := soft_of_block (i := 0) q2.2
    have f21 := soft_of_block (i := 1) q2.2
    have f30 := soft_of_block (i := 0) q3.2
    have f31 := soft_of_block (i := 1) q3.2
    have m12 := n12.symm
    have m13 := n13.symm
    have m23 := n23.symm
    go_upto_region 6 with fail
    obtain ⟨kx, hk, B1, B2, B3⟩ := three_pairs (p1 := .int .i64 Y.a) (q1 := .int .i64 Y.b) (p2 := .int .i64 X.a) (q2 := .int .i64 X.b) (p3 := .int .i64 N.a) (q3 := .int .i64 N.b) ⟨k0, rfl⟩ q1 q2 q3 n12 n13 n23
    rw [hk]
    clear hk c10 c11 c20 c21 c30 c31 f10 f11 f20 f21 f30 f31 q1 q2 q3
    have c10 := cell_of_block (i := 0) B1
    have c11 := cell_of_block (i := 1) B1
    have c20 := cell_of_block (i := 0) B2
    have c21 := cell_of_block (i := 1) B2
    have c30 := cell_of_block (i := 0) B3
    have c31 := cell_of_block (i := 1) B3
    haveI := old_block B1
    haveI := old_block B2
    haveI := old_block B3
    clear B1 B2 B3
    all_goals rcases HPP.out with hN | ⟨hN, g1⟩ | ⟨hN, g1, g2⟩ | ⟨hN, g1, g2⟩
    all_goals
      go_wp2_with (first | (go_at_call 48; (with_reducible refine (V1.out _ _ (Calc.mk (by simp [go_sem]) (by simp [go_sem]))).mono ?_); rintro e w' ⟨rfl, kj, rfl⟩) | (go_at_call 48; (with_reducible refine (V2.out _ _ (Calc.mk (by simp [go_sem]) (by simp [go_sem]))).mono ?_); rintro e w' ⟨rfl, kj, rfl⟩) | (go_at_call 48; (with_reducible refine (V3.out _ _ (Calc.mk (by simp [go_sem]) (by simp [go_sem]))).mono ?_); rintro e w' ⟨rfl, kj, rfl⟩))
      go_ret2
      refine ⟨by first | (simp [*]; done) | (simp [*]; omega), ?_⟩
      repeat' (first | exact Q.refl _ | refine Q.alloc ?_ _ | refine Q.jk ?_ _ | refine Q.drew ?_)
  · go_enter Try.func18, Try.ntmps18
    go_wp2_with (first | (go_at_call 40; refine (dwithin_c _ _ _ (by decide) (by decide)).mono ?_; rintro e w' ⟨rfl, kj, rfl⟩) | (go_at_call 41; (with_reducible refine (dreaches_c ⟨on, _, zx, zr, zl, zd⟩ _ HZ.out).mono ?_); rintro e w' ⟨rfl, kj, rfl⟩))
    try simp only [List.append]
    refine wp_region_al1 7 6 7 (.cells #[.int .i64 0, .int .i64 0, .int .i64 0, .int .i64 0] 23) Try.func0 rfl (by kernel_rfl) (by kernel_rfl) (by kernel_rfl) (by kernel_rfl) (by kernel_rfl) (by intro op hop a w; simp at hop; subst hop; simp [go_sem]) ?_
    intro k0
    simp only [List.map_cons, List.map_nil, unal, List.take_succ_cons, List.take_zero, List.drop_succ_cons, List.drop_zero]
    repeat (go_big_quiet_step ((first | (go_at_call 43; exact Calls.jk_of (kconj_c _ i _ (Calc.mk (by simp [go_sem]) (by simp [go_sem])) (hi.mono (by decide)))) | (go_at_call 42; exact Calls.jk_of (kmul_c _ v i.conj _ (Calc.mk (by simp [go_sem]) (by simp [go_sem])) (hv.mono (by decide)) hc)))))
    refine wpQuiet_nil ?_
    intro k1 k2 _
    simp only [Act.put, List.setIfInBounds_toArray, List.set_cons_succ, List.set_cons_zero]
    rw [em.out]
    simp only [World.size_jk, World.size_alloc]
    go_upto_region 5 with fail
    try simp only [List.append]
    refine wp_region_al3 10 7 8 (.cells #[.int .i64 0, .int .i64 0] 89) 8 9 (.cells #[.int .i64 0, .int .i64 0] 89) 9 10 (.cells #[.int .i64 0, .int .i64 0] 89) Try.func0 rfl (by kernel_rfl) (by kernel_rfl) (by kernel_rfl) (by kernel_rfl) (by decide) (by decide) (by decide) (by kernel_rfl) (by intro op hop a w; simp at hop; subst hop; simp [go_sem]) (by intro op hop a w; simp at hop; subst hop; simp [go_sem]) (by intro op hop a w; simp at hop; subst hop; simp [go_sem]) ?_
    intro k0
    simp only [List.map_cons, List.map_nil, unal, List.take_succ_cons, List.take_zero, List.drop_succ_cons, List.drop_zero]
    repeat (go_big_quiet_step ((first | (go_at_call 44; (with_reducible show Calls _ _ #[_, .func (.func 45) _ _, _] _ _); exact Calls.jk_of (kreal_c _ m _ (Calc.mk (by simp [go_sem]) (by simp [go_sem])) hm)) | (go_at_call 44; (with_reducible show Calls _ _ #[_, .func (.func 46) _ _, _] _ _); exact Calls.jk_of (kimag_c _ m _ (Calc.mk (by simp [go_sem]) (by simp [go_sem])) hm)) | (go_at_call 44; (with_reducible show Calls _ _ #[_, .func (.func 47) _ _, _] _ _); exact Calls.jk_of (knorm_c _ i _ (Calc.mk (by simp [go_sem]) (by simp [go_sem])) (hi.mono (by decide)))))))
    refine wpQuiet_nil ?_
    intro b1 b2 b3 q1 q2 q3 n12 n13 n23
    simp only [Act.put, List.setIfInBounds_toArray, List.set_cons_succ, List.set_cons_zero]
    rw [eY.out, eX.out, eN.out]
    have c10 := cell_of_block (i := 0) q1.2
    have c11 := cell_of_block (i := 1) q1.2
    have c20 := cell_of_block (i := 0) q2.2
    have c21 := cell_of_block (i := 1) q2.2
    have c30 := cell_of_block (i := 0) q3.2
    have c31 := cell_of_block (i := 1) q3.2
    have f10 := soft_of_block (i := 0) q1.2
    have f11 := soft_of_block (i := 1) q1.2
    have f20 := soft_of_block (i := 0) q2.2
    have f21 := soft_of_block (i := 1) q2.2
    have f30 := soft_of_block (i := 0) q3.2
    have f31 := soft_of_block (i := 1) q3.2
    have m12 := n12.symm
    have m13 := n13.symm
    have m23 := n23.symm
    go_upto_region 6 with fail
    obtain ⟨kx, hk, B1, B2, B3⟩ := three_pairs (p1 := .int .i64 Y.a) (q1 := .int .i64 Y.b) (p2 := .int .i64 X.a) (q2 := .int .i64 X.b) (p3 := .int .i64 N.a) (q3 := .int .i64 N.b) ⟨k0, rfl⟩ q1 q2 q3 n12 n13 n23
    rw [hk]
    clear hk c10 c11 c20 c21 c30 c31 f10 f11 f20 f21 f30 f31 q1 q2 q3
    have c10 := cell_of_block (i := 0) B1
    have c11 := cell_of_block (i := 1) B1
    have c20 := cell_of_block (i := 0) B2
    have c21 := cell_of_block (i := 1) B2
    have c30 := cell_of_block (i := 0) B3
    have c31 := cell_of_block (i := 1) B3
    haveI := old_block B1
    haveI := old_block B2
    haveI := old_block B3
    clear B1 B2 B3
    all_goals rcases HPP.out with hN | ⟨hN, g1⟩ | ⟨hN, g1, g2⟩ | ⟨hN, g1, g2⟩
    all_goals
      go_wp2_with (first | (go_at_call 48; (with_reducible refine (V1.out _ _ (Calc.mk (by simp [go_sem]) (by simp [go_sem]))).mono ?_); rintro e w' ⟨rfl, kj, rfl⟩) | (go_at_call 48; (with_reducible refine (V2.out _ _ (Calc.mk (by simp [go_sem]) (by simp [go_sem]))).mono ?_); rintro e w' ⟨rfl, kj, rfl⟩) | (go_at_call 48; (with_reducible refine (V3.out _ _ (Calc.mk (by simp [go_sem]) (by simp [go_sem]))).mono ?_); rintro e w' ⟨rfl, kj, rfl⟩))
      go_ret2
      refine ⟨by first | (simp [*]; done) | (simp [*]; omega), ?_⟩
      repeat' (first | exact Q.refl _ | refine Q.alloc ?_ _ | refine Q.jk ?_ _ | refine Q.drew ?_)

theorem inside_c (v i : Cy) (z : Zn) (w : World) (hv : v.In 33554432) (hi : i.In 134217728) (hz : Zn.OK z) :
    Calls Try.prog 18 #[.agg #[.int .i64 v.a, .int .i64 v.b, .int .i64 v.c, .int .i64 v.d, .int .i64 i.a, .int .i64 i.b, .int .i64 i.c, .int .i64 i.d], .agg #[.bool z.on, .bool z.fwd, .int .i64 z.x, .int .i64 z.r, .int .i64 z.l, .int .i64 z.d]] w fun e w' => e = .returned (.tuple #[.bool (insB v i z), .int .i64 0]) ∧ Q w w' := by
  have hc : i.conj.In 268435456 := (Cy.conj_in hi).mono (by decide)
  have hm : (v.mul i.conj).In 60000000000000000 := (Cy.mul_in' hv hc).mono (by decide)
  have hn : i.norm.In 200000000000000000 := (norm_in hi).mono (by decide)
  have hx : (v.mul i.conj).imag.In 200000000000000000 := by unfold Cy.In at hm; unfold Su.In Cy.imag; dsimp only; omega
  have hy : (v.mul i.conj).real.In 200000000000000000 := by unfold Cy.In at hm; unfold Su.In Cy.real; dsimp only; omega
  have hs : (z.fwd = true ∧ z.s = 1) ∨ (z.fwd = false ∧ z.s = -1) := by
    unfold Zn.s
    cases z.fwd
    · exact .inr ⟨rfl, rfl⟩
    · exact .inl ⟨rfl, rfl⟩
  have w4 : ∀ x : Su, x.In 200000000000000000 → wi4 1152921504606846976 x.a x.b i.norm.a i.norm.b = true := by
    intro x h
    unfold Su.In at h hn
    exact (wi4_iff _ _ _ _ _).2 (by omega)
  obtain ⟨x0, x1, r0, r1, l0, l1⟩ := hz
  have w2 : ∀ k : Int, -8000 ≤ k → k ≤ 8000 → wi2 1073741824 z.s k = true := fun k h0 h1 => (wi2_iff _ _ _).2 (by omega)
  unfold insB
  refine inside_core v i (v.mul i.conj) (v.mul i.conj).imag (v.mul i.conj).real i.norm z.on z.fwd z.x z.r z.l z.d z.s (versS (v.mul i.conj).imag z.s i.norm (2 * z.x)) (versS (v.mul i.conj).real z.s i.norm (2 * z.r)) (versS (v.mul i.conj).real z.s i.norm (-2 * z.l)) w hv hi ⟨x0, x1, r0, r1, l0, l1⟩ hc (Lib.hid rfl) (hm.mono (by decide)) (Lib.hid rfl) (Lib.hid rfl) (Lib.hid rfl) hs
    (Lib.hid fun b w hb => kvers_c b (v.mul i.conj).imag z.s i.norm (2 * z.x) w hb (w4 _ hx) (w2 _ (by omega) (by omega))) (Lib.hid fun b w hb => kvers_c b (v.mul i.conj).real z.s i.norm (2 * z.r) w hb (w4 _ hy) (w2 _ (by omega) (by omega))) (Lib.hid fun b w hb => kvers_c b (v.mul i.conj).real z.s i.norm (-2 * z.l) w hb (w4 _ hy) (w2 _ (by omega) (by omega))) ?_
  cases hN : Su.eqB ⟨i.norm.a, i.norm.b⟩ ⟨0, 0⟩
  · rcases Int.lt_or_le 0 (versS (v.mul i.conj).imag z.s i.norm (2 * z.x)) with h1 | h1
    · exact .inr (.inl ⟨rfl, h1⟩)
    · rcases Int.lt_or_le 0 (versS (v.mul i.conj).real z.s i.norm (2 * z.r)) with h2 | h2
      · exact .inr (.inr (.inl ⟨rfl, h1, h2⟩))
      · exact .inr (.inr (.inr ⟨rfl, h1, h2⟩))
  · exact .inl rfl
end Go.Proofs.Ytomodppdolfinaa
