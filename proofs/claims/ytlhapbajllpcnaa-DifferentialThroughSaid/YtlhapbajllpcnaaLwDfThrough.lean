
/- DifferentialThrough: the walk. -/
import Derived.Test.YtlhapbajllpcnaaDfL
import Derived.Deep.RegionLaw
namespace Go.Sub
theorem through_sum (l : List Cur) (e : Cur) : sumW (l ++ [e, Cur.mk e.i e.r (!e.v)]) = sumW l := by
  rw [sumW_append]
  have h : sumW [e, Cur.mk e.i e.r (!e.v)] = cz := by
    show e.wt.add ((Cur.mk e.i e.r (!e.v)).wt.add cz) = cz
    rw [cadd_zero]
    obtain ⟨i, r, v⟩ := e
    cases v <;> apply Cy.ext' <;> simp only [Cur.wt, Cur.k, Cy.add, Cy.sc, cz, Bool.not_true, Bool.not_false, if_true, if_false, Bool.false_eq_true, Int.mul_neg] <;> omega
  rw [h, cadd_zero]
theorem through_norm (e : Cur) : (Cur.mk e.i e.r (!e.v)).wt.norm = e.wt.norm := by
  obtain ⟨i, r, v⟩ := e
  cases v <;> apply Su.ext' <;> simp only [Cur.wt, Cur.k, Cy.sc, Cy.norm, Bool.not_true, Bool.not_false, if_true, if_false, Bool.false_eq_true] <;> grind
theorem through_res (l : List Cur) (e : Cur) : resW (l ++ [e, Cur.mk e.i e.r (!e.v)]) = ((resW l).add (resW [e])).add (resW [e]) := by
  rw [resW_append, sadd_assoc]
  congr 1
  show e.wt.norm.add ((Cur.mk e.i e.r (!e.v)).wt.norm.add sz) = (e.wt.norm.add sz).add (e.wt.norm.add sz)
  rw [sadd_zero, sadd_zero, through_norm]
theorem through_op (l : List Cur) (e : Cur) {a b d : Int} (hb : 0 ≤ b) (h : opB (l ++ [e, Cur.mk e.i e.r (!e.v)]) a b d = true) : opB l a b d = true := by
  unfold opB at h ⊢
  rw [through_sum] at h
  simp only [Bool.and_eq_true, decide_eq_true_eq] at h ⊢
  refine ⟨h.1, vers_mono hb (Int.le_refl b) (resW_nn l) ?_ h.2⟩
  have e1 : (resW (l ++ [e, Cur.mk e.i e.r (!e.v)])).sub (resW l) = (resW [e]).add (resW [e]) := by
    rw [through_res]
    apply Su.ext' <;> simp only [Su.sub, Su.add] <;> omega
  rw [e1]
  exact sgnS_add (resW_nn _) (resW_nn _)
end Go.Sub
namespace Go.Proofs.Ytlhapbajllpcnaa
open Go.RowKit Go.Sub
theorem RdC.drop {w : World} {g : Nat} {l : List Cur} (h : RdC w g 0 l) (j : Nat) : RdC w g (j * 6) (l.drop j) := by
  intro k c hk
  rw [List.getElem?_drop] at hk
  have := h (j + k) c hk
  rwa [Nat.zero_add, Nat.add_mul] at this
theorem RdC.take {w : World} {g : Nat} {l : List Cur} (h : RdC w g 0 l) (j : Nat) : RdC w g 0 (l.take j) := by
  intro k c hk
  refine h k c ?_
  rw [List.getElem?_take] at hk
  split at hk
  · exact hk
  · cases hk
theorem RowC.made' (W0 w : World) {n : Nat} [h : Blk w n (.cells #[] 59)] (hb : W0.heap.size ≤ n) : RowC W0 w (.slice (some ⟨n, 0, none⟩) 0 0) [] :=
  ⟨rfl, .inr ⟨n, 0, #[], rfl, hb, h.eq, Nat.le_refl _, by decide, rfl, rfl⟩⟩
theorem step_app_cur {ops : Array Oper} {o : Oper} {a : Act} {w : World} {K : Act → World → Prop} {Q' : Exit → Act → World → Prop} {E : Prop} (hgd : o.guard = none) (s x : Operand)
    (ho : o.op = .call { callee := .builtin .append, args := #[s, x], argTypes := #[50, 50] }) (W0 : World) (v : Value) (l m : List Cur) (mn g o' c : Nat)
    (hs : a.eval s = v) (hx : a.eval x = .slice (some ⟨g, o', none⟩) mn c) (hmn : m.length = mn) (hown : RowC W0 w v l) (hm : RdC w g o' m) (hlen : l.length + m.length < 1000000) (hQ : Q W0 w)
    (h : ∀ v' w', Q W0 w' → RowC W0 w' v' (l ++ m) → (∀ g o m, RdC w g o m → m ≠ [] → v.ownBlock ≠ some g → RdC w' g o m) → K (a.put o.dst v') w') :
    if Region.wanted o (yielded ops a.tmps) = true then Oper.wp Try.prog o a w K Q' else E := by
  have hw : Region.wanted o (yielded ops a.tmps) = true := by simp [Region.wanted, hgd]
  rw [if_pos hw]
  subst hmn
  obtain ⟨i, hi, hz, hs1, hb⟩ := infoCur
  obtain ⟨v', w', hr, h2, h3, _, h5⟩ := run_append_own_at (P := Try.prog) w W0.heap.size 50 o.type 59 i _ 6 48 Try.underlying50 hi hz hs1 hb rfl (by decide) v _ _ hown ⟨g, o', none⟩ m.length c (m.flatMap curCells) (flat_len m)
    (fun j u hj => by
      have e : (⟨g, o', none⟩ : Addr).add j = ⟨g, o' + j, none⟩ := by unfold Addr.add; split <;> simp_all
      rw [e]
      exact rdc_flat hm j u hj)
    (fun u hu => by
      obtain ⟨c, _, hu⟩ := List.mem_flatMap.1 hu
      simp only [curCells, List.mem_cons, List.mem_nil_iff, or_false] at hu
      rcases hu with rfl | rfl | rfl | rfl | rfl | rfl <;> rfl) (by unfold maxLen; omega) (by omega) hQ.below.size
  unfold Oper.wp execOp
  simp only [ho, resolve, invoke, builtin, Sem.run_bind, Sem.run_pure, Result.andThen_ok, List.map_toArray, List.map_cons, List.map_nil, hs, hx, hr]
  refine h v' w' (grown_Q hQ h3 fun g hg => (hown.lt g hg).1) ?_ ?_
  rotate_left
  · intro g o m hr hne hb k c hk
    have hlt := (hr.old hne).lt
    have e := h3.block g hlt (fun e => hb e.symm)
    have f := fun j => World.cell?_of_block (w := w) (w' := w') (a := ⟨g, j, none⟩) e
    simp only [f]
    exact hr k c hk
  unfold RowC
  rw [List.length_append, List.flatMap_append]
  exact h2
set_option maxRecDepth 100000 in
set_option maxHeartbeats 4000000 in
theorem dfthrough_nil (A : Option Addr) (n cap : Nat) (c e0 : Cur)  (k1 k2 k3 : Int) (w : World) (FN : Hid (∀ w', Q w w' → Calls Try.prog 33 #[.slice A n cap] w' (RetNil w'))) (FT : Hid (∀ w' g, RdC w' g 0 [c] → Calls Try.prog 33 #[.slice (some ⟨g, 0, none⟩) 1 1] w' fun e w'' => ∃ g c k, e = .returned (.slice (some ⟨g, 0, none⟩) 1 c) ∧ w'' = w'.jk k ∧ w'.heap.size ≤ g ∧ RdC (w'.jk k) g 0 [e0]))  :
    Calls Try.prog 10 #[.slice A n cap, .agg #[.int .i64 c.i.a, .int .i64 c.i.b, .int .i64 c.i.c, .int .i64 c.i.d, .int .i64 c.r, .bool c.v], .agg #[.int .i64 k1, .int .i64 k2, .int .i64 k3]] w fun e w' => e = .returned (.bool true) ∧ Q w w' := by
  go_enter Try.func10, Try.ntmps10
  go_wp2_with (first | (go_at_call 32; refine (known23 _).mono ?_; rintro e w' ⟨rfl, kA, rfl⟩) | (go_at_call 33; (with_reducible show Calls _ _ #[.slice _ 1 1] _ _); refine (FT.out _ _ ?r1).mono ?_; rotate_left; rintro e w' ⟨gt, ct, kt, rfl, rfl, hgt, hrt⟩; have HT := Lib.hid hrt; clear hrt) | (go_at_call 33; refine (FN.out _ (by repeat' (first | exact Q.refl _ | refine Q.alloc ?_ _ | refine Q.jk ?_ _ | refine Q.drew ?_))).mono ?_; rintro e w' ⟨A', c', kf, rfl, rfl⟩))
  case r1 => exact rdc_one (by simp [go_sem]) (by simp [go_sem]) (by simp [go_sem]) (by simp [go_sem]) (by simp [go_sem]) (by simp [go_sem]) 
  go_ret
  refine ⟨rfl, ?_⟩
  repeat' (first | exact Q.refl _ | refine Q.alloc ?_ _ | refine Q.jk ?_ _ | refine Q.drew ?_)
set_option maxRecDepth 100000 in
set_option maxHeartbeats 4000000 in
theorem dfthrough_15 (A : Option Addr) (n cap : Nat) (c e0 : Cur) (xs : List Cur) (k1 k2 k3 : Int) (w : World) (FN : Hid (∀ w', Q w w' → Calls Try.prog 33 #[.slice A n cap] w' (RetCons xs w'))) (FT : Hid (∀ w' g, RdC w' g 0 [c] → Calls Try.prog 33 #[.slice (some ⟨g, 0, none⟩) 1 1] w' fun e w'' => ∃ g c k, e = .returned (.slice (some ⟨g, 0, none⟩) 1 c) ∧ w'' = w'.jk k ∧ w'.heap.size ≤ g ∧ RdC (w'.jk k) g 0 [e0])) (hl : xs.length = 15) :
    Calls Try.prog 10 #[.slice A n cap, .agg #[.int .i64 c.i.a, .int .i64 c.i.b, .int .i64 c.i.c, .int .i64 c.i.d, .int .i64 c.r, .bool c.v], .agg #[.int .i64 k1, .int .i64 k2, .int .i64 k3]] w fun e w' => e = .returned (.bool true) ∧ Q w w' := by
  have HM := Lib.hid hl
  clear hl
  go_enter Try.func10, Try.ntmps10
  go_wp2_with (first | (go_at_call 32; refine (known23 _).mono ?_; rintro e w' ⟨rfl, kA, rfl⟩) | (go_at_call 33; (with_reducible show Calls _ _ #[.slice _ 1 1] _ _); refine (FT.out _ _ ?r1).mono ?_; rotate_left; rintro e w' ⟨gt, ct, kt, rfl, rfl, hgt, hrt⟩; have HT := Lib.hid hrt; clear hrt) | (go_at_call 33; refine (FN.out _ (by repeat' (first | exact Q.refl _ | refine Q.alloc ?_ _ | refine Q.jk ?_ _ | refine Q.drew ?_))).mono ?_; rintro e w' ⟨g, cx, kf, rfl, rfl, hgl, hxc, hcm, hrd, hrow⟩; rw [HM.out] at hxc ⊢; have HX := Lib.hid hrd; clear hrd hrow hcm hgl))
  case r1 => exact rdc_one (by simp [go_sem]) (by simp [go_sem]) (by simp [go_sem]) (by simp [go_sem]) (by simp [go_sem]) (by simp [go_sem]) 
  go_ret
  refine ⟨rfl, ?_⟩
  repeat' (first | exact Q.refl _ | refine Q.alloc ?_ _ | refine Q.jk ?_ _ | refine Q.drew ?_)
set_option maxRecDepth 100000 in
set_option maxHeartbeats 8000000 in
theorem dfthrough_core (A : Option Addr) (n cap : Nat) (xs : List Cur) (c e0 : Cur) (s : Cy) (r r1 r2 ro : Su) (k1 k2 k3 a b d : Int) (p q : Bool) (w : World) (hl : 1 ≤ xs.length) (hl' : xs.length ≤ 14) (FN : Hid (∀ w', Q w w' → Calls Try.prog 33 #[.slice A n cap] w' (RetCons xs w'))) (FT : Hid (∀ w' g, RdC w' g 0 [c] → Calls Try.prog 33 #[.slice (some ⟨g, 0, none⟩) 1 1] w' fun e w'' => ∃ g c k, e = .returned (.slice (some ⟨g, 0, none⟩) 1 c) ∧ w'' = w'.jk k ∧ w'.heap.size ≤ g ∧ RdC (w'.jk k) g 0 [e0])) (ST : Hid (∀ w, Calls Try.prog 34 #[.agg #[.int .i64 k1, .int .i64 k2, .int .i64 k3]] w fun e w' => e = .returned (.tuple #[.int .i64 a, .int .i64 b, .int .i64 d]) ∧ Q w w'))
    (O1 : Hid (∀ w g o c, RdC w g o xs → Calls Try.prog 36 #[.slice (some ⟨g, o, none⟩) xs.length c, .int .i64 a, .int .i64 b, .int .i64 d] w fun e w' => e = .returned (.tuple #[.bool p, .int .i64 0]) ∧ Q w w')) (O2 : Hid (∀ w g o c, RdC w g o (xs ++ [e0, (Cur.mk e0.i e0.r (!e0.v))]) → Calls Try.prog 36 #[.slice (some ⟨g, o, none⟩) (xs ++ [e0, (Cur.mk e0.i e0.r (!e0.v))]).length c, .int .i64 a, .int .i64 b, .int .i64 d] w fun e w' => e = .returned (.tuple #[.bool q, .int .i64 0]) ∧ Q w w')) (S1 : Hid (∀ w g o c, RdC w g o xs → Calls Try.prog 37 #[.slice (some ⟨g, o, none⟩) xs.length c] w fun e w' => e = .returned (.tuple #[.agg #[.int .i64 s.a, .int .i64 s.b, .int .i64 s.c, .int .i64 s.d], .int .i64 0]) ∧ Q w w')) (S2 : Hid (∀ w g o c, RdC w g o (xs ++ [e0, (Cur.mk e0.i e0.r (!e0.v))]) → Calls Try.prog 37 #[.slice (some ⟨g, o, none⟩) (xs ++ [e0, (Cur.mk e0.i e0.r (!e0.v))]).length c] w fun e w' => e = .returned (.tuple #[.agg #[.int .i64 s.a, .int .i64 s.b, .int .i64 s.c, .int .i64 s.d], .int .i64 0]) ∧ Q w w'))
    (R1 : Hid (∀ w g o c, RdC w g o xs → Calls Try.prog 38 #[.slice (some ⟨g, o, none⟩) xs.length c] w fun e w' => e = .returned (.tuple #[.agg #[.int .i64 r.a, .int .i64 r.b], .int .i64 0]) ∧ Q w w')) (R2 : Hid (∀ w g o c, RdC w g o (xs ++ [e0, (Cur.mk e0.i e0.r (!e0.v))]) → Calls Try.prog 38 #[.slice (some ⟨g, o, none⟩) (xs ++ [e0, (Cur.mk e0.i e0.r (!e0.v))]).length c] w fun e w' => e = .returned (.tuple #[.agg #[.int .i64 r2.a, .int .i64 r2.b], .int .i64 0]) ∧ Q w w')) (R3 : Hid (∀ w g o c, RdC w g o [e0] → Calls Try.prog 38 #[.slice (some ⟨g, o, none⟩) [e0].length c] w fun e w' => e = .returned (.tuple #[.agg #[.int .i64 ro.a, .int .i64 ro.b], .int .i64 0]) ∧ Q w w'))
    (D1 : Hid (∀ w, Calls Try.prog 39 #[.agg #[.int .i64 r.a, .int .i64 r.b], .agg #[.int .i64 ro.a, .int .i64 ro.b]] w fun e w' => e = .returned (.tuple #[.agg #[.int .i64 r1.a, .int .i64 r1.b], .int .i64 0]) ∧ Q w w'))
    (D2 : Hid (∀ w, Calls Try.prog 39 #[.agg #[.int .i64 r1.a, .int .i64 r1.b], .agg #[.int .i64 ro.a, .int .i64 ro.b]] w fun e w' => e = .returned (.tuple #[.agg #[.int .i64 r2.a, .int .i64 r2.b], .int .i64 0]) ∧ Q w w')) (hpq : q = true → p = true) :
    Calls Try.prog 10 #[.slice A n cap, .agg #[.int .i64 c.i.a, .int .i64 c.i.b, .int .i64 c.i.c, .int .i64 c.i.d, .int .i64 c.r, .bool c.v], .agg #[.int .i64 k1, .int .i64 k2, .int .i64 k3]] w fun e w' => e = .returned (.bool true) ∧ Q w w' := by
  obtain ⟨m, hm⟩ : ∃ m, xs.length = m := ⟨_, rfl⟩
  have HM := Lib.hid hm
  rw [hm] at hl hl' O1 S1 R1
  have hyl : (xs ++ [e0, (Cur.mk e0.i e0.r (!e0.v))]).length = m + 2 := by
    rw [List.length_append, hm]
    rfl
  rw [hyl] at O2 S2 R2
  rw [show [e0].length = 1 from rfl] at R3
  have EY := Lib.hid hyl
  clear hm hyl
  have hz0 : ((m : Int) == 0) = false := by rw [beq_eq_false_iff_ne]; omega
  have hz1 : decide (14 < (m : Int)) = false := by rw [decide_eq_false_iff_not]; omega
  have HPQ : (p || !q) = true := by cases p <;> cases q <;> simp_all
  clear hpq
  all_goals
    go_enter Try.func10, Try.ntmps10
    go_wp2_with (first | (go_at_call 32; refine (known23 _).mono ?_; rintro e w' ⟨rfl, kA, rfl⟩) | (go_at_call 33; (with_reducible show Calls _ _ #[.slice _ 1 1] _ _); refine (FT.out _ _ ?r1).mono ?_; rotate_left; rintro e w' ⟨gt, ct, kt, rfl, rfl, hgt, hrt⟩; have HT := Lib.hid hrt; obtain ⟨z1, z2, z3, z4, z5, z6⟩ := hrt 0 e0 rfl; simp only [Nat.zero_mul, Nat.add_zero, Nat.zero_add] at z1 z2 z3 z4 z5 z6; haveI := hrt.old (by simp); clear hrt) | (go_at_call 33; refine (FN.out _ (by repeat' (first | exact Q.refl _ | refine Q.alloc ?_ _ | refine Q.jk ?_ _ | refine Q.drew ?_))).mono ?_; rintro e w' ⟨g, cx, kf, rfl, rfl, hgl, hxc, hcm, hrd, hrow⟩; rw [HM.out] at hxc ⊢; have HX := Lib.hid hrd; clear hrd hrow hcm hgl) | (go_at_call 34; refine (ST.out _).mono ?_; rintro e w' ⟨rfl, ks, rfl⟩))
    case r1 => exact rdc_one (by simp [go_sem]) (by simp [go_sem]) (by simp [go_sem]) (by simp [go_sem]) (by simp [go_sem]) (by simp [go_sem]) 
    obtain ⟨W0, hW0⟩ : ∃ W0 : World, W0 = (((((((w.alloc (.cells #[.int .i64 c.i.a, .int .i64 c.i.b, .int .i64 c.i.c, .int .i64 c.i.d, .int .i64 c.r, .bool c.v] 59)).alloc (.cells #[.int .i64 k1, .int .i64 k2, .int .i64 k3] 51)).jk kA).jk kf).alloc (.cells #[.int .i64 c.i.a, .int .i64 c.i.b, .int .i64 c.i.c, .int .i64 c.i.d, .int .i64 c.r, .bool c.v] 59)).jk kt).jk ks).alloc (.cells #[.int .i64 (Cur.mk e0.i e0.r (!e0.v)).i.a, .int .i64 (Cur.mk e0.i e0.r (!e0.v)).i.b, .int .i64 (Cur.mk e0.i e0.r (!e0.v)).i.c, .int .i64 (Cur.mk e0.i e0.r (!e0.v)).i.d, .int .i64 (Cur.mk e0.i e0.r (!e0.v)).r, .bool (Cur.mk e0.i e0.r (!e0.v)).v] 59) := ⟨_, rfl⟩
    rw [← hW0]
    have hqw : Q w W0 := by rw [hW0]; repeat' (first | exact Q.refl _ | refine Q.alloc ?_ _ | refine Q.jk ?_ _ | refine Q.drew ?_)
    have x1 : RdC W0 g 0 xs := by rw [hW0]; exact HX.out.q (by repeat' (first | exact Q.refl _ | refine Q.alloc ?_ _ | refine Q.jk ?_ _ | refine Q.drew ?_))
    have t1 : RdC W0 gt 0 [e0] := by rw [hW0]; exact HT.out.q (by repeat' (first | exact Q.refl _ | refine Q.alloc ?_ _ | refine Q.jk ?_ _ | refine Q.drew ?_))
    have b1 : RdC W0 (w.heap.size + 1 + 1 + kA.os.size + kf.os.size + 1 + kt.os.size + ks.os.size) 0 [(Cur.mk e0.i e0.r (!e0.v))] := by rw [hW0]; exact rdc_one (by simp [go_sem]) (by simp [go_sem]) (by simp [go_sem]) (by simp [go_sem]) (by simp [go_sem]) (by simp [go_sem]) 
    have hb2 : w.heap.size + 1 + 1 + kA.os.size + kf.os.size + 1 + kt.os.size + ks.os.size < W0.heap.size := (b1.old (by simp)).lt
    generalize w.heap.size + 1 + 1 + kA.os.size + kf.os.size + 1 + kt.os.size + ks.os.size = gb at b1 hb2 ⊢
    have hgt2 : gt < W0.heap.size := (t1.old (by simp)).lt
    have X1 := Lib.hid x1
    have T1 := Lib.hid t1
    have B1 := Lib.hid b1
    have HQW := Lib.hid hqw
    obtain ⟨y1, y2, y3, y4, y5, y6⟩ := t1 0 e0 rfl
    obtain ⟨u1, u2, u3, u4, u5, u6⟩ := b1 0 (Cur.mk e0.i e0.r (!e0.v)) rfl
    simp only [Nat.zero_mul, Nat.add_zero, Nat.zero_add] at y1 y2 y3 y4 y5 y6 u1 u2 u3 u4 u5 u6
    haveI : Old gt W0 := ⟨hgt2⟩
    haveI : Old gb W0 := ⟨hb2⟩
    clear hW0 hqw x1 t1 b1 HX HT
    go_region_law (first | (refine step_app_cur rfl _ _ rfl W0 _ [] xs _ _ _ _ (by rfl) (by rfl) HM.out (RowC.made' _ _ (by omega)) (X1.out.q (by repeat' (first | exact Q.refl _ | refine Q.alloc ?_ _ | refine Q.jk ?_ _ | refine Q.drew ?_))) (by rw [HM.out]; simp only [List.length_nil]; omega) (by repeat' (first | exact Q.refl _ | refine Q.alloc ?_ _ | refine Q.jk ?_ _ | refine Q.drew ?_)) ?_; intro v1 w1 hq1 hr1 keep1; obtain ⟨y1', y2', y3', y4', y5', y6'⟩ := (T1.out.q hq1) 0 e0 rfl; obtain ⟨u1', u2', u3', u4', u5', u6'⟩ := (B1.out.q hq1) 0 (Cur.mk e0.i e0.r (!e0.v)) rfl; simp only [Nat.zero_mul, Nat.add_zero, Nat.zero_add] at y1' y2' y3' y4' y5' y6' u1' u2' u3' u4' u5' u6') | (refine step_app_cur rfl _ _ rfl W0 _ xs [e0, (Cur.mk e0.i e0.r (!e0.v))] _ _ _ _ (by rfl) (by rfl) rfl (RowC.q hr1 (by repeat' (first | exact Q.refl _ | refine Q.alloc ?_ _ | refine Q.jk ?_ _ | refine Q.drew ?_))) (by first | exact rdc_two (by simp [go_sem]) (by simp [go_sem]) (by simp [go_sem]) (by simp [go_sem]) (by simp [go_sem]) (by simp [go_sem]) (by simp [go_sem]) (by simp [go_sem]) (by simp [go_sem]) (by simp [go_sem]) (by simp [go_sem]) (by simp [go_sem])  | exact keep1 _ _ _ (rdc_two (by simp [go_sem]) (by simp [go_sem]) (by simp [go_sem]) (by simp [go_sem]) (by simp [go_sem]) (by simp [go_sem]) (by simp [go_sem]) (by simp [go_sem]) (by simp [go_sem]) (by simp [go_sem]) (by simp [go_sem]) (by simp [go_sem]) ) (by simp) (by simp [Value.ownBlock])) (by rw [HM.out]; simp only [List.length_cons, List.length_nil]; omega) (Q.trans hq1 (by repeat' (first | exact Q.refl _ | refine Q.alloc ?_ _ | refine Q.jk ?_ _ | refine Q.drew ?_))) ?_; intro v2 w2 hq2 hr2 keep2))
    all_goals
      obtain ⟨gy, cy, rfl, _, _, _, hry⟩ := RowC.rd hr2 (by simp)
      rw [EY.out]
      have HY := Lib.hid hry
      have HX2 := Lib.hid (X1.out.q hq2)
      have HT2 := Lib.hid (T1.out.q hq2)
      have HQ2 : Hid (Q w w2) := Lib.hid (Q.trans HQW.out hq2)
      clear hry hr1 hr2 hq1 hq2 keep1 keep2 X1 T1 B1 y1 y2 y3 y4 y5 y6 u1 u2 u3 u4 u5 u6 y1' y2' y3' y4' y5' y6' u1' u2' u3' u4' u5' u6' hgt2 hb2 hgt hxc z1 z2 z3 z4 z5 z6
      go_wp2_with (first | (go_at_call 36; first | ((with_reducible refine (O1.out _ _ _ _ (by exact HX2.out.q (by repeat' (first | exact Q.refl _ | refine Q.alloc ?_ _ | refine Q.jk ?_ _ | refine Q.drew ?_)))).mono ?_); rintro e w' ⟨rfl, kj, rfl⟩) | ((with_reducible refine (O2.out _ _ _ _ (by exact HY.out.q (by repeat' (first | exact Q.refl _ | refine Q.alloc ?_ _ | refine Q.jk ?_ _ | refine Q.drew ?_)))).mono ?_); rintro e w' ⟨rfl, kj, rfl⟩)) | (go_at_call 37; first | ((with_reducible refine (S1.out _ _ _ _ (by exact HX2.out.q (by repeat' (first | exact Q.refl _ | refine Q.alloc ?_ _ | refine Q.jk ?_ _ | refine Q.drew ?_)))).mono ?_); rintro e w' ⟨rfl, kj, rfl⟩) | ((with_reducible refine (S2.out _ _ _ _ (by exact HY.out.q (by repeat' (first | exact Q.refl _ | refine Q.alloc ?_ _ | refine Q.jk ?_ _ | refine Q.drew ?_)))).mono ?_); rintro e w' ⟨rfl, kj, rfl⟩)) | (go_at_call 38; first | ((with_reducible refine (R1.out _ _ _ _ (by exact HX2.out.q (by repeat' (first | exact Q.refl _ | refine Q.alloc ?_ _ | refine Q.jk ?_ _ | refine Q.drew ?_)))).mono ?_); rintro e w' ⟨rfl, kj, rfl⟩) | ((with_reducible refine (R2.out _ _ _ _ (by exact HY.out.q (by repeat' (first | exact Q.refl _ | refine Q.alloc ?_ _ | refine Q.jk ?_ _ | refine Q.drew ?_)))).mono ?_); rintro e w' ⟨rfl, kj, rfl⟩) | ((with_reducible refine (R3.out _ _ _ _ (by exact HT2.out.q (by repeat' (first | exact Q.refl _ | refine Q.alloc ?_ _ | refine Q.jk ?_ _ | refine Q.drew ?_)))).mono ?_); rintro e w' ⟨rfl, kj, rfl⟩)) | (go_at_call 39; first | ((with_reducible refine (D1.out _).mono ?_); rintro e w' ⟨rfl, kj, rfl⟩) | ((with_reducible refine (D2.out _).mono ?_); rintro e w' ⟨rfl, kj, rfl⟩)))
      all_goals
        go_ret
        refine ⟨by first | rfl | (show Ending.returned (Value.bool (p || !q)) = _; rw [HPQ]) | (show Ending.returned (Value.bool (!q)) = _; cases p <;> cases q <;> first | rfl | (exact absurd HPQ (by decide)) | contradiction | (simp_all; done)), ?_⟩
        repeat' (first | exact HQ2.out | refine Q.alloc ?_ _ | refine Q.jk ?_ _ | refine Q.drew ?_)
theorem dfthrough_true (A : Option Addr) (n cap : Nat) (l : List Cur) (c : Cur) (k1 k2 k3 : Int) (w : World) (hn : l.length = n) (hA : CurArg w A l) (hm : n ≤ 9223372036854775807) :
    Calls Try.prog 10 #[.slice A n cap, .agg #[.int .i64 c.i.a, .int .i64 c.i.b, .int .i64 c.i.c, .int .i64 c.i.d, .int .i64 c.r, .bool c.v], .agg #[.int .i64 k1, .int .i64 k2, .int .i64 k3]] w fun e w' => e = .returned (.bool true) ∧ Q w w' := by
  have hoke := fineC_ok c
  have ok1 : ∀ x ∈ [fineC c], x.OK := by intro x hx; simp only [List.mem_cons, List.mem_nil_iff, or_false] at hx; subst hx; exact hoke
  have FT : Hid (∀ w' g, RdC w' g 0 [c] → Calls Try.prog 33 #[.slice (some ⟨g, 0, none⟩) 1 1] w' fun e w'' => ∃ g c' k, e = .returned (.slice (some ⟨g, 0, none⟩) 1 c') ∧ w'' = w'.jk k ∧ w'.heap.size ≤ g ∧ RdC (w'.jk k) g 0 [fineC c]) := Lib.hid fun w' g hr => by
    have hx : fineL [c] = [fineC c] := rfl
    refine (fine23_cons (some ⟨g, 0, none⟩) 1 1 [c] w' rfl (fun _ => ⟨g, 0, rfl, hr⟩) (by decide) (by rw [hx]; simp)).mono fun e w'' h => ?_
    obtain ⟨g, cp, k, h1, h2, h3, _, _, h6, _⟩ := h
    rw [hx] at h6
    exact ⟨g, cp, k, h1, h2, h3, h6⟩
  by_cases hx : fineL l = []
  · exact dfthrough_nil A n cap c (fineC c) k1 k2 k3 w (Lib.hid fun w' (hq : Q w w') => fine23_nil A n cap l w' hn (fun h => by obtain ⟨g, o, e, hr⟩ := hA h; exact ⟨g, o, e, hr.q hq⟩) hm hx) FT
  · have hl : 1 ≤ (fineL l).length := by
      cases h : fineL l with
      | nil => exact absurd h hx
      | cons c t => simp
    have hl' := fineL_len l
    have hok := fineL_ok l
    by_cases h15 : (fineL l).length = 15
    · exact dfthrough_15 A n cap c (fineC c) (fineL l) k1 k2 k3 w (Lib.hid fun w' (hq : Q w w') => fine23_cons A n cap l w' hn (fun h => by obtain ⟨g, o, e, hr⟩ := hA h; exact ⟨g, o, e, hr.q hq⟩) hm hx) FT h15
    · obtain ⟨a, ha⟩ : ∃ a, 1 + k1 % 100000 = a := ⟨_, rfl⟩
      obtain ⟨d, hd⟩ : ∃ d, 1 + k3 % 100 = d := ⟨_, rfl⟩
      obtain ⟨b, hb⟩ : ∃ b, k2 % (d + 1) = b := ⟨_, rfl⟩
      have hb0 : 0 ≤ b := by rw [← hb]; exact Int.emod_nonneg _ (by omega)
      have hb1 : b < d + 1 := by rw [← hb]; exact Int.emod_lt_of_pos _ (by omega)
      have hys : ∀ x ∈ fineL l ++ [fineC c, Cur.mk (fineC c).i (fineC c).r (!(fineC c).v)], x.OK := by
        intro x hx
        rcases List.mem_append.1 hx with h | h
        · exact hok x h
        · simp only [List.mem_cons, List.mem_nil_iff, or_false] at h
          rcases h with rfl | rfl
          · exact hoke
          · exact hoke
      have hyl : (fineL l ++ [fineC c, Cur.mk (fineC c).i (fineC c).r (!(fineC c).v)]).length = (fineL l).length + 2 := by rw [List.length_append]; rfl
      have rb := resW_bd hok (by omega)
      have ob := resW_bd ok1 (by simp)
      have rb2 := su_add_in rb ob
      refine dfthrough_core A n cap (fineL l) c (fineC c) (sumW (fineL l)) (resW (fineL l)) ((resW (fineL l)).add (resW [fineC c])) (((resW (fineL l)).add (resW [fineC c])).add (resW [fineC c])) (resW [fineC c]) k1 k2 k3 a b d _ _ w hl (by omega) (Lib.hid fun w' (hq : Q w w') => fine23_cons A n cap l w' hn (fun h => by obtain ⟨g, o, e, hr⟩ := hA h; exact ⟨g, o, e, hr.q hq⟩) hm hx) FT
        (Lib.hid fun w => ?_)
        (Lib.hid fun w g o cp hr => doperate_c g o cp _ _ _ _ w hl (by omega) hr hok (by omega) (by omega) (by omega) (by omega) (by omega) (by omega))
        (Lib.hid fun w g o cp hr => doperate_c g o cp _ _ _ _ w (by omega) (by omega) hr hys (by omega) (by omega) (by omega) (by omega) (by omega) (by omega))
        (Lib.hid fun w g o cp hr => dsum_c g o cp _ w hl (by omega) hr hok) (Lib.hid fun w g o cp hr => ?_)
        (Lib.hid fun w g o cp hr => drestr_c g o cp _ w hl (by omega) hr hok) (Lib.hid fun w g o cp hr => ?_) (Lib.hid fun w g o cp hr => drestr_c g o cp [fineC c] w (by simp) (by simp) hr ok1)
        (Lib.hid fun w => sadd_c _ _ w (rb.mono (by decide)) (ob.mono (by decide))) (Lib.hid fun w => sadd_c _ _ w (rb2.mono (by decide)) (ob.mono (by decide))) (fun h => through_op _ _ hb0 h)
      · have h := settings23_any k1 k2 k3 w
        rw [ha, hd, hb] at h
        exact h
      · have h := dsum_c g o cp (fineL l ++ [fineC c, Cur.mk (fineC c).i (fineC c).r (!(fineC c).v)]) w (by omega) (by omega) hr hys
        rw [through_sum] at h
        exact h
      · have h := drestr_c g o cp (fineL l ++ [fineC c, Cur.mk (fineC c).i (fineC c).r (!(fineC c).v)]) w (by omega) (by omega) hr hys
        rw [through_res] at h
        exact h
end Go.Proofs.Ytlhapbajllpcnaa
