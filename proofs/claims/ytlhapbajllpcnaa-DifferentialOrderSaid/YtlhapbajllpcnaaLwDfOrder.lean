
/- DifferentialOrder: the walk. -/
import Derived.Test.YtlhapbajllpcnaaDfL
import Derived.Deep.RegionLaw
namespace Go.Proofs.Ytlhapbajllpcnaa
open Go.RowKit Go.Sub
theorem RdC.drop {w : World} {g : Nat} {l : List Cur} (h : RdC w g 0 l) (j : Nat) : RdC w g (j * 6) (l.drop j) := by
  intro k c hk
  rw [List.getElem?_drop] at hk
  have := h (j + k) c hk
  rwa [Nat.zero_add, Nat.add_mul] at this
theorem RdC.take {w : World} {g : Nat} {l : List Cur} (h : RdC w g 0 l) (j : Nat) : RdC w g 0 (l.take j) := by
  intro k c hk
  refine h k c ?_
  rw [List.getElem?_take] at hk
  split at hk
  · exact hk
  · cases hk
theorem RowC.made' (W0 w : World) {n : Nat} [h : Blk w n (.cells #[] 59)] (hb : W0.heap.size ≤ n) : RowC W0 w (.slice (some ⟨n, 0, none⟩) 0 0) [] :=
  ⟨rfl, .inr ⟨n, 0, #[], rfl, hb, h.eq, Nat.le_refl _, by decide, rfl, rfl⟩⟩
theorem step_app_cur {ops : Array Oper} {o : Oper} {a : Act} {w : World} {K : Act → World → Prop} {Q' : Exit → Act → World → Prop} {E : Prop} (hgd : o.guard = none) (s x : Operand)
    (ho : o.op = .call { callee := .builtin .append, args := #[s, x], argTypes := #[50, 50] }) (W0 : World) (v : Value) (l m : List Cur) (mn g o' c : Nat)
    (hs : a.eval s = v) (hx : a.eval x = .slice (some ⟨g, o', none⟩) mn c) (hmn : m.length = mn) (hown : RowC W0 w v l) (hm : RdC w g o' m) (hlen : l.length + m.length < 1000000) (hQ : Q W0 w)
    (h : ∀ v' w', Q W0 w' → RowC W0 w' v' (l ++ m) → K (a.put o.dst v') w') :
    if Region.wanted o (yielded ops a.tmps) = true then Oper.wp Try.prog o a w K Q' else E := by
  have hw : Region.wanted o (yielded ops a.tmps) = true := by simp [Region.wanted, hgd]
  rw [if_pos hw]
  subst hmn
  obtain ⟨i, hi, hz, hs1, hb⟩ := infoCur
  obtain ⟨v', w', hr, h2, h3, _, h5⟩ := run_append_own_at (P := Try.prog) w W0.heap.size 50 o.type 59 i _ 6 48 Try.underlying50 hi hz hs1 hb rfl (by decide) v _ _ hown ⟨g, o', none⟩ m.length c (m.flatMap curCells) (flat_len m)
    (fun j u hj => by
      have e : (⟨g, o', none⟩ : Addr).add j = ⟨g, o' + j, none⟩ := by unfold Addr.add; split <;> simp_all
      rw [e]
      exact rdc_flat hm j u hj)
    (fun u hu => by
      obtain ⟨c, _, hu⟩ := List.mem_flatMap.1 hu
      simp only [curCells, List.mem_cons, List.mem_nil_iff, or_false] at hu
      rcases hu with rfl | rfl | rfl | rfl | rfl | rfl <;> rfl) (by unfold maxLen; omega) (by omega) hQ.below.size
  unfold Oper.wp execOp
  simp only [ho, resolve, invoke, builtin, Sem.run_bind, Sem.run_pure, Result.andThen_ok, List.map_toArray, List.map_cons, List.map_nil, hs, hx, hr]
  refine h v' w' (grown_Q hQ h3 fun g hg => (hown.lt g hg).1) ?_
  unfold RowC
  rw [List.length_append, List.flatMap_append]
  exact h2
set_option maxRecDepth 100000 in
set_option maxHeartbeats 4000000 in
theorem dforder_nil (A : Option Addr) (n cap : Nat) (k1 k2 k3 j : Int) (w : World) (FN : Hid (∀ w', Q w w' → Calls Try.prog 33 #[.slice A n cap] w' (RetNil w')))  :
    Calls Try.prog 9 #[.slice A n cap, .agg #[.int .i64 k1, .int .i64 k2, .int .i64 k3], .int .i64 j] w fun e w' => e = .returned (.bool true) ∧ Q w w' := by
  go_enter Try.func9, Try.ntmps9
  go_wp2_with (first | (go_at_call 32; refine (known23 _).mono ?_; rintro e w' ⟨rfl, kj, rfl⟩) | (go_at_call 33; refine (FN.out _ (by repeat' (first | exact Q.refl _ | refine Q.alloc ?_ _ | refine Q.jk ?_ _ | refine Q.drew ?_))).mono ?_; rintro e w' ⟨A', c', kf, rfl, rfl⟩))
  go_ret
  refine ⟨rfl, ?_⟩
  repeat' (first | exact Q.refl _ | refine Q.alloc ?_ _ | refine Q.jk ?_ _ | refine Q.drew ?_)
set_option maxRecDepth 100000 in
set_option maxHeartbeats 8000000 in
theorem dforder_core (A : Option Addr) (n cap jn : Nat) (xs : List Cur) (s : Cy) (k1 k2 k3 j a b d : Int) (p : Bool) (w : World) (hl : 1 ≤ xs.length) (hl' : xs.length ≤ 15) (hj : jn < xs.length) (FN : Hid (∀ w', Q w w' → Calls Try.prog 33 #[.slice A n cap] w' (RetCons xs w'))) (ST : Hid (∀ w, Calls Try.prog 34 #[.agg #[.int .i64 k1, .int .i64 k2, .int .i64 k3]] w fun e w' => e = .returned (.tuple #[.int .i64 a, .int .i64 b, .int .i64 d]) ∧ Q w w')) (_ : 1 ≤ a) (_ : a ≤ 100000) (_ : 0 ≤ b) (_ : b ≤ d) (_ : 1 ≤ d) (_ : d ≤ 100)
    (WT : Hid (∀ w, Calls Try.prog 35 #[.int .i64 j, .int .i64 (xs.length : Int)] w fun e w' => e = .returned (.int .i64 (jn : Int)) ∧ w = w'))
    (O1 : Hid (∀ w g o c, RdC w g o xs → Calls Try.prog 36 #[.slice (some ⟨g, o, none⟩) xs.length c, .int .i64 a, .int .i64 b, .int .i64 d] w fun e w' => e = .returned (.tuple #[.bool p, .int .i64 0]) ∧ Q w w')) (O2 : Hid (∀ w g o c, RdC w g o (xs.drop jn ++ xs.take jn) → Calls Try.prog 36 #[.slice (some ⟨g, o, none⟩) (xs.drop jn ++ xs.take jn).length c, .int .i64 a, .int .i64 b, .int .i64 d] w fun e w' => e = .returned (.tuple #[.bool p, .int .i64 0]) ∧ Q w w')) (S1 : Hid (∀ w g o c, RdC w g o xs → Calls Try.prog 37 #[.slice (some ⟨g, o, none⟩) xs.length c] w fun e w' => e = .returned (.tuple #[.agg #[.int .i64 s.a, .int .i64 s.b, .int .i64 s.c, .int .i64 s.d], .int .i64 0]) ∧ Q w w')) (S2 : Hid (∀ w g o c, RdC w g o (xs.drop jn ++ xs.take jn) → Calls Try.prog 37 #[.slice (some ⟨g, o, none⟩) (xs.drop jn ++ xs.take jn).length c] w fun e w' => e = .returned (.tuple #[.agg #[.int .i64 s.a, .int .i64 s.b, .int .i64 s.c, .int .i64 s.d], .int .i64 0]) ∧ Q w w')) :
    Calls Try.prog 9 #[.slice A n cap, .agg #[.int .i64 k1, .int .i64 k2, .int .i64 k3], .int .i64 j] w fun e w' => e = .returned (.bool true) ∧ Q w w' := by
  obtain ⟨m, hm⟩ : ∃ m, xs.length = m := ⟨_, rfl⟩
  have HM := Lib.hid hm
  rw [hm] at hl hl' hj WT O1 S1
  have hyl : (xs.drop jn ++ xs.take jn).length = m := by
    rw [List.length_append, List.length_drop, List.length_take]
    omega
  rw [hyl] at O2 S2
  have EY := Lib.hid hyl
  clear hm hyl
  go_enter Try.func9, Try.ntmps9
  go_wp2_with (first | (go_at_call 32; refine (known23 _).mono ?_; rintro e w' ⟨rfl, kA, rfl⟩) | (go_at_call 33; refine (FN.out _ (by repeat' (first | exact Q.refl _ | refine Q.alloc ?_ _ | refine Q.jk ?_ _ | refine Q.drew ?_))).mono ?_; rintro e w' ⟨g, cx, kf, rfl, rfl, hgl, hxc, hcm, hrd, hrow⟩; rw [HM.out] at hxc ⊢; have HX := Lib.hid hrd; clear hrd hrow hcm hgl) | (go_at_call 34; refine (ST.out _).mono ?_; rintro e w' ⟨rfl, kj, rfl⟩) | (go_at_call 35; refine (WT.out _).mono ?_; rintro e w' ⟨rfl, rfl⟩))
  have h1 : jn ≤ m := by omega
  have h2 : ¬ cx = jn := by omega
  have h3 : jn ≤ cx := by omega
  go_region_law (first | (refine step_app_cur rfl _ _ rfl (((w.alloc (.cells #[.int .i64 k1, .int .i64 k2, .int .i64 k3] 51)).jk kA).jk kf) _ [] (xs.drop jn) _ _ _ _ (by rfl) (by rfl) (by rw [List.length_drop, HM.out]) (RowC.made' _ _ (by simp only [World.size_jk, World.size_alloc]; omega)) ((HX.out.q (by repeat' (first | exact Q.refl _ | refine Q.alloc ?_ _ | refine Q.jk ?_ _ | refine Q.drew ?_))).drop jn) (by rw [List.length_drop, HM.out]; simp only [List.length_nil]; omega) (by repeat' (first | exact Q.refl _ | refine Q.alloc ?_ _ | refine Q.jk ?_ _ | refine Q.drew ?_)) ?_; intro v1 w1 hq1 hr1) | (refine step_app_cur rfl _ _ rfl (((w.alloc (.cells #[.int .i64 k1, .int .i64 k2, .int .i64 k3] 51)).jk kA).jk kf) _ (xs.drop jn) (xs.take jn) _ _ _ _ (by rfl) (by rfl) (by rw [List.length_take, HM.out]; omega) hr1 ((HX.out.q hq1).take jn) (by rw [List.length_drop, List.length_take, HM.out]; omega) hq1 ?_; intro v2 w2 hq2 hr2))
  all_goals
    obtain ⟨gy, cy, rfl, _, _, _, hry⟩ := RowC.rd hr2 (by
      intro e
      have h := congrArg List.length e
      rw [List.length_append, List.length_drop, List.length_take, HM.out] at h
      simp only [List.length_nil] at h
      omega)
    rw [EY.out]
    have HY := Lib.hid hry
    have HX2 := Lib.hid (HX.out.q hq2)
    have HQW : Hid (Q w w2) := Lib.hid (Q.trans (by repeat' (first | exact Q.refl _ | refine Q.alloc ?_ _ | refine Q.jk ?_ _ | refine Q.drew ?_)) hq2)
    clear hry hr1 hr2 hq1 hq2 HX h1 h2 h3 hxc
    go_wp2_with (first | (go_at_call 36; first | ((with_reducible refine (O1.out _ _ _ _ (by exact HX2.out.q (by repeat' (first | exact Q.refl _ | refine Q.alloc ?_ _ | refine Q.jk ?_ _ | refine Q.drew ?_)))).mono ?_); rintro e w' ⟨rfl, kj, rfl⟩) | ((with_reducible refine (O2.out _ _ _ _ (by exact HY.out.q (by repeat' (first | exact Q.refl _ | refine Q.alloc ?_ _ | refine Q.jk ?_ _ | refine Q.drew ?_)))).mono ?_); rintro e w' ⟨rfl, kj, rfl⟩)) | (go_at_call 37; first | ((with_reducible refine (S1.out _ _ _ _ (by exact HX2.out.q (by repeat' (first | exact Q.refl _ | refine Q.alloc ?_ _ | refine Q.jk ?_ _ | refine Q.drew ?_)))).mono ?_); rintro e w' ⟨rfl, kj, rfl⟩) | ((with_reducible refine (S2.out _ _ _ _ (by exact HY.out.q (by repeat' (first | exact Q.refl _ | refine Q.alloc ?_ _ | refine Q.jk ?_ _ | refine Q.drew ?_)))).mono ?_); rintro e w' ⟨rfl, kj, rfl⟩)))
    go_ret
    refine ⟨rfl, ?_⟩
    repeat' (first | exact HQW.out | refine Q.alloc ?_ _ | refine Q.jk ?_ _ | refine Q.drew ?_)
theorem dforder_true (A : Option Addr) (n cap : Nat) (l : List Cur) (k1 k2 k3 j : Int) (w : World) (hn : l.length = n) (hA : CurArg w A l) (hm : n ≤ 9223372036854775807) (_ : -9223372036854775808 ≤ j ∧ j ≤ 9223372036854775807) :
    Calls Try.prog 9 #[.slice A n cap, .agg #[.int .i64 k1, .int .i64 k2, .int .i64 k3], .int .i64 j] w fun e w' => e = .returned (.bool true) ∧ Q w w' := by
  by_cases hx : fineL l = []
  · exact dforder_nil A n cap k1 k2 k3 j w (Lib.hid fun w' (hq : Q w w') => fine23_nil A n cap l w' hn (fun h => by obtain ⟨g, o, e, hr⟩ := hA h; exact ⟨g, o, e, hr.q hq⟩) hm hx)
  · have hl : 1 ≤ (fineL l).length := by
      cases h : fineL l with
      | nil => exact absurd h hx
      | cons c t => simp
    have hl' := fineL_len l
    have hok := fineL_ok l
    obtain ⟨a, ha⟩ : ∃ a, 1 + k1 % 100000 = a := ⟨_, rfl⟩
    obtain ⟨d, hd⟩ : ∃ d, 1 + k3 % 100 = d := ⟨_, rfl⟩
    obtain ⟨b, hb⟩ : ∃ b, k2 % (d + 1) = b := ⟨_, rfl⟩
    have hb0 : 0 ≤ b := by rw [← hb]; exact Int.emod_nonneg _ (by omega)
    have hb1 : b < d + 1 := by rw [← hb]; exact Int.emod_lt_of_pos _ (by omega)
    have hj0 : 0 ≤ j % ((fineL l).length : Int) := Int.emod_nonneg _ (by omega)
    have hj1 : j % ((fineL l).length : Int) < ((fineL l).length : Int) := Int.emod_lt_of_pos _ (by omega)
    obtain ⟨jn, hjn⟩ := Int.eq_ofNat_of_zero_le hj0
    have hys : ∀ c ∈ (fineL l).drop jn ++ (fineL l).take jn, c.OK := by
      intro c hc
      rcases List.mem_append.1 hc with h | h
      · exact hok c (List.mem_of_mem_drop h)
      · exact hok c (List.mem_of_mem_take h)
    have hyl : ((fineL l).drop jn ++ (fineL l).take jn).length = (fineL l).length := by
      rw [List.length_append, List.length_drop, List.length_take]
      omega
    refine dforder_core A n cap jn (fineL l) (sumW (fineL l)) k1 k2 k3 j a b d (opB (fineL l) a b d) w hl hl' (by omega) (Lib.hid fun w' (hq : Q w w') => fine23_cons A n cap l w' hn (fun h => by obtain ⟨g, o, e, hr⟩ := hA h; exact ⟨g, o, e, hr.q hq⟩) hm hx)
      (Lib.hid fun w => ?_) (by omega) (by omega) hb0 (by omega) (by omega) (by omega) (Lib.hid fun w => ?_)
      (Lib.hid fun w g o c hr => doperate_c g o c _ _ _ _ w hl (by omega) hr hok (by omega) (by omega) (by omega) (by omega) (by omega) (by omega))
      (Lib.hid fun w g o c hr => ?_) (Lib.hid fun w g o c hr => dsum_c g o c _ w hl (by omega) hr hok) (Lib.hid fun w g o c hr => ?_)
    · have h := settings23_any k1 k2 k3 w
      rw [ha, hd, hb] at h
      exact h
    · have h := within23_any j ((fineL l).length : Int) w (by omega) (by omega)
      rw [hjn] at h
      exact h
    · have h := doperate_c g o c ((fineL l).drop jn ++ (fineL l).take jn) a b d w (by omega) (by omega) hr hys (by omega) (by omega) (by omega) (by omega) (by omega) (by omega)
      rw [opB_congr a b d (sumW_rot _ _) (resW_rot _ _)] at h
      exact h
    · have h := dsum_c g o c ((fineL l).drop jn ++ (fineL l).take jn) w (by omega) (by omega) hr hys
      rw [sumW_rot] at h
      exact h
end Go.Proofs.Ytlhapbajllpcnaa
