
/- DifferentialSingle: the walk. -/
import Derived.Test.YtlhapbajllpcnaaDfL
namespace Go.Sub
theorem sgn_mul_pos {N : Su} {k : Int} (hN : 0 < sgnS N) : 0 < sgnS ⟨k * N.a, k * N.b⟩ ↔ 0 < k := by
  rcases Int.lt_trichotomy k 0 with h | h | h
  · have h1 := sgnS_smul (x := N) (k := -k) (by omega)
    have h2 := sgnS_neg ⟨-k * N.a, -k * N.b⟩
    have e : Su.mk (-(Su.mk (-k * N.a) (-k * N.b)).a) (-(Su.mk (-k * N.a) (-k * N.b)).b) = ⟨k * N.a, k * N.b⟩ := by
      apply Su.ext' <;> dsimp only <;> rw [Int.neg_mul, Int.neg_neg]
    rw [e, h1] at h2
    omega
  · subst h
    rw [Int.zero_mul, Int.zero_mul]
    exact ⟨fun h => absurd h (by decide), fun h => absurd h (by decide)⟩
  · rw [sgnS_smul h]
    omega
theorem single_op (e : Cur) {a b d : Int} (ha : 1 ≤ a) (hb : 0 ≤ b) (hd : 1 ≤ d) : opB [e] a b d = (decide (0 ≤ sgnS ((resW [e]).sub (minS a))) && decide (b < d)) := by
  have e1 : sumW [e] = e.wt := cadd_zero _
  have e2 : resW [e] = e.wt.norm := sadd_zero _
  unfold opB
  rw [e1, e2]
  rw [Bool.eq_iff_iff]
  simp only [Bool.and_eq_true, decide_eq_true_eq]
  refine and_congr_right fun h => ?_
  have hpos : 0 < sgnS e.wt.norm := by
    have hm : 0 < sgnS (minS a) := by
      have hsq := Int.mul_le_mul ha ha (by decide) (by omega)
      have : sgnS (minS a) = 1 := by
        unfold minS sgnS
        dsimp only
        rw [sgn_pos (show 0 < 36 * a * a by rw [Int.mul_assoc]; omega)]
        simp [sgn_zero]
      omega
    have h2 := sgnS_add_pos hm h
    have ee : (minS a).add (e.wt.norm.sub (minS a)) = e.wt.norm := by apply Su.ext' <;> simp only [Su.add, Su.sub] <;> omega
    rwa [ee] at h2
  have ev : versS e.wt.norm (d * d) e.wt.norm (b * b) = sgnS ⟨(d * d - b * b) * e.wt.norm.a, (d * d - b * b) * e.wt.norm.b⟩ := by
    unfold versS
    rw [← Int.sub_mul, ← Int.sub_mul]
  rw [ev, sgn_mul_pos hpos]
  constructor
  · intro h3
    rcases Int.lt_or_le b d with h4 | h4
    · exact h4
    · have := sq_mono (show 0 ≤ d by omega) h4
      omega
  · intro h3
    have h4 := sq_mono hb (show b ≤ d - 1 by omega)
    have h5 : (d - 1) * (d - 1) = d * d - 2 * d + 1 := by grind
    omega
theorem turn_sc (x : Cy) (k t : Int) : ((x.turn t).sc k).norm = (x.sc k).norm := by
  have e : ∀ y : Cy, (y.sc k).norm = ⟨k * k * y.norm.a, k * k * y.norm.b⟩ := by
    intro y
    apply Su.ext' <;> simp only [Cy.norm, Cy.sc] <;> grind
  rw [e, e, norm_turn]
theorem single_turn (e : Cur) (t a b d : Int) : opB [⟨e.i.turn t, e.r, e.v⟩] a b d = opB [e] a b d := by
  have e1 : ∀ c : Cur, sumW [c] = c.wt := fun c => cadd_zero _
  have e2 : ∀ c : Cur, resW [c] = c.wt.norm := fun c => sadd_zero _
  have e3 : (Cur.mk (e.i.turn t) e.r e.v).wt.norm = e.wt.norm := turn_sc e.i e.k t
  unfold opB
  rw [e1, e1, e2, e2, e3]
end Go.Sub
namespace Go.Proofs.Ytlhapbajllpcnaa
open Go.RowKit Go.Sub
theorem RowC.made (W0 : World) {n : Nat} [h : Sz W0 n] : RowC W0 (W0.alloc (.cells #[] 59)) (.slice (some ⟨n, 0, none⟩) 0 0) [] := by
  have e := h.eq
  subst e
  exact World.ownsRow_made W0 #[] 0 (Nat.le_refl _) (by decide) rfl
theorem wpList_app_cur2 {ops : Array Oper} {rest : List Oper} {o : Oper} {a : Act} {w : World} {Q' : Exit → Act → World → Prop} (hgd : o.guard = none) (s x : Operand)
    (ho : o.op = .call { callee := .builtin .append, args := #[s, x], argTypes := #[50, 50] }) (W0 : World) (v : Value) (l m : List Cur) (g o' c : Nat)
    (hs : a.eval s = v) (hx : a.eval x = .slice (some ⟨g, o', none⟩) m.length c) (hown : RowC W0 w v l) (hm : RdC w g o' m) (hlen : l.length + m.length < 1000000) (hQ : Q W0 w)
    (h : ∀ v' w', Q W0 w' → RowC W0 w' v' (l ++ m) → wpList Try.prog ops Q' rest (a.put o.dst v') w') : wpList Try.prog ops Q' (o :: rest) a w :=
  wpList_app_cur hgd s x ho W0 v l m g o' c hs hx hown hm hlen hQ fun v' kk hr => h v' _ ⟨kk, rfl⟩ hr
theorem row_soft {W0 w : World} {g n c : Nat} {l : List Cur} (h : RowC W0 w (.slice (some ⟨g, 0, none⟩) n c) l) (i : Nat) : w.frozen? ⟨g, i, none⟩ = false := by
  rcases h.2 with ⟨h0, _⟩ | ⟨g', cap, cur, h0, _, hg, _⟩
  · cases h0
  · simp only [Value.slice.injEq, Option.some.injEq, Addr.mk.injEq, and_true] at h0
    obtain ⟨rfl, _, _⟩ := h0
    unfold World.frozen?
    rw [hg]
    simp
set_option maxRecDepth 100000 in
set_option maxHeartbeats 4000000 in
theorem dfsingle_core (c e0 : Cur) (T : Cy) (N : Su) (k1 k2 k3 j a b d s : Int) (p : Bool) (w : World) (FN : Hid (∀ w' g, RdC w' g 0 [c] → Calls Try.prog 33 #[.slice (some ⟨g, 0, none⟩) 1 1] w' fun e w'' => ∃ g c k, e = .returned (.slice (some ⟨g, 0, none⟩) 1 c) ∧ w'' = w'.jk k ∧ w'.heap.size ≤ g ∧ RdC (w'.jk k) g 0 [e0])) (ST : Hid (∀ w, Calls Try.prog 34 #[.agg #[.int .i64 k1, .int .i64 k2, .int .i64 k3]] w fun e w' => e = .returned (.tuple #[.int .i64 a, .int .i64 b, .int .i64 d]) ∧ Q w w')) (_ : 1 ≤ a) (_ : a ≤ 100000) (_ : 0 ≤ b) (_ : b ≤ d) (_ : 1 ≤ d) (_ : d ≤ 100)
    (O1 : Hid (∀ w g c, RdC w g 0 [e0] → Calls Try.prog 36 #[.slice (some ⟨g, 0, none⟩) 1 c, .int .i64 a, .int .i64 b, .int .i64 d] w fun e w' => e = .returned (.tuple #[.bool p, .int .i64 0]) ∧ Q w w')) (O2 : Hid (∀ w g c, RdC w g 0 [⟨T, e0.r, e0.v⟩] → Calls Try.prog 36 #[.slice (some ⟨g, 0, none⟩) 1 c, .int .i64 a, .int .i64 b, .int .i64 d] w fun e w' => e = .returned (.tuple #[.bool p, .int .i64 0]) ∧ Q w w'))
    (R1 : Hid (∀ w g c, RdC w g 0 [e0] → Calls Try.prog 38 #[.slice (some ⟨g, 0, none⟩) 1 c] w fun e w' => e = .returned (.tuple #[.agg #[.int .i64 N.a, .int .i64 N.b], .int .i64 0]) ∧ Q w w'))
    (CM : Hid (∀ w, Calls Try.prog 30 #[.agg #[.int .i64 N.a, .int .i64 N.b], .agg #[.int .i64 (36 * a * a), .int .i64 0]] w fun e w' => e = .returned (.tuple #[.int .i64 s, .int .i64 0]) ∧ Q w w'))
    (TN : Hid (∀ w, Calls Try.prog 31 #[.agg #[.int .i64 e0.i.a, .int .i64 e0.i.b, .int .i64 e0.i.c, .int .i64 e0.i.d], .int .i64 (j.tmod 12)] w fun e w' => e = .returned (.tuple #[.agg #[.int .i64 T.a, .int .i64 T.b, .int .i64 T.c, .int .i64 T.d], .int .i64 0]) ∧ Q w w'))
    (HP : (0 ≤ s ∧ b < d ∧ p = true) ∨ (0 ≤ s ∧ d ≤ b ∧ p = false) ∨ (s < 0 ∧ p = false)) (q1 : 36 * a * a ≤ 1000000000000) (q0 : 0 ≤ 36 * a * a) :
    Calls Try.prog 13 #[.agg #[.int .i64 c.i.a, .int .i64 c.i.b, .int .i64 c.i.c, .int .i64 c.i.d, .int .i64 c.r, .bool c.v], .agg #[.int .i64 k1, .int .i64 k2, .int .i64 k3], .int .i64 j] w fun e w' => e = .returned (.bool true) ∧ Q w w' := by
  rcases HP with ⟨s0, s1, rfl⟩ | ⟨s0, s1, rfl⟩ | ⟨s0, rfl⟩
  all_goals
    go_enter Try.func13, Try.ntmps13
    go_wp2_with (first | (go_at_call 32; refine (known23 _).mono ?_; rintro e w' ⟨rfl, kj, rfl⟩) | (go_at_call 34; refine (ST.out _).mono ?_; rintro e w' ⟨rfl, kj, rfl⟩) | (go_at_call 33; refine (FN.out _ _ ?r1).mono ?_; rotate_left; rintro e w' ⟨g, cx, kf, rfl, rfl, hgl, hrd⟩; have HX := Lib.hid hrd; clear hrd) | (go_at_call 36; refine (O1.out _ _ _ (HX.out.q (by repeat' (first | exact Q.refl _ | refine Q.alloc ?_ _ | refine Q.jk ?_ _ | refine Q.drew ?_)))).mono ?_; rintro e w' ⟨rfl, kj, rfl⟩) | (go_at_call 38; refine (R1.out _ _ _ (HX.out.q (by repeat' (first | exact Q.refl _ | refine Q.alloc ?_ _ | refine Q.jk ?_ _ | refine Q.drew ?_)))).mono ?_; rintro e w' ⟨rfl, kj, rfl⟩) | (go_at_call 30; (with_reducible refine (CM.out _).mono ?_); rintro e w' ⟨rfl, kj, rfl⟩) | (at_builtin; refine wpList_app_cur2 rfl _ _ rfl _ _ [] [e0] _ 0 _ (by rfl) (by rfl) (RowC.made _) (HX.out.q (by repeat' (first | exact Q.refl _ | refine Q.alloc ?_ _ | refine Q.jk ?_ _ | refine Q.drew ?_))) (by simp) ((Q.refl _).alloc _) ?_))
    case r1 => exact rdc_one (by simp [go_sem]) (by simp [go_sem]) (by simp [go_sem]) (by simp [go_sem]) (by simp [go_sem]) (by simp [go_sem]) 
    intro v' w2 hq2 hr'
    have hqw : Q w w2 := Q.trans (by repeat' (first | exact Q.refl _ | refine Q.alloc ?_ _ | refine Q.jk ?_ _ | refine Q.drew ?_)) hq2
    obtain ⟨g2, c2, rfl, hg2, _, _, hrd2⟩ := RowC.rd (l := [e0]) hr' (by simp)
    have hg3 : w.heap.size ≤ g2 := by
      refine Nat.le_trans ?_ hg2
      simp only [World.size_jk, World.size_alloc]
      omega
    have hf := row_soft hr'
    have f0 := hf 0
    have f1 := hf 1
    have f2 := hf 2
    have f3 := hf 3
    obtain ⟨y1, y2, y3, y4, y5, y6⟩ := hrd2 0 e0 rfl
    simp only [Nat.zero_mul, Nat.add_zero, Nat.zero_add] at y1 y2 y3 y4 y5 y6
    haveI : Old g2 w2 := ⟨World.block_lt_of_cell? w2 ⟨g2, 0, none⟩ y1⟩
    have HQ := Lib.hid hqw
    clear hq2 hr' hrd2 hf hg2 hqw hgl HX
    go_wp2_with (first | (go_at_call 31; (with_reducible refine (TN.out _).mono ?_); rintro e w' ⟨rfl, kj, rfl⟩) | (go_at_call 36; refine (O2.out _ _ _ ?r2).mono ?_; rotate_left; rintro e w' ⟨rfl, kj, rfl⟩))
    case r2 => exact rdc_one (by simp [go_sem, y1]) (by simp [go_sem, y2]) (by simp [go_sem, y3]) (by simp [go_sem, y4]) (by simp [go_sem, y5]) (by simp [go_sem, y6])
    go_ret
    refine ⟨by first | rfl | (show Ending.returned (Value.bool (!decide (b < d))) = _; rw [decide_eq_false (Int.not_lt.2 s1)]; rfl), ?_⟩
    repeat' (first | exact HQ.out | refine Q.alloc ?_ _ | refine Q.jk ?_ _ | refine Q.drew ?_ | refine Q.setCell ?_ (by omega) _)
theorem dfsingle_true (c : Cur) (k1 k2 k3 j : Int) (w : World) (_ : -9223372036854775808 ≤ j ∧ j ≤ 9223372036854775807) :
    Calls Try.prog 13 #[.agg #[.int .i64 c.i.a, .int .i64 c.i.b, .int .i64 c.i.c, .int .i64 c.i.d, .int .i64 c.r, .bool c.v], .agg #[.int .i64 k1, .int .i64 k2, .int .i64 k3], .int .i64 j] w fun e w' => e = .returned (.bool true) ∧ Q w w' := by
  have hok := fineC_ok c
  have hin := fineC_in c
  obtain ⟨a, ha⟩ : ∃ a, 1 + k1 % 100000 = a := ⟨_, rfl⟩
  obtain ⟨d, hd⟩ : ∃ d, 1 + k3 % 100 = d := ⟨_, rfl⟩
  obtain ⟨b, hb⟩ : ∃ b, k2 % (d + 1) = b := ⟨_, rfl⟩
  have hb0 : 0 ≤ b := by rw [← hb]; exact Int.emod_nonneg _ (by omega)
  have hb1 : b < d + 1 := by rw [← hb]; exact Int.emod_lt_of_pos _ (by omega)
  have hm := bd_mul (show -100000 ≤ a by omega) (show a ≤ 100000 by omega) (show -100000 ≤ a by omega) (show a ≤ 100000 by omega)
  have hsq := Int.mul_le_mul (show 1 ≤ a by omega) (show 1 ≤ a by omega) (by decide) (by omega)
  have hT := turn_in (j.tmod 12) hin
  have ok1 : ∀ x ∈ [fineC c], x.OK := by intro x hx; simp only [List.mem_cons, List.mem_nil_iff, or_false] at hx; subst hx; exact hok
  have ok2 : ∀ x ∈ [Cur.mk ((fineC c).i.turn (j.tmod 12)) (fineC c).r (fineC c).v], x.OK := by intro x hx; simp only [List.mem_cons, List.mem_nil_iff, or_false] at hx; subst hx; exact ⟨hT.mono (by decide), hok.2⟩
  have hr1 := resW_bd ok1 (by simp)
  have hms := minS_in (m := a) (by omega) (by omega)
  refine dfsingle_core c (fineC c) ((fineC c).i.turn (j.tmod 12)) (resW [fineC c]) k1 k2 k3 j a b d _ (opB [fineC c] a b d) w (Lib.hid fun w' g hr => ?_) (Lib.hid fun w => ?_) (by omega) (by omega) hb0 (by omega) (by omega) (by omega)
    (Lib.hid fun w g cp hr => doperate_c g 0 cp [fineC c] a b d w (by simp) (by simp) hr ok1 (by omega) (by omega) (by omega) (by omega) (by omega) (by omega))
    (Lib.hid fun w g cp hr => ?_)
    (Lib.hid fun w g cp hr => drestr_c g 0 cp [fineC c] w (by simp) (by simp) hr ok1)
    (Lib.hid fun w => scmp_c (resW [fineC c]) (minS a) w (hr1.mono (by decide)) (hms.mono (by decide)))
    (Lib.hid fun w => turn_c (fineC c).i (j.tmod 12) w (hin.mono (by decide))) ?_ (by rw [Int.mul_assoc]; omega) (by rw [Int.mul_assoc]; omega)
  · have hx : fineL [c] = [fineC c] := rfl
    refine (fine23_cons (some ⟨g, 0, none⟩) 1 1 [c] w' rfl (fun _ => ⟨g, 0, rfl, hr⟩) (by decide) (by rw [hx]; simp)).mono fun e w'' h => ?_
    obtain ⟨g, cp, k, h1, h2, h3, _, _, h6, _⟩ := h
    rw [hx] at h6
    exact ⟨g, cp, k, h1, h2, h3, h6⟩
  · have h := settings23_any k1 k2 k3 w
    rw [ha, hd, hb] at h
    exact h
  · have h := doperate_c g 0 cp [Cur.mk ((fineC c).i.turn (j.tmod 12)) (fineC c).r (fineC c).v] a b d w (by simp) (by simp) hr ok2 (by omega) (by omega) (by omega) (by omega) (by omega) (by omega)
    rw [single_turn] at h
    exact h
  · rw [single_op (fineC c) (by omega) hb0 (by omega)]
    rcases Int.lt_or_le (sgnS ((resW [fineC c]).sub (minS a))) 0 with h | h
    · exact .inr (.inr ⟨h, by rw [decide_eq_false (by omega)]; rfl⟩)
    · rcases Int.lt_or_le b d with h2 | h2
      · exact .inl ⟨h, h2, by rw [decide_eq_true h, decide_eq_true h2]; rfl⟩
      · exact .inr (.inl ⟨h, h2, by rw [decide_eq_true h, decide_eq_false (Int.not_lt.2 h2)]; rfl⟩)
end Go.Proofs.Ytlhapbajllpcnaa
