
/- DifferentialBalance: the walk. -/
import Derived.Test.YtlhapbajllpcnaaDfL
namespace Go.Sub
def balC (c : Cur) : Cur := ⟨⟨c.i.a.tmod 4096, c.i.b.tmod 4096, c.i.c.tmod 4096, c.i.d.tmod 4096⟩, 1 + c.r % 5, c.v⟩
theorem balC_in (c : Cur) : (balC c).i.In 4095 := by
  have h1 := tmod_in c.i.a (show (0 : Int) < 4096 by decide)
  have h2 := tmod_in c.i.b (show (0 : Int) < 4096 by decide)
  have h3 := tmod_in c.i.c (show (0 : Int) < 4096 by decide)
  have h4 := tmod_in c.i.d (show (0 : Int) < 4096 by decide)
  unfold Cy.In balC
  dsimp only
  omega
theorem balC_ok (c : Cur) : (balC c).OK := ⟨(balC_in c).mono (by decide), by unfold balC; dsimp only; omega, by unfold balC; dsimp only; omega⟩
theorem balC_wt (c : Cur) : (balC c).wt.In 20475 := by
  have hk : -5 ≤ (balC c).k ∧ (balC c).k ≤ 5 := by
    unfold Cur.k balC
    dsimp only
    split <;> omega
  exact (sc_in (l := 4095) (m := 5) (balC_in c) hk.1 hk.2).mono (by decide)
theorem bal_sum (l : List Cur) : (sumW (l.map balC)).In (l.length * 20475) := by
  induction l with
  | nil => unfold sumW cz Cy.In; simp
  | cons c l ih =>
    have h1 := Cy.add_in (balC_wt c) ih
    refine Cy.In.mono h1 ?_
    simp only [List.length_cons]
    omega
theorem bal_ok (l : List Cur) : ∀ c ∈ l.map balC, c.OK := by
  intro c hc
  obtain ⟨d, _, rfl⟩ := List.mem_map.1 hc
  exact balC_ok d
theorem bal_zero (l : List Cur) : sumW (l ++ [⟨sumW l, 1, true⟩]) = ⟨0, 0, 0, 0⟩ := by
  rw [sumW_append]
  have e : sumW [Cur.mk (sumW l) 1 true] = (sumW l).sc (-1) := cadd_zero _
  rw [e]
  apply Cy.ext' <;> simp only [Cy.add, Cy.sc] <;> omega
theorem bal_no (l : List Cur) {a : Int} (ha : 1 ≤ a) (b d : Int) : opB (l ++ [⟨sumW l, 1, true⟩]) a b d = false := by
  unfold opB
  rw [bal_zero]
  have h : ¬ 0 ≤ sgnS ((Cy.mk 0 0 0 0).norm.sub (minS a)) := by
    have e : (Cy.mk 0 0 0 0).norm.sub (minS a) = ⟨-(36 * a * a), -0⟩ := by
      apply Su.ext'
      · show (0 : Int) - 36 * a * a = -(36 * a * a)
        omega
      · rfl
    have hsq := Int.mul_le_mul ha ha (by decide) (by omega)
    have : sgnS (Su.mk (36 * a * a) 0) = 1 := by
      unfold sgnS
      dsimp only
      rw [sgn_pos (show 0 < 36 * a * a by rw [Int.mul_assoc]; omega)]
      simp [sgn_zero]
    rw [e, sgnS_neg ⟨36 * a * a, 0⟩, this]
    decide
  rw [decide_eq_false h]
  rfl
end Go.Sub
namespace Go.Proofs.Ytlhapbajllpcnaa
open Go.RowKit Go.Sub
theorem RowC.made (W0 : World) {n : Nat} [h : Sz W0 n] : RowC W0 (W0.alloc (.cells #[] 59)) (.slice (some ⟨n, 0, none⟩) 0 0) [] := by
  have e := h.eq
  subst e
  exact World.ownsRow_made W0 #[] 0 (Nat.le_refl _) (by decide) rfl
theorem wpList_app_cur2 {ops : Array Oper} {rest : List Oper} {o : Oper} {a : Act} {w : World} {Q' : Exit → Act → World → Prop} (hgd : o.guard = none) (s x : Operand)
    (ho : o.op = .call { callee := .builtin .append, args := #[s, x], argTypes := #[50, 50] }) (W0 : World) (v : Value) (l m : List Cur) (g o' c : Nat)
    (hs : a.eval s = v) (hx : a.eval x = .slice (some ⟨g, o', none⟩) m.length c) (hown : RowC W0 w v l) (hm : RdC w g o' m) (hlen : l.length + m.length < 1000000) (hQ : Q W0 w)
    (h : ∀ v' w', Q W0 w' → RowC W0 w' v' (l ++ m) → wpList Try.prog ops Q' rest (a.put o.dst v') w') : wpList Try.prog ops Q' (o :: rest) a w :=
  wpList_app_cur hgd s x ho W0 v l m g o' c hs hx hown hm hlen hQ fun v' kk hr => h v' _ ⟨kk, rfl⟩ hr
set_option maxRecDepth 100000 in
set_option maxHeartbeats 8000000 in
theorem dfbal_true (A : Option Addr) (n cap : Nat) (l : List Cur) (k1 k2 k3 : Int) (w : World) (hn : l.length = n) (hA : CurArg w A l) (hm : n ≤ 9223372036854775807) :
    Calls Try.prog 12 #[.slice A n cap, .agg #[.int .i64 k1, .int .i64 k2, .int .i64 k3]] w fun e w' => e = .returned (.bool true) ∧ Q w w' := by
  have HN := Lib.hid hn
  have HA := Lib.hid hA
  clear hn hA
  go_enter Try.func12, Try.ntmps12
  go_wp2_with (go_at_call 32; refine (known23 _).mono ?_; rintro e w' ⟨rfl, kA, rfl⟩)
  go_loopw [5, 6] (fun v i wr => ∃ k : Nat, k ≤ 3 ∧ k ≤ n ∧ i = .int .i64 k ∧ Q ((w.alloc (.cells #[.int .i64 k1, .int .i64 k2, .int .i64 k3] 51)).jk kA) wr ∧ RowC ((w.alloc (.cells #[.int .i64 k1, .int .i64 k2, .int .i64 k3] 51)).jk kA) wr v ((l.take k).map balC)) (fun _ i _ => 3 - (intOf i).toNat)
  case atStart => exact ⟨0, by omega, by omega, rfl, Q.refl _, RowC.nil _ _⟩
  case round =>
    obtain ⟨k, hk, hkn, rfl, ⟨kw, rfl⟩, hrow⟩ := hrel
    obtain ⟨M, hM⟩ : ∃ M, (l.take k).map balC = M := ⟨_, rfl⟩
    rw [hM] at hrow
    have HR := Lib.hid hrow
    have HM := Lib.hid hM
    clear hrow hM
    have EL : Hid (M.length = k) := Lib.hid (by rw [← HM.out, List.length_map, List.length_take, HN.out]; omega)
    by_cases hcont : k < n ∧ k < 3
    · obtain ⟨h1, h2⟩ := hcont
      have hkl : k < l.length := by rw [HN.out]; exact h1
      obtain ⟨c, hc⟩ : ∃ c, l[k]? = some c := ⟨_, List.getElem?_eq_getElem hkl⟩
      obtain ⟨g, o, rfl, hrd⟩ := HA.out (by intro e; rw [e] at hkl; simp at hkl)
      haveI := hrd.old (by intro e; rw [e] at hkl; simp at hkl)
      obtain ⟨c1, c2, c3, c4, c5, c6⟩ := hrd k c hc
      have EK : Hid ((l.take (k + 1)).map balC = M ++ [balC c]) := Lib.hid (by rw [← HM.out, List.take_add_one, hc, List.map_append]; rfl)
      clear hc hkl hrd
      go_wp2
      refine wp_loop_rounds 5 ?_
      repeat (rw [rounds_succ]; go_wp2_with (first | (go_at_call 35; refine (within23_any _ _ _ (by omega) (by omega)).mono ?_; rintro e w' ⟨rfl, rfl⟩) | (at_builtin; refine wpList_app_cur rfl _ _ rfl ((w.alloc (.cells #[.int .i64 k1, .int .i64 k2, .int .i64 k3] 51)).jk kA) _ _ [balC c] _ 0 _ (by rfl) (by rfl) (HR.out.q ?c1) ?c2 ?c3 ?c4 ?_)))
      case c1 => repeat' (first | exact Q.refl _ | refine Q.alloc ?_ _ | refine Q.jk ?_ _ | refine Q.drew ?_)
      case c2 => exact rdc_one (by simp [go_sem, balC]) (by simp [go_sem, balC]) (by simp [go_sem, balC]) (by simp [go_sem, balC]) (by simp [go_sem, balC]) (by simp [go_sem, balC]) 
      case c3 => rw [EL.out]; simp only [List.length_cons, List.length_nil]; omega
      case c4 => repeat' (first | exact Q.refl _ | refine Q.alloc ?_ _ | refine Q.jk ?_ _ | refine Q.drew ?_)
      intro v' k1 hr'
      rw [← EK.out] at hr'
      have HR' := Lib.hid hr'
      clear hr'
      go_wp2
      go_roundw
      case rel => exact ⟨k + 1, by omega, by omega, by go_num, ⟨k1, rfl⟩, HR'.out⟩
      case measure => simp [intOf]; omega
    · have hend : (k : Int) < n → (k : Int) < 3 → False := by omega
      rcases Nat.eq_zero_or_pos k with h0 | h0
      · subst h0
        obtain rfl : n = 0 := by omega
        have hM0 : M = [] := List.eq_nil_of_length_eq_zero EL.out
        have hr := HR.out
        rw [hM0] at hr
        obtain ⟨A', c', hv⟩ : ∃ A' c', u5 = .slice A' 0 c' := by
          rcases hr.2 with ⟨rfl, _⟩ | ⟨g, cap, cur, rfl, _⟩
          · exact ⟨none, 0, rfl⟩
          · exact ⟨_, cap, rfl⟩
        subst hv
        clear hr hM0 HR HM EL
        rw [show ((0 : Nat) : Int) = 0 from rfl]
        go_wp2
        go_ret
        refine ⟨rfl, ?_⟩
        repeat' (first | exact Q.refl _ | refine Q.alloc ?_ _ | refine Q.jk ?_ _ | refine Q.drew ?_)
      · have hne : M ≠ [] := fun e => by have := EL.out; rw [e] at this; simp at this; omega
        have hok : ∀ c ∈ M, c.OK := by rw [← HM.out]; exact bal_ok _
        have hs : (sumW M).In 65536 := by
          rw [← HM.out]
          refine (bal_sum (l.take k)).mono ?_
          rw [List.length_take]
          omega
        have hlen := EL.out
        have hy : ∀ c ∈ M ++ [Cur.mk (sumW M) 1 true], c.OK := by
          intro c hc
          rcases List.mem_append.1 hc with h | h
          · exact hok c h
          · simp only [List.mem_cons, List.mem_nil_iff, or_false] at h
            subst h
            exact ⟨hs, Int.le_refl 1, by show (1 : Int) ≤ 100; decide⟩
        have hyl : (M ++ [Cur.mk (sumW M) 1 true]).length = k + 1 := by rw [List.length_append, hlen]; rfl
        obtain ⟨a, ha⟩ : ∃ a, 1 + k1 % 100000 = a := ⟨_, rfl⟩
        obtain ⟨d, hd⟩ : ∃ d, 1 + k3 % 100 = d := ⟨_, rfl⟩
        obtain ⟨b, hb⟩ : ∃ b, k2 % (d + 1) = b := ⟨_, rfl⟩
        have hb0 : 0 ≤ b := by rw [← hb]; exact Int.emod_nonneg _ (by omega)
        have hb1 : b < d + 1 := by rw [← hb]; exact Int.emod_lt_of_pos _ (by omega)
        have ST := Lib.hid fun w => settings23_any k1 k2 k3 w
        rw [ha, hd, hb] at ST
        have S1 := Lib.hid fun w g o c hr => dsum_c g o c M w (by omega) (by omega) hr hok
        have S2 := Lib.hid fun w g o c hr => dsum_c g o c (M ++ [Cur.mk (sumW M) 1 true]) w (by omega) (by omega) hr hy
        have O2 := Lib.hid fun w g o c hr => doperate_c g o c (M ++ [Cur.mk (sumW M) 1 true]) a b d w (by omega) (by omega) hr hy (by omega) (by omega) (by omega) (by omega) (by omega) (by omega)
        rw [bal_no M (by omega) b d] at O2
        rw [bal_zero] at S2
        rw [hyl] at S2 O2
        rw [hlen] at S1
        have EY := Lib.hid hyl
        obtain ⟨g, cx, hv, hgl, _, _, hrd⟩ := HR.out.rd hne
        rw [hlen] at hv
        subst hv
        have HX := Lib.hid hrd
        have hk2 : k = n ∨ (k < n ∧ k = 3) := by omega
        clear hne hok hs hy hyl ha hd hb HM HN HA hm hrd hcont hend
        rcases hk2 with rfl | ⟨hkn, rfl⟩
        all_goals
          try rw [show ((3 : Nat) : Int) = 3 from rfl]
          go_wp2_with (first | (go_at_call 37; refine (S1.out _ _ _ _ (HX.out.q (by repeat' (first | exact Q.refl _ | refine Q.alloc ?_ _ | refine Q.jk ?_ _ | refine Q.drew ?_)))).mono ?_; rintro e w' ⟨rfl, kj, rfl⟩) | (at_builtin; refine wpList_app_cur rfl _ _ rfl ((w.alloc (.cells #[.int .i64 k1, .int .i64 k2, .int .i64 k3] 51)).jk kA) _ M [⟨sumW M, 1, true⟩] _ 0 _ (by rfl) (by rfl) (HR.out.q ?c1) ?c2 ?c3 ?c4 ?_))
          case c1 => repeat' (first | exact Q.refl _ | refine Q.alloc ?_ _ | refine Q.jk ?_ _ | refine Q.drew ?_)
          case c2 => exact rdc_one (by simp [go_sem]) (by simp [go_sem]) (by simp [go_sem]) (by simp [go_sem]) (by simp [go_sem]) (by simp [go_sem]) 
          case c3 => rw [hlen]; simp only [List.length_cons, List.length_nil]; omega
          case c4 => repeat' (first | exact Q.refl _ | refine Q.alloc ?_ _ | refine Q.jk ?_ _ | refine Q.drew ?_)
          intro v' kk hr'
          obtain ⟨gy, cy, rfl, hgy, _, _, hry⟩ := RowC.rd hr' (by simp)
          rw [EY.out]
          have HY := Lib.hid hry
          clear hr' hry
          go_wp2_with (first | (go_at_call 34; refine (ST.out _).mono ?_; rintro e w' ⟨rfl, kj, rfl⟩) | (go_at_call 37; refine (S2.out _ _ _ _ (by exact HY.out.q (by repeat' (first | exact Q.refl _ | refine Q.alloc ?_ _ | refine Q.jk ?_ _ | refine Q.drew ?_)))).mono ?_; rintro e w' ⟨rfl, kj, rfl⟩) | (go_at_call 36; refine (O2.out _ _ _ _ (by exact HY.out.q (by repeat' (first | exact Q.refl _ | refine Q.alloc ?_ _ | refine Q.jk ?_ _ | refine Q.drew ?_)))).mono ?_; rintro e w' ⟨rfl, kj, rfl⟩))
          go_ret
          refine ⟨rfl, ?_⟩
          repeat' (first | exact Q.refl _ | refine Q.alloc ?_ _ | refine Q.jk ?_ _ | refine Q.drew ?_)
end Go.Proofs.Ytlhapbajllpcnaa
