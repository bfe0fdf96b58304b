
/- What trim, compare, Valid, made, digits and Of of package substationref01 return. -/
import Derived.Test.YtkkjifgcjfbcaaaBgRd
import Derived.Test.YtkkjifgcjfbcaaaBgOps
import Derived.Test.YtkkjifgcjfbcaaaTail
import Derived.Deep.DeepCutAuto
import Derived.Deep.CutBlock
namespace Go.Sub
/-- Digits without leading zeros. -/
def trL (l : List Int) : List Int := dig (dval l).toNat
theorem trL_of {l : List Int} {k : Nat} (hl : Dg l) (hk : k ≤ l.length) (hz : ∀ j, k ≤ j → l.getD j 0 = 0) (ht : k = 0 ∨ l.getD (k - 1) 0 ≠ 0) : l.take k = trL l := by
  unfold trL
  rw [← dval_take_zeros l k hz]
  exact eq_dig (hl.take k) (Tr.take hk ht)
end Go.Sub
namespace Go.Proofs.Ytkkjifgcjfbcaaa
open Go.RowKit Go.Sub
set_option maxHeartbeats 1000000 in
theorem r1trim_any (A : Option Addr) (n c : Nat) (l : List Int) (w : World) (h : Rd w A n c l) (hd : Dg l) (hn : n < 100000) :
    Calls Try.prog 109 #[.slice A n c] w (RetS (trL l) w) := by
  rcases Nat.eq_zero_or_pos n with rfl | hp
  · obtain rfl : l = [] := List.eq_nil_of_length_eq_zero h.1
    have HT : Hid ([] = trL []) := Lib.hid (by unfold trL; simp [dval, dig_zero])
    have HR := Lib.hid h
    rcases A with _ | ad
    · obtain rfl : c = 0 := h.2.2.2 rfl
      clear h
      go_enter Try.func109, Try.ntmps109
      go_wp2
      refine wp_loop_rounds 1 ?_
      rw [rounds_succ]
      go_wp2_with (at_builtin; refine wpList_app_u32 rfl (.tmp 18) (.tmp 21) rfl w _ [] [] 0 0 none 0 (by rfl) (by rfl) (RowU.empty w) rfl (HR.out.q ((Q.refl _).alloc _)) (by omega) ((Q.refl _).alloc _) ?_; intro A' c' kk hrow)
      go_ret
      exact ⟨A', 0, c', kk, rfl, rfl, by rw [← HT.out]; exact hrow.rd', hrow.fr⟩
    · clear h
      go_enter Try.func109, Try.ntmps109
      go_wp2
      refine wp_loop_rounds 1 ?_
      rw [rounds_succ]
      go_wp2_with (at_builtin; refine wpList_app_u32 rfl (.tmp 18) (.tmp 21) rfl w _ [] [] 0 0 (some ad) c (by rfl) (by rfl) (RowU.empty w) rfl (HR.out.q ((Q.refl _).alloc _)) (by omega) ((Q.refl _).alloc _) ?_; intro A' c' kk hrow)
      go_ret
      exact ⟨A', 0, c', kk, rfl, rfl, by rw [← HT.out]; exact hrow.rd', hrow.fr⟩
  · obtain ⟨g, rfl, hOld, hc⟩ := h.at_ hp
    have HR := Lib.hid h
    have hl := h.1
    have hcap := h.2.1
    have HL := Lib.hid hl
    clear h hl
    go_enter Try.func109, Try.ntmps109
    go_upto_block 0 with (fail)
    go_cut [3] (fun i wx => ∃ k : Nat, i = .int .i64 k ∧ k ≤ n ∧ Hid (l.take k = trL l) ∧ w = wx)
    case first =>
      go_wp2_with fail
      go_loop [3] (fun i => ∃ k : Nat, i = .int .i64 k ∧ k ≤ n ∧ Hid (∀ j, k ≤ j → l.getD j 0 = 0)) (fun i => (intOf i).toNat)
      case atStart => exact ⟨n, rfl, Nat.le_refl _, Lib.hid fun j hj => getD_ge (by rw [HL.out]; exact hj)⟩
      case round =>
        obtain ⟨k, rfl, hk, HZ⟩ := hrel
        rcases k with _ | j
        · go_wp2
          go_meet
          exact ⟨0, rfl, by omega, Lib.hid (trL_of hd (by omega) HZ.out (.inl rfl)), rfl⟩
        · have hcj := hc.out j (by omega)
          have hj : j < n := by omega
          by_cases hz : l.getD j 0 = 0
          · have HZ0 := Lib.hid hz
            rw [hz] at hcj
            clear hz
            go_wp2
            go_round
            case rel => exact ⟨j, rfl, by omega, Lib.hid fun i hi => by
              rcases Nat.lt_or_ge j i with h1 | h1
              · exact HZ.out i h1
              · obtain rfl : i = j := by omega
                exact HZ0.out⟩
            case measure => simp [intOf]
          · have HZ1 := Lib.hid hz
            obtain ⟨d, ed⟩ : ∃ d, l.getD j 0 = d := ⟨_, rfl⟩
            rw [ed] at hcj hz
            have hz1 : (d == 0) = false := by simpa using hz
            clear ed hz
            go_wp2
            go_meet
            exact ⟨j + 1, rfl, by omega, Lib.hid (trL_of hd (by rw [HL.out]; omega) HZ.out (.inr HZ1.out)), rfl⟩
    case rest =>
      obtain ⟨k, rfl, hk, HT, rfl⟩ := hcut
      go_wp2_with (at_builtin; refine wpList_app_u32 rfl (.tmp 18) (.tmp 21) rfl w _ [] (l.take k) 0 k (some ⟨g, 0, none⟩) c (by rfl) (by rfl) (RowU.empty w) rfl ((HR.out.take hk (by omega) (fun h => by cases h)).q ((Q.refl _).alloc _)) (by omega) ((Q.refl _).alloc _) ?_; intro A' c' kk hrow)
      go_ret
      refine ⟨A', k, c', kk, rfl, rfl, ?_, hrow.fr⟩
      rw [← HT.out]
      have := hrow.rd'
      rwa [Nat.zero_add] at this
set_option maxHeartbeats 1000000 in
theorem r1compare_any (A : Option Addr) (n c : Nat) (l : List Int) (B : Option Addr) (m d : Nat) (r : List Int) (w : World) (h1 : Rd w A n c l) (h2 : Rd w B m d r) (dl : Dg l) (dr : Dg r) (tl : Tr l) (tr : Tr r) (hn : n < 100000) (hm : m < 100000) :
    Calls Try.prog 107 #[.slice A n c, .slice B m d] w fun e w' => e = .returned (.int .i64 (cmpI (dval l) (dval r))) ∧ Q w w' := by
  have l1 := h1.1
  have l2 := h2.1
  rcases Nat.lt_trichotomy n m with hlt | heq | hgt
  · have hv := dval_longer dl dr tr (by omega)
    have e : cmpI (dval l) (dval r) = -1 := by simp [cmpI, hv]
    rw [e]
    have q1 : ((n : Int) != (m : Int)) = true := by simp; omega
    clear h1 h2 e l1 l2 hv
    go_enter Try.func107, Try.ntmps107
    go_wp2
    go_ret
    exact ⟨rfl, Q.refl _⟩
  · subst heq
    have L1 := Lib.hid l1
    have L2 := Lib.hid l2
    clear l1 l2
    rcases Nat.eq_zero_or_pos n with rfl | hp
    · have e : cmpI (dval l) (dval r) = 0 := by
        rw [List.eq_nil_of_length_eq_zero L1.out, List.eq_nil_of_length_eq_zero L2.out]
        rfl
      rw [e]
      clear e h1 h2
      go_enter Try.func107, Try.ntmps107
      go_wp2
      refine wp_loop_rounds 1 ?_
      rw [rounds_succ]
      go_wp2
      go_ret
      exact ⟨rfl, Q.refl _⟩
    · obtain ⟨g, rfl, hOld, hc⟩ := h1.at_ hp
      obtain ⟨g', rfl, hOld', hc'⟩ := h2.at_ hp
      clear h1 h2
      go_enter Try.func107, Try.ntmps107
      go_wp2
      go_loopw [5] (fun i wr => ∃ k : Nat, i = .int .i64 ((k : Int) - 1) ∧ k ≤ n ∧ Hid (∀ j, k ≤ j → l.getD j 0 = r.getD j 0) ∧ Q w wr) (fun i _ => (intOf i + 1).toNat)
      case atStart => exact ⟨n, rfl, Nat.le_refl _, Lib.hid fun j hj => by rw [getD_ge (by rw [L1.out]; exact hj), getD_ge (by rw [L2.out]; exact hj)], Q.refl _⟩
      case round =>
        obtain ⟨k, rfl, hk, HZ, kw, rfl⟩ := hrel
        rcases k with _ | j
        · have e : cmpI (dval l) (dval r) = 0 := by
            have := dval_same l r (fun j => HZ.out j (Nat.zero_le _))
            simp [cmpI, this]
          have E := Lib.hid e
          clear e
          go_wp2
          go_ret
          exact ⟨by rw [E.out]; rfl, (Q.refl _).jk _⟩
        · rw [show ((j + 1 : Nat) : Int) - 1 = (j : Int) by omega]
          have hcj := hc.out j (by omega)
          have hcj' := hc'.out j (by omega)
          have hj : j < n := by omega
          obtain ⟨x, ex⟩ : ∃ x, l.getD j 0 = x := ⟨_, rfl⟩
          obtain ⟨y, ey⟩ : ∃ y, r.getD j 0 = y := ⟨_, rfl⟩
          rw [ex] at hcj
          rw [ey] at hcj'
          have EX := Lib.hid ex
          have EY := Lib.hid ey
          clear ex ey
          rcases Int.lt_trichotomy x y with hxy | hxy | hxy
          · have E : Hid (cmpI (dval l) (dval r) = -1) := Lib.hid (by
              have := dval_order dl dr j (by rw [L1.out]; exact hj) (by rw [L2.out]; exact hj) (fun i hi => HZ.out i hi) (by rw [EX.out, EY.out]; exact hxy)
              simp [cmpI, this])
            go_wp2
            try simp only [List.append]
            refine wp_region_jk (by kernel_rfl) (by kernel_rfl) ?_
            repeat (go_big_quiet_step (fail))
            refine wpQuiet_nil ?_
            intro _ hw'
            obtain ⟨kq, rfl⟩ := hw'
            go_wp2
            go_ret
            exact ⟨by rw [E.out]; rfl, ((Q.refl _).jk _).jk _⟩
          · subst hxy
            go_wp2
            try simp only [List.append]
            refine wp_region_jk (by kernel_rfl) (by kernel_rfl) ?_
            repeat (go_big_quiet_step (fail))
            refine wpQuiet_nil ?_
            intro _ hw'
            obtain ⟨kq, rfl⟩ := hw'
            go_wp2
            try simp only [List.append]
            refine wp_region_jk (by kernel_rfl) (by kernel_rfl) ?_
            repeat (go_big_quiet_step (fail))
            refine wpQuiet_nil ?_
            intro _ hw'
            obtain ⟨kq, rfl⟩ := hw'
            go_wp2
            go_roundw
            case rel => exact ⟨j, rfl, by omega, Lib.hid fun i hi => by
              rcases Nat.lt_or_ge j i with h1 | h1
              · exact HZ.out i h1
              · obtain rfl : i = j := by omega
                rw [EX.out, EY.out], (((Q.refl _).jk _).jk _).jk _⟩
            case measure => simp [intOf]
          · have E : Hid (cmpI (dval l) (dval r) = 1) := Lib.hid (by
              have := dval_order dr dl j (by rw [L2.out]; exact hj) (by rw [L1.out]; exact hj) (fun i hi => (HZ.out i hi).symm) (by rw [EX.out, EY.out]; exact hxy)
              simp [cmpI, this]
              omega)
            go_wp2
            try simp only [List.append]
            refine wp_region_jk (by kernel_rfl) (by kernel_rfl) ?_
            repeat (go_big_quiet_step (fail))
            refine wpQuiet_nil ?_
            intro _ hw'
            obtain ⟨kq, rfl⟩ := hw'
            go_wp2
            try simp only [List.append]
            refine wp_region_jk (by kernel_rfl) (by kernel_rfl) ?_
            repeat (go_big_quiet_step (fail))
            refine wpQuiet_nil ?_
            intro _ hw'
            obtain ⟨kq, rfl⟩ := hw'
            go_wp2
            go_ret
            exact ⟨by rw [E.out]; rfl, (((Q.refl _).jk _).jk _).jk _⟩
  · have hv := dval_longer dr dl tl (by omega)
    have e : cmpI (dval l) (dval r) = 1 := by simp [cmpI, hv]; omega
    rw [e]
    have q1 : ((n : Int) != (m : Int)) = true := by simp; omega
    have q2 : decide ((n : Int) < (m : Int)) = false := by simp; omega
    clear h1 h2 e l1 l2 hv
    go_enter Try.func107, Try.ntmps107
    go_wp2
    go_ret
    exact ⟨rfl, Q.refl _⟩
end Go.Proofs.Ytkkjifgcjfbcaaa
