
/- What SameInts and SameRows return where the numbers are the same. -/
import Derived.Test.YtfdpnephjpcnbaaDoorFm
set_option linter.unusedVariables false
set_option linter.unusedSimpArgs false
namespace Go.Proofs.YtfdpnephjpcnbaaDoor
open Go.RowKit Go.Sub
set_option maxHeartbeats 1000000 in
theorem sameints_c (a b ca cb : Nat) (l : List Int) (w : World) (ha : RdN w (some ⟨a, 0, none⟩) 12 ca .i64 l) (hb : RdN w (some ⟨b, 0, none⟩) 12 cb .i64 l) :
    Calls Tryd.prog 31 #[.slice (some ⟨a, 0, none⟩) 12 ca, .slice (some ⟨b, 0, none⟩) 12 cb] w fun e w' => e = .returned (.bool true) ∧ Q w w' := by
  obtain ⟨g1, o1, e1, ho1, hc1⟩ := ha.at_ (by omega)
  obtain ⟨g2, o2, e2, ho2, hc2⟩ := hb.at_ (by omega)
  cases e1
  cases e2
  clear ha hb
  go_enter Tryd.func31, Tryd.ntmps31
  go_wp2_with fail
  go_loopw [5] (fun i wr => ∃ (k : Nat) (kx : Jk), i = .int .i64 k ∧ k ≤ 12 ∧ wr = w.jk kx) (fun i _ => 12 - (intOf i).toNat)
  case atStart =>
    obtain ⟨kx, ek⟩ := Q.refl w
    exact ⟨0, kx, rfl, by omega, ek⟩
  case round =>
    obtain ⟨k, kx, rfl, hk, rfl⟩ := hrel
    by_cases hlt : k < 12
    · have h1 := hc1.out k hlt
      have h2 := hc2.out k hlt
      rw [Nat.zero_add] at h1 h2
      obtain ⟨x, ex⟩ : ∃ x, l.getD k 0 = x := ⟨_, rfl⟩
      rw [ex] at h1 h2
      clear ex
      have k0 : (0 : Int) ≤ (k : Int) := by omega
      have k1 : (k : Int) < 12 := by omega
      go_wp2_with fail
      refine wp_region_jk (by kernel_rfl) (by kernel_rfl) ?_
      repeat (go_big_quiet_step (fail))
      refine wpQuiet_nil ?_
      intro _ hw'
      obtain ⟨kq, rfl⟩ := hw'
      go_wp2_with fail
      go_roundw
      case rel =>
        rw [World.jk_jk]
        exact ⟨k + 1, _, by go_num, by omega, rfl⟩
      case measure => simp [intOf]; omega
    · obtain rfl : k = 12 := by omega
      go_wp2_with fail
      go_ret
      refine ⟨rfl, ?_⟩
      repeat' (first | exact Q.refl _ | refine Q.alloc ?_ _ | refine Q.jk ?_ _ | refine Q.drew ?_)
set_option maxHeartbeats 1000000 in
theorem samerows_c (a b ca cb n : Nat) (r1 r2 : List Ch) (w : World) (ha : ChAt w (some ⟨a, 0, none⟩) n ca r1) (hb : ChAt w (some ⟨b, 0, none⟩) n cb r2) (hl : r1.map Ch.l = r2.map Ch.l) (n0 : 1 ≤ n) (n1 : n ≤ 8) :
    Calls Tryd.prog 10 #[.slice (some ⟨a, 0, none⟩) n ca, .slice (some ⟨b, 0, none⟩) n cb] w fun e w' => e = .returned (.bool true) ∧ Q w w' := by
  obtain ⟨g1, o1, e1, ho1, hc1⟩ := ha.1.at_ (by omega)
  obtain ⟨g2, o2, e2, ho2, hc2⟩ := hb.1.at_ (by omega)
  cases e1
  cases e2
  have HA := Lib.hid ha
  have HB' := Lib.hid hb
  have HL := Lib.hid hl
  have L1 := Lib.hid ha.len
  have L2 := Lib.hid hb.len
  clear ha hb hl
  go_enter Tryd.func10, Tryd.ntmps10
  go_wp2_with fail
  go_loopw [5] (fun i wr => ∃ (k : Nat) (kx : Jk), i = .int .i64 k ∧ k ≤ n ∧ wr = w.jk kx) (fun i _ => n - (intOf i).toNat)
  case atStart =>
    obtain ⟨kx, ek⟩ := Q.refl w
    exact ⟨0, kx, rfl, by omega, ek⟩
  case round =>
    obtain ⟨k, kx, rfl, hk, rfl⟩ := hrel
    by_cases hlt : k < n
    · obtain ⟨x, hx⟩ : ∃ x, r1[k]? = some x := ⟨_, List.getElem?_eq_getElem (by rw [L1.out]; exact hlt)⟩
      obtain ⟨y, hy⟩ : ∃ y, r2[k]? = some y := ⟨_, List.getElem?_eq_getElem (by rw [L2.out]; exact hlt)⟩
      have h1 := hc1.out k (chC x) (by rw [List.getElem?_map, hx]; rfl)
      have h2 := hc2.out k (chC y) (by rw [List.getElem?_map, hy]; rfl)
      rw [Nat.zero_add] at h1 h2
      unfold chC at h1 h2
      have hxy : x.l = y.l := by
        have := congrArg (fun z => z[k]?) HL.out
        simp only [List.getElem?_map, hx, hy, Option.map_some, Option.some.injEq] at this
        exact this
      have SI := Lib.hid fun (w' : World) (hq : Q w w') => sameints_c x.g y.g x.cap y.cap x.l w' ((HA.out.2 x (List.mem_of_getElem? hx)).q hq) (by rw [hxy]; exact (HB'.out.2 y (List.mem_of_getElem? hy)).q hq)
      clear hx hy hxy
      have k0 : (0 : Int) ≤ (k : Int) := by omega
      have k1 : (k : Int) < (n : Int) := by omega
      go_wp2_with fail
      refine wp_region_jk (by kernel_rfl) (by kernel_rfl) ?_
      repeat (go_big_quiet_step ((go_at_call 31; exact Calls.jk_of (SI.out _ (by repeat' (first | exact Q.refl _ | refine Q.alloc ?_ _ | refine Q.jk ?_ _ | refine Q.drew ?_))))))
      refine wpQuiet_nil ?_
      intro _ hw'
      obtain ⟨kq, rfl⟩ := hw'
      go_wp2_with fail
      go_roundw
      case rel =>
        rw [World.jk_jk]
        exact ⟨k + 1, _, by go_num, by omega, rfl⟩
      case measure => simp [intOf]; omega
    · obtain rfl : n = k := by omega
      go_wp2_with fail
      go_ret
      refine ⟨rfl, ?_⟩
      repeat' (first | exact Q.refl _ | refine Q.alloc ?_ _ | refine Q.jk ?_ _ | refine Q.drew ?_)
end Go.Proofs.YtfdpnephjpcnbaaDoor
