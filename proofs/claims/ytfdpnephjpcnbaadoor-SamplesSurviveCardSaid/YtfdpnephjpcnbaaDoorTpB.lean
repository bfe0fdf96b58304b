
/- What Check of a frame returns for a frame in its ranges; pair. -/
import Derived.Test.YtfdpnephjpcnbaaDoorTpA
set_option linter.unusedVariables false
set_option linter.unusedSimpArgs false
namespace Go.Sub
def InB (lo hi : Int) (l : List Int) : Prop := ∀ k, k < l.length → lo ≤ l.getD k 0 ∧ l.getD k 0 ≤ hi
end Go.Sub
namespace Go
open Go.RowKit
/-- The slice holds the numbers. -/
def RdN (w : World) (A : Option Addr) (n c : Nat) (k : IntKind) (l : List Int) : Prop := RdV w A n c 1 (l.map (Value.int k))
theorem RdN.q {w w' : World} {A : Option Addr} {n c : Nat} {k : IntKind} {l : List Int} (h : RdN w A n c k l) (hq : Q w w') : RdN w' A n c k l := RdV.q h hq
theorem RdN.len {w : World} {A : Option Addr} {n c : Nat} {k : IntKind} {l : List Int} (h : RdN w A n c k l) : l.length = n := by
  have := h.1
  simpa using this
theorem RdN.at_ {w : World} {A : Option Addr} {n c : Nat} {k : IntKind} {l : List Int} (h : RdN w A n c k l) (hn : 0 < n) : ∃ g o, A = some ⟨g, o, none⟩ ∧ Old g w ∧ Hid (∀ i, i < n → w.cell? ⟨g, o + i, none⟩ = some (Value.int k (l.getD i 0))) := by
  obtain ⟨g, o, e, ho, hc⟩ := RdV.at_ h hn
  refine ⟨g, o, e, ho, Lib.hid fun i hi => hc.out i _ ?_⟩
  have hl := h.len
  rw [List.getElem?_map, List.getD_eq_getElem?_getD, List.getElem?_eq_getElem (by omega)]
  rfl
end Go
namespace Go.Proofs.YtfdpnephjpcnbaaDoor
open Go.RowKit Go.Sub
set_option maxHeartbeats 2000000 in
theorem scheck_c (u c : Int) (s : Bool) (A : Option Addr) (n ca : Nat) (B : Option Addr) (cb : Nat) (xs qs : List Int) (w : World) (hx : RdN w A n ca .i64 xs) (hq : RdN w B n cb .i64 qs)
    (u0 : 0 ≤ u) (u1 : u ≤ 999) (c0 : 0 ≤ c) (c1 : c ≤ 599) (n0 : 1 ≤ n) (n1 : n ≤ 8) (bx : InB (-16383) 16383 xs) (bq : InB 0 255 qs) :
    Calls Tryd.prog 21 #[Value.agg #[Value.int .i64 u, Value.int .i64 c, Value.bool s, Value.slice A n ca, Value.slice B n cb]] w fun e w' => e = .returned (Value.int .i64 0) ∧ Q w w' := by
  obtain ⟨g, o, rfl, ho, hc⟩ := hx.at_ (by omega)
  obtain ⟨g', o', rfl, ho', hc'⟩ := hq.at_ (by omega)
  have lx := Lib.hid hx.len
  have lq := Lib.hid hq.len
  have BX := Lib.hid bx
  have BQ := Lib.hid bq
  clear hx hq bx bq
  go_enter Tryd.func21, Tryd.ntmps21
  go_wp2_with (go_at_call 19; refine (sbetween_ok _ _ _ _ (by omega) (by omega)).mono ?_; rintro e w' ⟨rfl, rfl⟩)
  go_loop [31] (fun i => ∃ k : Nat, k ≤ n ∧ i = Value.int .i64 k) (fun i => n - (intOf i).toNat)
  case atStart => exact ⟨0, by omega, rfl⟩
  case round =>
    obtain ⟨k, hk, rfl⟩ := hrel
    by_cases hlt : k < n
    · have h1 := hc.out k hlt
      have h2 := hc'.out k hlt
      obtain ⟨a, ea⟩ : ∃ a, xs.getD k 0 = a := ⟨_, rfl⟩
      obtain ⟨b, eb⟩ : ∃ b, qs.getD k 0 = b := ⟨_, rfl⟩
      have h3 := BX.out k (by rw [lx.out]; exact hlt)
      have h4 := BQ.out k (by rw [lq.out]; exact hlt)
      rw [ea] at h1 h3
      rw [eb] at h2 h4
      obtain ⟨h31, h32⟩ := h3
      obtain ⟨h41, h42⟩ := h4
      clear ea eb
      go_wp2_with (go_at_call 19; refine (sbetween_ok _ _ _ _ (by omega) (by omega)).mono ?_; rintro e w' ⟨rfl, rfl⟩)
      go_round
      case rel => exact ⟨k + 1, by omega, by go_num⟩
      case measure => simp [intOf]; omega
    · obtain rfl : k = n := by omega
      go_wp2_with fail
      go_ret
      refine ⟨rfl, ?_⟩
      repeat' (first | exact Q.refl _ | refine Q.alloc ?_ _ | refine Q.jk ?_ _ | refine Q.drew ?_)
set_option maxHeartbeats 1000000 in
theorem pair_c (A : Option Addr) (n c : Nat) (l : List Int) (a b r : Int) (w : World) (hx : RdN w A n c .u8 l) (n0 : 2 ≤ n) (ha : l.getD 0 0 = a) (hb : l.getD 1 0 = b) (a0 : 0 ≤ a) (a1 : a ≤ 255) (b0 : 0 ≤ b) (b1 : b ≤ 255)
    (hr : bits .or .i64 (a * 256) b = r) :
    Calls Tryd.prog 48 #[Value.slice A n c] w fun e w' => e = .returned (Value.int .i64 r) ∧ Q w w' := by
  obtain ⟨g, o, rfl, ho, hc⟩ := hx.at_ (by omega)
  have h0 := hc.out 0 (by omega)
  have h1 := hc.out 1 (by omega)
  rw [ha, Nat.add_zero] at h0
  rw [hb] at h1
  clear hx ha hb
  go_enter Tryd.func48, Tryd.ntmps48
  go_wp2_with fail
  try simp only [List.append]
  refine wp_region_jk (by kernel_rfl) (by kernel_rfl) ?_
  repeat (go_big_quiet_step (fail))
  refine wpQuiet_nil ?_
  intro _ hw'
  obtain ⟨kq, rfl⟩ := hw'
  go_wp2_with fail
  go_ret
  refine ⟨rfl, ?_⟩
  repeat' (first | exact Q.refl _ | refine Q.alloc ?_ _ | refine Q.jk ?_ _ | refine Q.drew ?_)
end Go.Proofs.YtfdpnephjpcnbaaDoor
