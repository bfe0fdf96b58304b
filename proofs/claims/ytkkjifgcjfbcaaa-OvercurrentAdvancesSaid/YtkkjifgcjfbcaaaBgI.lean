
/- What reaches, floor and Floor of package substationref02 return. -/
import Derived.Test.YtkkjifgcjfbcaaaBgG
import Derived.Test.YtkkjifgcjfbcaaaFlPlain
import Derived.Deep.RegionHeld3
namespace Go.Sub
theorem reach_iff (x : Su) (n d : Int) (hd : 1 ≤ d) : 0 ≤ sgnS ⟨x.a - n * d, x.b⟩ ↔ n ≤ flS x / d := by
  rw [← flS_iff, Int.le_ediv_iff_mul_le (by omega)]
/-- The middle of an interval whose ends lie on one side of 0, or are opposite. -/
theorem half_mid {l h : Int} (h1 : l + 1 < h) (hs : 0 ≤ l ∨ h ≤ 0 ∨ (h = -l ∧ 2 ≤ h)) : l < l + (h.tdiv 2 - l.tdiv 2) ∧ l + (h.tdiv 2 - l.tdiv 2) < h := by
  have e : ∀ n : Int, (0 ≤ n ∧ n.tdiv 2 = n / 2) ∨ (n < 0 ∧ n.tdiv 2 = -((-n) / 2)) := by
    intro n
    rcases Int.lt_or_le n 0 with h | h
    · refine .inr ⟨h, ?_⟩
      have := Int.neg_tdiv n 2
      rw [Int.tdiv_eq_ediv_of_nonneg (show 0 ≤ -n by omega)] at this
      omega
    · exact .inl ⟨h, Int.tdiv_eq_ediv_of_nonneg h⟩
  rcases e l with ⟨_, el⟩ | ⟨_, el⟩ <;> rcases e h with ⟨_, eh⟩ | ⟨_, eh⟩ <;> rw [el, eh] <;> omega
end Go.Sub

namespace Go.Proofs.Ytkkjifgcjfbcaaa
open Go.RowKit Go.Sub
set_option maxRecDepth 100000 in
set_option maxHeartbeats 8000000 in
theorem r2reach_z (b : Bool) (A : Option Addr) (n c : Nat) (x : Int) (b' : Bool) (B : Option Addr) (m d : Nat) (y q dd : Int) (w : World) (bx : b = decide (x < 0)) (rx : Rd w A n c (dig x.natAbs)) (by' : b' = decide (y < 0)) (ry : Rd w B m d (dig y.natAbs))
    (x0 : -1152921504606846976 ≤ x) (x1 : x ≤ 1152921504606846976) (y0 : -1152921504606846976 ≤ y) (y1 : y ≤ 1152921504606846976) (q0 : -4611686018427387904 ≤ q) (q1 : q ≤ 4611686018427387904) (d0 : 1 ≤ dd) (d1 : dd ≤ 10000000000) :
    Calls Try.prog 123 #[.agg #[.bool b, .slice A n c], .agg #[.bool b', .slice B m d], .int .i64 q, .int .i64 dd] w fun e w' => e = .returned (.bool (decide (0 ≤ sgnS ⟨x - q * dd, y⟩))) ∧ Q w w' := by
  have b1 := bd_mul q0 q1 (show -10000000000 ≤ dd by omega) d1
  have oq := Lib.hid (fun w => r1of_any q w (by omega) (by omega))
  have od := Lib.hid (fun w => r1of_any dd w (by omega) (by omega))
  have sx := Lib.hid (Sm.b100 (x := x) (by omega) (by omega))
  have sq := Lib.hid (Sm.b100 (x := q) (by omega) (by omega))
  have sd := Lib.hid (Sm.b100 (x := dd) (by omega) (by omega))
  have sqd := Lib.hid (Sm.sq (x := q) (y := dd) (by omega) (by omega) (by omega) (by omega))
  have sxq : Hid (Sm (x - q * dd)) := Lib.hid (Sm.of (by omega) (by omega))
  have bb : Hid ((-1267650600228229401496703205376 ≤ x - q * dd ∧ x - q * dd ≤ 1267650600228229401496703205376) ∧ (-1267650600228229401496703205376 ≤ y ∧ y ≤ 1267650600228229401496703205376)) := Lib.hid (by omega)
  have RX := Lib.hid rx
  have RY := Lib.hid ry
  have BX := Lib.hid bx
  have BY := Lib.hid by'
  clear b1 x0 x1 y0 y1 q0 q1 d0 d1 rx ry bx by'
  go_enter Try.func123, Try.ntmps123
  go_wp2
  go_region_held3 (fun w' => w'.cell? ⟨w.heap.size, 0, none⟩ = some (.bool b) ∧ w'.cell? ⟨w.heap.size, 1, none⟩ = some (.slice A n c) ∧ w'.cell? ⟨w.heap.size + 1, 0, none⟩ = some (.bool b') ∧ w'.cell? ⟨w.heap.size + 1, 1, none⟩ = some (.slice B m d)) (simp [go_sem]) (first
   | (go_at_call 60; first | ((with_reducible refine (oq.out _).mono ?_); rintro e w' ⟨A1, n1, c1, k1, rfl, rfl, hr1, hf1⟩; have HR1 := Lib.hid hr1; clear hr1 hf1; obtain ⟨nb1, hnb1⟩ : ∃ nb, decide (q < 0) = nb := ⟨_, rfl⟩; rw [hnb1]; have HB1 := Lib.hid hnb1; clear hnb1) | ((with_reducible refine (od.out _).mono ?_); rintro e w' ⟨A2, n2, c2, k2, rfl, rfl, hr2, hf2⟩; have HR2 := Lib.hid hr2; clear hr2 hf2; obtain ⟨nb2, hnb2⟩ : ∃ nb, decide (dd < 0) = nb := ⟨_, rfl⟩; rw [hnb2]; have HB2 := Lib.hid hnb2; clear hnb2))
   | (go_at_call 91; refine (r2prod_z _ _ _ _ q _ _ _ _ dd _ HB1.out.symm (HR1.out.q (by repeat' (first | exact Q.refl _ | refine Q.alloc ?_ _ | refine Q.jk ?_ _ | refine Q.drew ?_))) sq.out HB2.out.symm (HR2.out.q (by repeat' (first | exact Q.refl _ | refine Q.alloc ?_ _ | refine Q.jk ?_ _ | refine Q.drew ?_))) sd.out sqd.out).mono ?_; rintro e w' ⟨A3, n3, c3, k3, rfl, rfl, hr3, hf3⟩; have HR3 := Lib.hid hr3; clear hr3 hf3; obtain ⟨nb3, hnb3⟩ : ∃ nb, decide (q * dd < 0) = nb := ⟨_, rfl⟩; rw [hnb3]; have HB3 := Lib.hid hnb3; clear hnb3)
   | (go_at_call 104; refine (r1sub_z _ _ _ _ x _ _ _ _ (q * dd) _ BX.out (RX.out.q (by repeat' (first | exact Q.refl _ | refine Q.alloc ?_ _ | refine Q.jk ?_ _ | refine Q.drew ?_))) sx.out HB3.out.symm (HR3.out.q (by repeat' (first | exact Q.refl _ | refine Q.alloc ?_ _ | refine Q.jk ?_ _ | refine Q.drew ?_))) sqd.out sxq.out).mono ?_; rintro e w' ⟨A7, n7, c7, k7, rfl, rfl, hr7, hf7⟩; have HR7 := Lib.hid hr7; have HF7 := Lib.hid hf7; clear hr7 hf7; obtain ⟨nb7, hnb7⟩ : ∃ nb, decide (x - q * dd < 0) = nb := ⟨_, rfl⟩; rw [hnb7]; have HB7 := Lib.hid hnb7; clear hnb7))
  all_goals
    rename_i hHeld
    clear hHeld
    go_wp2_with fail
    refine (r2sign_z _ _ _ _ (x - q * dd) _ _ _ _ y _ HB7.out.symm ?c1 BY.out (RY.out.q ?c2) bb.out.1.1 bb.out.1.2 bb.out.2.1 bb.out.2.2).mono ?_
    case c1 =>
      have h7 := HR7.out
      have f7 := HF7.out
      first
        | (refine h7.q ?_; with_reducible exact (Q.refl _).alloc _)
        | (with_reducible exact h7.swap (by simp) f7)
        | (with_reducible exact h7.swap2 (by simp) (f7.q ((Q.refl _).jk _)))
        | (with_reducible exact h7.swap3 (by simp) (f7.q (((Q.refl _).jk _).jk _)))
        | (with_reducible exact h7.swap4 (by simp) (f7.q ((((Q.refl _).jk _).jk _).jk _)))
    case c2 =>
      repeat' (first | exact Q.refl _ | refine Q.alloc ?_ _ | refine Q.jk ?_ _ | refine Q.drew ?_)
    rintro e w' ⟨rfl, kj, rfl⟩
    go_wp2_with fail
    go_ret
    refine ⟨rfl, ?_⟩
    repeat' (first | exact Q.refl _ | refine Q.alloc ?_ _ | refine Q.jk ?_ _ | refine Q.drew ?_)
end Go.Proofs.Ytkkjifgcjfbcaaa

