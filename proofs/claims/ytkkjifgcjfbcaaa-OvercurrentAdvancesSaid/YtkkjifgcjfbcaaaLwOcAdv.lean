
/- OvercurrentAdvances: the walk. -/
import Derived.Test.YtkkjifgcjfbcaaaOcC
import Derived.Test.YtkkjifgcjfbcaaaOcG
namespace Go.Proofs.Ytkkjifgcjfbcaaa
open Go.RowKit Go.Sub
set_option maxHeartbeats 4000000 in
theorem ocadv_core (g : Int) (x y z : Cy) (p d a e1 s e2 : Int) (b1 b2 : Bool) (w : World)
    (A1 : Hid (∀ w, Calls Try.prog 40 #[.int .i64 g, .agg #[.int .i64 x.a, .int .i64 x.b, .int .i64 x.c, .int .i64 x.d, .int .i64 y.a, .int .i64 y.b, .int .i64 y.c, .int .i64 y.d, .int .i64 z.a, .int .i64 z.b, .int .i64 z.c, .int .i64 z.d], .int .i64 p, .int .i64 d] w fun e w' => e = .returned (.tuple #[.int .i64 a, .bool b1, .int .i64 e1]) ∧ Q w w')) (A2 : Hid (∀ w, Calls Try.prog 41 #[.int .i64 g, .agg #[.int .i64 x.a, .int .i64 x.b, .int .i64 x.c, .int .i64 x.d, .int .i64 y.a, .int .i64 y.b, .int .i64 y.c, .int .i64 y.d, .int .i64 z.a, .int .i64 z.b, .int .i64 z.c, .int .i64 z.d], .int .i64 p, .int .i64 d] w fun e w' => e = .returned (.tuple #[.int .i64 a, .bool b1, .int .i64 e1]) ∧ Q w w'))
    (A3 : Hid (∀ w, Calls Try.prog 42 #[.agg #[.int .i64 x.a, .int .i64 x.b, .int .i64 x.c, .int .i64 x.d, .int .i64 y.a, .int .i64 y.b, .int .i64 y.c, .int .i64 y.d, .int .i64 z.a, .int .i64 z.b, .int .i64 z.c, .int .i64 z.d], .int .i64 p, .int .i64 d] w fun e w' => e = .returned (.tuple #[.int .i64 s, .bool b2, .int .i64 e2]) ∧ Q w w')) (A4 : Hid (∀ w, Calls Try.prog 43 #[.agg #[.int .i64 x.a, .int .i64 x.b, .int .i64 x.c, .int .i64 x.d, .int .i64 y.a, .int .i64 y.b, .int .i64 y.c, .int .i64 y.d, .int .i64 z.a, .int .i64 z.b, .int .i64 z.c, .int .i64 z.d], .int .i64 p, .int .i64 d] w fun e w' => e = .returned (.tuple #[.int .i64 s, .bool b2, .int .i64 e2]) ∧ Q w w')) :
    Calls Try.prog 9 #[.int .i64 g, .agg #[.int .i64 x.a, .int .i64 x.b, .int .i64 x.c, .int .i64 x.d, .int .i64 y.a, .int .i64 y.b, .int .i64 y.c, .int .i64 y.d, .int .i64 z.a, .int .i64 z.b, .int .i64 z.c, .int .i64 z.d], .agg #[.int .i64 p, .int .i64 d]] w fun e w' => e = .returned (.bool true) ∧ Q w w' := by
  go_enter Try.func9, Try.ntmps9
  go_wp2_with (first | (go_at_call 33; refine (known24 _).mono ?_; rintro e w' ⟨rfl, kj, rfl⟩) | (go_at_call 40; (with_reducible refine (A1.out _).mono ?_); rintro e w' ⟨rfl, kj, rfl⟩) | (go_at_call 41; (with_reducible refine (A2.out _).mono ?_); rintro e w' ⟨rfl, kj, rfl⟩) | (go_at_call 42; (with_reducible refine (A3.out _).mono ?_); rintro e w' ⟨rfl, kj, rfl⟩) | (go_at_call 43; (with_reducible refine (A4.out _).mono ?_); rintro e w' ⟨rfl, kj, rfl⟩))
  go_ret
  refine ⟨rfl, ?_⟩
  repeat' (first | exact Q.refl _ | refine Q.alloc ?_ _ | refine Q.jk ?_ _ | refine Q.drew ?_)
theorem ocadv_bad (g : Int) (x y z : Cy) (p d s e2 : Int) (b2 : Bool) (w : World) (h : (okS x y z p d && (decide (0 ≤ g) && decide (g ≤ 1099511627776))) = false)
    (A3 : Hid (∀ w, Calls Try.prog 42 #[.agg #[.int .i64 x.a, .int .i64 x.b, .int .i64 x.c, .int .i64 x.d, .int .i64 y.a, .int .i64 y.b, .int .i64 y.c, .int .i64 y.d, .int .i64 z.a, .int .i64 z.b, .int .i64 z.c, .int .i64 z.d], .int .i64 p, .int .i64 d] w fun e w' => e = .returned (.tuple #[.int .i64 s, .bool b2, .int .i64 e2]) ∧ Q w w')) (A4 : Hid (∀ w, Calls Try.prog 43 #[.agg #[.int .i64 x.a, .int .i64 x.b, .int .i64 x.c, .int .i64 x.d, .int .i64 y.a, .int .i64 y.b, .int .i64 y.c, .int .i64 y.d, .int .i64 z.a, .int .i64 z.b, .int .i64 z.c, .int .i64 z.d], .int .i64 p, .int .i64 d] w fun e w' => e = .returned (.tuple #[.int .i64 s, .bool b2, .int .i64 e2]) ∧ Q w w')) :
    Calls Try.prog 9 #[.int .i64 g, .agg #[.int .i64 x.a, .int .i64 x.b, .int .i64 x.c, .int .i64 x.d, .int .i64 y.a, .int .i64 y.b, .int .i64 y.c, .int .i64 y.d, .int .i64 z.a, .int .i64 z.b, .int .i64 z.c, .int .i64 z.d], .agg #[.int .i64 p, .int .i64 d]] w fun e w' => e = .returned (.bool true) ∧ Q w w' := by
  unfold okS at h
  refine ocadv_core g x y z p d 0 1 s e2 false b2 w (Lib.hid fun w => ?_) (Lib.hid fun w => ?_) A3 A4
  · cases hg : (decide (0 ≤ g) && decide (g ≤ 1099511627776))
    · exact adv_b1 g x y z p d w (Lib.hid hg)
    · cases hd : (decide (1 ≤ d) && decide (d ≤ 1000))
      · exact adv_b2 g x y z p d w (Lib.hid hg) (Lib.hid hd)
      · rw [hg, hd, Bool.and_true, Bool.and_true] at h
        exact adv_b3 g x y z p d w (Lib.hid hg) (Lib.hid hd) (Lib.hid h)
  · cases hn : fine3 x y z
    · exact radv_b1 g x y z p d w (Lib.hid hn)
    · cases hp : (decide (1 ≤ p) && decide (p ≤ 16383))
      · exact radv_b2 g x y z p d w (Lib.hid hn) (Lib.hid hp)
      · cases hd : (decide (1 ≤ d) && decide (d ≤ 1000))
        · exact radv_b3 g x y z p d w (Lib.hid hn) (Lib.hid hp) (Lib.hid hd)
        · rw [hn, hp, hd, Bool.and_true, Bool.and_true, Bool.true_and] at h
          exact radv_b4 g x y z p d w (Lib.hid hn) (Lib.hid hp) (Lib.hid hd) (Lib.hid h)
theorem ocadv_walk (g : Int) (x y z : Cy) (p d : Int) (w : World) :
    Calls Try.prog 9 #[.int .i64 g, .agg #[.int .i64 x.a, .int .i64 x.b, .int .i64 x.c, .int .i64 x.d, .int .i64 y.a, .int .i64 y.b, .int .i64 y.c, .int .i64 y.d, .int .i64 z.a, .int .i64 z.b, .int .i64 z.c, .int .i64 z.d], .agg #[.int .i64 p, .int .i64 d]] w fun e w' => e = .returned (.bool true) ∧ Q w w' := by
  cases hs : okS x y z p d
  · have hn : (okS x y z p d && (decide (0 ≤ g) && decide (g ≤ 1099511627776))) = false := by rw [hs]; rfl
    unfold okS at hs
    refine ocadv_bad g x y z p d 0 1 false w hn (Lib.hid fun w => ?_) (Lib.hid fun w => ?_)
    · cases hd : (decide (1 ≤ d) && decide (d ≤ 1000))
      · exact steps_b1 x y z p d w (Lib.hid hd)
      · rw [hd, Bool.and_true] at hs
        exact steps_b2 x y z p d w (Lib.hid hd) (Lib.hid hs)
    · cases hf : fine3 x y z
      · exact rsteps_b1 x y z p d w (Lib.hid hf)
      · cases hp : (decide (1 ≤ p) && decide (p ≤ 16383))
        · exact rsteps_b2 x y z p d w (Lib.hid hf) (Lib.hid hp)
        · rw [hf, hp, Bool.true_and, Bool.true_and] at hs
          exact rsteps_b3 x y z p d w (Lib.hid hf) (Lib.hid hp) (Lib.hid hs)
  · have hok := hs
    unfold okS at hok
    rw [Bool.and_eq_true, Bool.and_eq_true] at hok
    obtain ⟨⟨hf, hp⟩, hd⟩ := hok
    obtain ⟨hx, hy, hz⟩ := fine3_in hf
    have hpp : 1 ≤ p ∧ p ≤ 16383 := by simpa using hp
    have hdd : 1 ≤ d ∧ d ≤ 1000 := by simpa using hd
    cases hu : upB x y z p
    · cases hg : (decide (0 ≤ g) && decide (g ≤ 1099511627776))
      · exact ocadv_bad g x y z p d 0 0 false w (by rw [hs, hg]; rfl) (Lib.hid fun w => steps_no x y z p d w hx hy hz hpp.1 hpp.2 hdd.1 hdd.2 hu) (Lib.hid fun w => rsteps_down x y z p d w (Lib.hid hf) (Lib.hid hp) (Lib.hid hd) (Lib.hid hu))
      · have hgg : 0 ≤ g ∧ g ≤ 1099511627776 := by simpa using hg
        exact ocadv_core g x y z p d _ 0 _ 0 _ _ w (Lib.hid fun w => advance_no g x y z p d w hx hy hz hgg.1 hgg.2 hpp.1 hpp.2 hdd.1 hdd.2 hu) (Lib.hid fun w => radv_down g x y z p d w (Lib.hid hf) (Lib.hid hp) (Lib.hid hd) (Lib.hid hg) (Lib.hid hu))
          (Lib.hid fun w => steps_no x y z p d w hx hy hz hpp.1 hpp.2 hdd.1 hdd.2 hu) (Lib.hid fun w => rsteps_down x y z p d w (Lib.hid hf) (Lib.hid hp) (Lib.hid hd) (Lib.hid hu))
    · cases hg : (decide (0 ≤ g) && decide (g ≤ 1099511627776))
      · exact ocadv_bad g x y z p d _ 0 true w (by rw [hs, hg]; rfl) (Lib.hid fun w => steps_up x y z p d w hx hy hz hpp.1 hpp.2 hdd.1 hdd.2 hu) (Lib.hid fun w => rsteps_up x y z p d w (Lib.hid hf) (Lib.hid hp) (Lib.hid hd) (Lib.hid hu))
      · have hgg : 0 ≤ g ∧ g ≤ 1099511627776 := by simpa using hg
        exact ocadv_core g x y z p d _ 0 _ 0 _ _ w (Lib.hid fun w => advance_up g x y z p d w hx hy hz hgg.1 hgg.2 hpp.1 hpp.2 hdd.1 hdd.2 hu) (Lib.hid fun w => radv_up g x y z p d w (Lib.hid hf) (Lib.hid hp) (Lib.hid hd) (Lib.hid hg) (Lib.hid hu))
          (Lib.hid fun w => steps_up x y z p d w hx hy hz hpp.1 hpp.2 hdd.1 hdd.2 hu) (Lib.hid fun w => rsteps_up x y z p d w (Lib.hid hf) (Lib.hid hp) (Lib.hid hd) (Lib.hid hu))
theorem ocadv_true (g : Int) (x y z : Cy) (p d : Int) (w : World) (_ : -9223372036854775808 ≤ g ∧ g ≤ 9223372036854775807) : Calls Try.prog 9 #[.int .i64 g, .agg #[.int .i64 x.a, .int .i64 x.b, .int .i64 x.c, .int .i64 x.d, .int .i64 y.a, .int .i64 y.b, .int .i64 y.c, .int .i64 y.d, .int .i64 z.a, .int .i64 z.b, .int .i64 z.c, .int .i64 z.d], .agg #[.int .i64 p, .int .i64 d]] w fun e w' => e = .returned (.bool true) ∧ Q w w' := ocadv_walk g x y z p d w
end Go.Proofs.Ytkkjifgcjfbcaaa
