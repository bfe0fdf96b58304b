
/- What the functions of package overcurrent return where phasors or the peak value are out of range. -/
import Derived.Test.YtkkjifgcjfbcaaaOcN
namespace Go.Sub
/-- Three phasors are in their range. -/
def fine3 (x y z : Cy) : Bool := wiB x 65536 && wiB y 65536 && wiB z 65536
theorem fine3_in {x y z : Cy} (h : fine3 x y z = true) : x.In 65536 ∧ y.In 65536 ∧ z.In 65536 := by
  unfold fine3 at h
  simp only [Bool.and_eq_true] at h
  exact ⟨wiB_in h.1.1, wiB_in h.1.2, wiB_in h.2⟩
theorem btw_brk (n l : Int) : (decide (-l ≤ n) && decide (n ≤ l)) = !(brkB l n) := by
  rw [Bool.eq_iff_iff]
  simp [brkB]
end Go.Sub
namespace Go.Proofs.Ytkkjifgcjfbcaaa
open Go.RowKit Go.Sub
set_option maxRecDepth 100000 in
set_option maxHeartbeats 8000000 in
theorem phasors_any (x y z : Cy) (w : World) :
    Calls Try.prog 68 #[.agg #[.int .i64 x.a, .int .i64 x.b, .int .i64 x.c, .int .i64 x.d, .int .i64 y.a, .int .i64 y.b, .int .i64 y.c, .int .i64 y.d, .int .i64 z.a, .int .i64 z.b, .int .i64 z.c, .int .i64 z.d]] w fun e w' => e = .returned (.bool (fine3 x y z)) ∧ Q w w' := by
  have BT := fun (n : Int) (w : World) => ocbetween_any n (-65536) 65536 w
  simp only [btw_brk] at BT
  have HF : Hid (fine3 x y z = ((!(brkB 65536 x.a) && !(brkB 65536 x.b) && !(brkB 65536 x.c) && !(brkB 65536 x.d)) && (!(brkB 65536 y.a) && !(brkB 65536 y.b) && !(brkB 65536 y.c) && !(brkB 65536 y.d)) && (!(brkB 65536 z.a) && !(brkB 65536 z.b) && !(brkB 65536 z.c) && !(brkB 65536 z.d)))) := Lib.hid rfl
  have B0 := Lib.hid (BT x.a)
  have B1 := Lib.hid (BT x.b)
  have B2 := Lib.hid (BT x.c)
  have B3 := Lib.hid (BT x.d)
  have B4 := Lib.hid (BT y.a)
  have B5 := Lib.hid (BT y.b)
  have B6 := Lib.hid (BT y.c)
  have B7 := Lib.hid (BT y.d)
  have B8 := Lib.hid (BT z.a)
  have B9 := Lib.hid (BT z.b)
  have B10 := Lib.hid (BT z.c)
  have B11 := Lib.hid (BT z.d)
  clear BT
  generalize (!(brkB 65536 x.a)) = b0 at B0 HF
  generalize (!(brkB 65536 x.b)) = b1 at B1 HF
  generalize (!(brkB 65536 x.c)) = b2 at B2 HF
  generalize (!(brkB 65536 x.d)) = b3 at B3 HF
  generalize (!(brkB 65536 y.a)) = b4 at B4 HF
  generalize (!(brkB 65536 y.b)) = b5 at B5 HF
  generalize (!(brkB 65536 y.c)) = b6 at B6 HF
  generalize (!(brkB 65536 y.d)) = b7 at B7 HF
  generalize (!(brkB 65536 z.a)) = b8 at B8 HF
  generalize (!(brkB 65536 z.b)) = b9 at B9 HF
  generalize (!(brkB 65536 z.c)) = b10 at B10 HF
  generalize (!(brkB 65536 z.d)) = b11 at B11 HF
  go_enter Try.func68, Try.ntmps68
  go_wp2_with fail
  go_step3
  go_wp2_with fail
  go_step3
  go_wp2_with fail
  refine wp_loop_rounds 4 ?_
  repeat (first | (rw [rounds_succ]; go_wp2_with fail) | (refine wp_loop_rounds 5 ?_))
  cases b0
  case false =>
    go_wp2_with (go_at_call 72; (with_reducible refine (B0.out _).mono ?_); rintro e w' ⟨rfl, rfl⟩)
    try rw [Exit.noGoto_ret]
    go_ret
    refine ⟨by rw [HF.out]; rfl, ?_⟩
    repeat' (first | exact Q.refl _ | refine Q.alloc ?_ _ | refine Q.jk ?_ _ | refine Q.drew ?_)
  go_wp2_with (go_at_call 72; (with_reducible refine (B0.out _).mono ?_); rintro e w' ⟨rfl, rfl⟩)
  repeat (first | (rw [rounds_succ]; go_wp2_with fail) | (refine wp_loop_rounds 5 ?_))
  cases b1
  case false =>
    go_wp2_with (go_at_call 72; (with_reducible refine (B1.out _).mono ?_); rintro e w' ⟨rfl, rfl⟩)
    try rw [Exit.noGoto_ret]
    go_ret
    refine ⟨by rw [HF.out]; rfl, ?_⟩
    repeat' (first | exact Q.refl _ | refine Q.alloc ?_ _ | refine Q.jk ?_ _ | refine Q.drew ?_)
  go_wp2_with (go_at_call 72; (with_reducible refine (B1.out _).mono ?_); rintro e w' ⟨rfl, rfl⟩)
  repeat (first | (rw [rounds_succ]; go_wp2_with fail) | (refine wp_loop_rounds 5 ?_))
  cases b2
  case false =>
    go_wp2_with (go_at_call 72; (with_reducible refine (B2.out _).mono ?_); rintro e w' ⟨rfl, rfl⟩)
    try rw [Exit.noGoto_ret]
    go_ret
    refine ⟨by rw [HF.out]; rfl, ?_⟩
    repeat' (first | exact Q.refl _ | refine Q.alloc ?_ _ | refine Q.jk ?_ _ | refine Q.drew ?_)
  go_wp2_with (go_at_call 72; (with_reducible refine (B2.out _).mono ?_); rintro e w' ⟨rfl, rfl⟩)
  repeat (first | (rw [rounds_succ]; go_wp2_with fail) | (refine wp_loop_rounds 5 ?_))
  cases b3
  case false =>
    go_wp2_with (go_at_call 72; (with_reducible refine (B3.out _).mono ?_); rintro e w' ⟨rfl, rfl⟩)
    try rw [Exit.noGoto_ret]
    go_ret
    refine ⟨by rw [HF.out]; rfl, ?_⟩
    repeat' (first | exact Q.refl _ | refine Q.alloc ?_ _ | refine Q.jk ?_ _ | refine Q.drew ?_)
  go_wp2_with (go_at_call 72; (with_reducible refine (B3.out _).mono ?_); rintro e w' ⟨rfl, rfl⟩)
  repeat (first | (rw [rounds_succ]; go_wp2_with fail) | (refine wp_loop_rounds 5 ?_))
  cases b4
  case false =>
    go_wp2_with (go_at_call 72; (with_reducible refine (B4.out _).mono ?_); rintro e w' ⟨rfl, rfl⟩)
    try rw [Exit.noGoto_ret]
    go_ret
    refine ⟨by rw [HF.out]; rfl, ?_⟩
    repeat' (first | exact Q.refl _ | refine Q.alloc ?_ _ | refine Q.jk ?_ _ | refine Q.drew ?_)
  go_wp2_with (go_at_call 72; (with_reducible refine (B4.out _).mono ?_); rintro e w' ⟨rfl, rfl⟩)
  repeat (first | (rw [rounds_succ]; go_wp2_with fail) | (refine wp_loop_rounds 5 ?_))
  cases b5
  case false =>
    go_wp2_with (go_at_call 72; (with_reducible refine (B5.out _).mono ?_); rintro e w' ⟨rfl, rfl⟩)
    try rw [Exit.noGoto_ret]
    go_ret
    refine ⟨by rw [HF.out]; rfl, ?_⟩
    repeat' (first | exact Q.refl _ | refine Q.alloc ?_ _ | refine Q.jk ?_ _ | refine Q.drew ?_)
  go_wp2_with (go_at_call 72; (with_reducible refine (B5.out _).mono ?_); rintro e w' ⟨rfl, rfl⟩)
  repeat (first | (rw [rounds_succ]; go_wp2_with fail) | (refine wp_loop_rounds 5 ?_))
  cases b6
  case false =>
    go_wp2_with (go_at_call 72; (with_reducible refine (B6.out _).mono ?_); rintro e w' ⟨rfl, rfl⟩)
    try rw [Exit.noGoto_ret]
    go_ret
    refine ⟨by rw [HF.out]; rfl, ?_⟩
    repeat' (first | exact Q.refl _ | refine Q.alloc ?_ _ | refine Q.jk ?_ _ | refine Q.drew ?_)
  go_wp2_with (go_at_call 72; (with_reducible refine (B6.out _).mono ?_); rintro e w' ⟨rfl, rfl⟩)
  repeat (first | (rw [rounds_succ]; go_wp2_with fail) | (refine wp_loop_rounds 5 ?_))
  cases b7
  case false =>
    go_wp2_with (go_at_call 72; (with_reducible refine (B7.out _).mono ?_); rintro e w' ⟨rfl, rfl⟩)
    try rw [Exit.noGoto_ret]
    go_ret
    refine ⟨by rw [HF.out]; rfl, ?_⟩
    repeat' (first | exact Q.refl _ | refine Q.alloc ?_ _ | refine Q.jk ?_ _ | refine Q.drew ?_)
  go_wp2_with (go_at_call 72; (with_reducible refine (B7.out _).mono ?_); rintro e w' ⟨rfl, rfl⟩)
  repeat (first | (rw [rounds_succ]; go_wp2_with fail) | (refine wp_loop_rounds 5 ?_))
  cases b8
  case false =>
    go_wp2_with (go_at_call 72; (with_reducible refine (B8.out _).mono ?_); rintro e w' ⟨rfl, rfl⟩)
    try rw [Exit.noGoto_ret]
    go_ret
    refine ⟨by rw [HF.out]; rfl, ?_⟩
    repeat' (first | exact Q.refl _ | refine Q.alloc ?_ _ | refine Q.jk ?_ _ | refine Q.drew ?_)
  go_wp2_with (go_at_call 72; (with_reducible refine (B8.out _).mono ?_); rintro e w' ⟨rfl, rfl⟩)
  repeat (first | (rw [rounds_succ]; go_wp2_with fail) | (refine wp_loop_rounds 5 ?_))
  cases b9
  case false =>
    go_wp2_with (go_at_call 72; (with_reducible refine (B9.out _).mono ?_); rintro e w' ⟨rfl, rfl⟩)
    try rw [Exit.noGoto_ret]
    go_ret
    refine ⟨by rw [HF.out]; rfl, ?_⟩
    repeat' (first | exact Q.refl _ | refine Q.alloc ?_ _ | refine Q.jk ?_ _ | refine Q.drew ?_)
  go_wp2_with (go_at_call 72; (with_reducible refine (B9.out _).mono ?_); rintro e w' ⟨rfl, rfl⟩)
  repeat (first | (rw [rounds_succ]; go_wp2_with fail) | (refine wp_loop_rounds 5 ?_))
  cases b10
  case false =>
    go_wp2_with (go_at_call 72; (with_reducible refine (B10.out _).mono ?_); rintro e w' ⟨rfl, rfl⟩)
    try rw [Exit.noGoto_ret]
    go_ret
    refine ⟨by rw [HF.out]; rfl, ?_⟩
    repeat' (first | exact Q.refl _ | refine Q.alloc ?_ _ | refine Q.jk ?_ _ | refine Q.drew ?_)
  go_wp2_with (go_at_call 72; (with_reducible refine (B10.out _).mono ?_); rintro e w' ⟨rfl, rfl⟩)
  repeat (first | (rw [rounds_succ]; go_wp2_with fail) | (refine wp_loop_rounds 5 ?_))
  cases b11
  case false =>
    go_wp2_with (go_at_call 72; (with_reducible refine (B11.out _).mono ?_); rintro e w' ⟨rfl, rfl⟩)
    try rw [Exit.noGoto_ret]
    go_ret
    refine ⟨by rw [HF.out]; rfl, ?_⟩
    repeat' (first | exact Q.refl _ | refine Q.alloc ?_ _ | refine Q.jk ?_ _ | refine Q.drew ?_)
  go_wp2_with (go_at_call 72; (with_reducible refine (B11.out _).mono ?_); rintro e w' ⟨rfl, rfl⟩)
  repeat (first | (rw [rounds_succ]; go_wp2_with fail) | (refine wp_loop_rounds 5 ?_))
  try rw [Exit.noGoto_ret]
  go_ret
  refine ⟨by rw [HF.out]; rfl, ?_⟩
  repeat' (first | exact Q.refl _ | refine Q.alloc ?_ _ | refine Q.jk ?_ _ | refine Q.drew ?_)
set_option maxHeartbeats 2000000 in
theorem largest_no (x y z : Cy) (w : World) (HN : Hid (fine3 x y z = false)) :
    Calls Try.prog 34 #[.agg #[.int .i64 x.a, .int .i64 x.b, .int .i64 x.c, .int .i64 x.d, .int .i64 y.a, .int .i64 y.b, .int .i64 y.c, .int .i64 y.d, .int .i64 z.a, .int .i64 z.b, .int .i64 z.c, .int .i64 z.d]] w fun e w' => e = .returned (.tuple #[.agg #[.int .i64 0, .int .i64 0], .int .i64 1]) ∧ Q w w' := by
  go_enter Try.func34, Try.ntmps34
  go_wp2_with (go_at_call 68; refine (phasors_any x y z _).mono ?_; rintro e w' ⟨rfl, kj, rfl⟩; rw [HN.out])
  refine bodyPost_ret (v := .tuple #[.agg #[.int .i64 0, .int .i64 0], .int .i64 1]) (by simp [results, Try.results34, go_sem]) rfl ⟨rfl, ?_⟩
  repeat' (first | exact Q.refl _ | refine Q.alloc ?_ _ | refine Q.jk ?_ _ | refine Q.drew ?_)
set_option maxHeartbeats 2000000 in
theorem ocabove_no1 (x y z : Cy) (p : Int) (w : World) (HN : Hid (fine3 x y z = false)) :
    Calls Try.prog 36 #[.agg #[.int .i64 x.a, .int .i64 x.b, .int .i64 x.c, .int .i64 x.d, .int .i64 y.a, .int .i64 y.b, .int .i64 y.c, .int .i64 y.d, .int .i64 z.a, .int .i64 z.b, .int .i64 z.c, .int .i64 z.d], .int .i64 p] w fun e w' => e = .returned (.tuple #[.bool false, .int .i64 1]) ∧ Q w w' := by
  go_enter Try.func36, Try.ntmps36
  go_wp2_with (go_at_call 68; refine (phasors_any x y z _).mono ?_; rintro e w' ⟨rfl, kj, rfl⟩; rw [HN.out])
  go_ret2
  refine ⟨rfl, ?_⟩
  repeat' (first | exact Q.refl _ | refine Q.alloc ?_ _ | refine Q.jk ?_ _ | refine Q.drew ?_)
set_option maxHeartbeats 2000000 in
theorem ocabove_no2 (x y z : Cy) (p : Int) (w : World) (HN : Hid (fine3 x y z = true)) (HB : Hid ((decide (1 ≤ p) && decide (p ≤ 16383)) = false)) :
    Calls Try.prog 36 #[.agg #[.int .i64 x.a, .int .i64 x.b, .int .i64 x.c, .int .i64 x.d, .int .i64 y.a, .int .i64 y.b, .int .i64 y.c, .int .i64 y.d, .int .i64 z.a, .int .i64 z.b, .int .i64 z.c, .int .i64 z.d], .int .i64 p] w fun e w' => e = .returned (.tuple #[.bool false, .int .i64 1]) ∧ Q w w' := by
  go_enter Try.func36, Try.ntmps36
  go_wp2_with (first | (go_at_call 68; refine (phasors_any x y z _).mono ?_; rintro e w' ⟨rfl, kj, rfl⟩; rw [HN.out]) | (go_at_call 72; refine (ocbetween_any _ _ _ _).mono ?_; rintro e w' ⟨rfl, rfl⟩; rw [HB.out]))
  go_ret2
  refine ⟨rfl, ?_⟩
  repeat' (first | exact Q.refl _ | refine Q.alloc ?_ _ | refine Q.jk ?_ _ | refine Q.drew ?_)
theorem ocabove_no (x y z : Cy) (p : Int) (w : World) (h : (fine3 x y z && (decide (1 ≤ p) && decide (p ≤ 16383))) = false) :
    Calls Try.prog 36 #[.agg #[.int .i64 x.a, .int .i64 x.b, .int .i64 x.c, .int .i64 x.d, .int .i64 y.a, .int .i64 y.b, .int .i64 y.c, .int .i64 y.d, .int .i64 z.a, .int .i64 z.b, .int .i64 z.c, .int .i64 z.d], .int .i64 p] w fun e w' => e = .returned (.tuple #[.bool false, .int .i64 1]) ∧ Q w w' := by
  cases hf : fine3 x y z
  · exact ocabove_no1 x y z p w (Lib.hid hf)
  · rw [hf, Bool.true_and] at h
    exact ocabove_no2 x y z p w (Lib.hid hf) (Lib.hid h)
set_option maxHeartbeats 2000000 in
theorem ocunder_no1 (x y z : Cy) (p : Int) (w : World) (HN : Hid (fine3 x y z = false)) :
    Calls Try.prog 38 #[.agg #[.int .i64 x.a, .int .i64 x.b, .int .i64 x.c, .int .i64 x.d, .int .i64 y.a, .int .i64 y.b, .int .i64 y.c, .int .i64 y.d, .int .i64 z.a, .int .i64 z.b, .int .i64 z.c, .int .i64 z.d], .int .i64 p] w fun e w' => e = .returned (.tuple #[.bool false, .int .i64 1]) ∧ Q w w' := by
  go_enter Try.func38, Try.ntmps38
  go_wp2_with (go_at_call 68; refine (phasors_any x y z _).mono ?_; rintro e w' ⟨rfl, kj, rfl⟩; rw [HN.out])
  go_ret2
  refine ⟨rfl, ?_⟩
  repeat' (first | exact Q.refl _ | refine Q.alloc ?_ _ | refine Q.jk ?_ _ | refine Q.drew ?_)
set_option maxHeartbeats 2000000 in
theorem ocunder_no2 (x y z : Cy) (p : Int) (w : World) (HN : Hid (fine3 x y z = true)) (HB : Hid ((decide (1 ≤ p) && decide (p ≤ 16383)) = false)) :
    Calls Try.prog 38 #[.agg #[.int .i64 x.a, .int .i64 x.b, .int .i64 x.c, .int .i64 x.d, .int .i64 y.a, .int .i64 y.b, .int .i64 y.c, .int .i64 y.d, .int .i64 z.a, .int .i64 z.b, .int .i64 z.c, .int .i64 z.d], .int .i64 p] w fun e w' => e = .returned (.tuple #[.bool false, .int .i64 1]) ∧ Q w w' := by
  go_enter Try.func38, Try.ntmps38
  go_wp2_with (first | (go_at_call 68; refine (phasors_any x y z _).mono ?_; rintro e w' ⟨rfl, kj, rfl⟩; rw [HN.out]) | (go_at_call 72; refine (ocbetween_any _ _ _ _).mono ?_; rintro e w' ⟨rfl, rfl⟩; rw [HB.out]))
  go_ret2
  refine ⟨rfl, ?_⟩
  repeat' (first | exact Q.refl _ | refine Q.alloc ?_ _ | refine Q.jk ?_ _ | refine Q.drew ?_)
theorem ocunder_no (x y z : Cy) (p : Int) (w : World) (h : (fine3 x y z && (decide (1 ≤ p) && decide (p ≤ 16383))) = false) :
    Calls Try.prog 38 #[.agg #[.int .i64 x.a, .int .i64 x.b, .int .i64 x.c, .int .i64 x.d, .int .i64 y.a, .int .i64 y.b, .int .i64 y.c, .int .i64 y.d, .int .i64 z.a, .int .i64 z.b, .int .i64 z.c, .int .i64 z.d], .int .i64 p] w fun e w' => e = .returned (.tuple #[.bool false, .int .i64 1]) ∧ Q w w' := by
  cases hf : fine3 x y z
  · exact ocunder_no1 x y z p w (Lib.hid hf)
  · rw [hf, Bool.true_and] at h
    exact ocunder_no2 x y z p w (Lib.hid hf) (Lib.hid h)
end Go.Proofs.Ytkkjifgcjfbcaaa
