
/- DistanceLoops returns true for every input, and its arguments read behind the call as they read before. -/
import Derived.Test.YtomodppdolfinaaGreatDsG
import Derived.Test.YtomodppdolfinaaGreatRfW3
import Derived.Test.YtomodppdolfinaaGreatRfS
import Derived.Test.YtomodppdolfinaaGreatEqs
import Derived.Test.YtomodppdolfinaaGreatJk
import Derived.ProofKit
import Derived.OpenShut
import Derived.Lib.LaidTab
import Derived.Lib.SmallJoins
import Derived.Carry
import Derived.Deep.DeepHandedRow
import Derived.Test.YtomodppdolfinaaGreatRows
import Derived.Test.YtomodppdolfinaaGreatSuPlain
set_option linter.unusedSimpArgs false
set_option linter.unusedVariables false
/- What the functions of package substationref22 return: fine, plus, minus, times, pair, Strong; Loops and Strong of package distance with arguments out of range. -/
set_option linter.unusedVariables false
set_option linter.unusedSimpArgs false
namespace Go.Proofs.YtomodppdolfinaaGreat
open Go.RowKit Go.Sub
theorem r3plus_c (x y : Cy) (w : World) (hx : x.In 100000000000000000) (hy : y.In 100000000000000000) :
    Calls Tryz.prog 41 #[Value.agg #[Value.int .i64 x.a, Value.int .i64 x.b, Value.int .i64 x.c, Value.int .i64 x.d], Value.agg #[Value.int .i64 y.a, Value.int .i64 y.b, Value.int .i64 y.c, Value.int .i64 y.d]] w fun e w' => e = .returned (Value.tuple #[Value.agg #[Value.int .i64 ((x.add y)).a, Value.int .i64 ((x.add y)).b, Value.int .i64 ((x.add y)).c, Value.int .i64 ((x.add y)).d], Value.int .i64 0]) ∧ Q w w' := by
  have h := radd_any x.a x.b x.c x.d y.a y.b y.c y.d w
  rw [show addR ⟨x.a, x.b, x.c, x.d⟩ ⟨y.a, y.b, y.c, y.d⟩ = _ from addR_ok hx hy] at h
  exact h
set_option maxHeartbeats 2000000 in
theorem rplus_c (x y : Cy) (w : World) (hx : x.In 100000000000000000) (hy : y.In 100000000000000000) :
    Calls Tryz.prog 19 #[Value.agg #[Value.int .i64 x.a, Value.int .i64 x.b, Value.int .i64 x.c, Value.int .i64 x.d], Value.agg #[Value.int .i64 y.a, Value.int .i64 y.b, Value.int .i64 y.c, Value.int .i64 y.d]] w fun e w' => e = .returned (Value.agg #[Value.int .i64 ((x.add y)).a, Value.int .i64 ((x.add y)).b, Value.int .i64 ((x.add y)).c, Value.int .i64 ((x.add y)).d]) ∧ Q w w' := by
  go_enter Tryz.func19, Tryz.ntmps19
  go_wp2_with (go_at_call 41; (with_reducible refine (r3plus_c x y _ hx hy).mono ?_); rintro e w' ⟨rfl, kj, rfl⟩)
  refine bodyPost_ret (v := Value.agg #[Value.int .i64 ((x.add y)).a, Value.int .i64 ((x.add y)).b, Value.int .i64 ((x.add y)).c, Value.int .i64 ((x.add y)).d]) (by simp [results, Tryz.results19, go_sem]) rfl ⟨rfl, ?_⟩
  repeat' (first | exact Q.refl _ | refine Q.alloc ?_ _ | refine Q.jk ?_ _ | refine Q.drew ?_)
theorem r3minus_c (x y : Cy) (w : World) (hx : x.In 100000000000000000) (hy : y.In 100000000000000000) :
    Calls Tryz.prog 65 #[Value.agg #[Value.int .i64 x.a, Value.int .i64 x.b, Value.int .i64 x.c, Value.int .i64 x.d], Value.agg #[Value.int .i64 y.a, Value.int .i64 y.b, Value.int .i64 y.c, Value.int .i64 y.d]] w fun e w' => e = .returned (Value.tuple #[Value.agg #[Value.int .i64 ((x.sub y)).a, Value.int .i64 ((x.sub y)).b, Value.int .i64 ((x.sub y)).c, Value.int .i64 ((x.sub y)).d], Value.int .i64 0]) ∧ Q w w' := by
  have h := rsub_any x.a x.b x.c x.d y.a y.b y.c y.d w
  rw [show subR ⟨x.a, x.b, x.c, x.d⟩ ⟨y.a, y.b, y.c, y.d⟩ = _ from subR_ok hx hy] at h
  exact h
set_option maxHeartbeats 2000000 in
theorem rminus_c (x y : Cy) (w : World) (hx : x.In 100000000000000000) (hy : y.In 100000000000000000) :
    Calls Tryz.prog 46 #[Value.agg #[Value.int .i64 x.a, Value.int .i64 x.b, Value.int .i64 x.c, Value.int .i64 x.d], Value.agg #[Value.int .i64 y.a, Value.int .i64 y.b, Value.int .i64 y.c, Value.int .i64 y.d]] w fun e w' => e = .returned (Value.agg #[Value.int .i64 ((x.sub y)).a, Value.int .i64 ((x.sub y)).b, Value.int .i64 ((x.sub y)).c, Value.int .i64 ((x.sub y)).d]) ∧ Q w w' := by
  go_enter Tryz.func46, Tryz.ntmps46
  go_wp2_with (go_at_call 65; (with_reducible refine (r3minus_c x y _ hx hy).mono ?_); rintro e w' ⟨rfl, kj, rfl⟩)
  refine bodyPost_ret (v := Value.agg #[Value.int .i64 ((x.sub y)).a, Value.int .i64 ((x.sub y)).b, Value.int .i64 ((x.sub y)).c, Value.int .i64 ((x.sub y)).d]) (by simp [results, Tryz.results46, go_sem]) rfl ⟨rfl, ?_⟩
  repeat' (first | exact Q.refl _ | refine Q.alloc ?_ _ | refine Q.jk ?_ _ | refine Q.drew ?_)
theorem r3times_c (x : Cy) (k l m : Int) (w : World) (hx : x.In l) (h1 : -m ≤ k) (h2 : k ≤ m) (hl : l ≤ 576460752303423488) (hm : m ≤ 576460752303423488) (hlm : l * m ≤ 576460752303423488) :
    Calls Tryz.prog 45 #[Value.agg #[Value.int .i64 x.a, Value.int .i64 x.b, Value.int .i64 x.c, Value.int .i64 x.d], Value.int .i64 k] w fun e w' => e = .returned (Value.tuple #[Value.agg #[Value.int .i64 ((x.sc k)).a, Value.int .i64 ((x.sc k)).b, Value.int .i64 ((x.sc k)).c, Value.int .i64 ((x.sc k)).d], Value.int .i64 0]) ∧ Q w w' := by
  have h := r3scale_any x.a x.b x.c x.d k w
  rw [show scaleR ⟨x.a, x.b, x.c, x.d⟩ k = _ from scaleR_fit hx h1 h2 hl hm hlm] at h
  exact h
set_option maxHeartbeats 2000000 in
theorem rtimes_c (x : Cy) (k l m : Int) (w : World) (hx : x.In l) (h1 : -m ≤ k) (h2 : k ≤ m) (hl : l ≤ 576460752303423488) (hm : m ≤ 576460752303423488) (hlm : l * m ≤ 576460752303423488) :
    Calls Tryz.prog 21 #[Value.agg #[Value.int .i64 x.a, Value.int .i64 x.b, Value.int .i64 x.c, Value.int .i64 x.d], Value.int .i64 k] w fun e w' => e = .returned (Value.agg #[Value.int .i64 ((x.sc k)).a, Value.int .i64 ((x.sc k)).b, Value.int .i64 ((x.sc k)).c, Value.int .i64 ((x.sc k)).d]) ∧ Q w w' := by
  go_enter Tryz.func21, Tryz.ntmps21
  go_wp2_with (go_at_call 45; (with_reducible refine (r3times_c x k l m _ hx h1 h2 hl hm hlm).mono ?_); rintro e w' ⟨rfl, kj, rfl⟩)
  refine bodyPost_ret (v := Value.agg #[Value.int .i64 ((x.sc k)).a, Value.int .i64 ((x.sc k)).b, Value.int .i64 ((x.sc k)).c, Value.int .i64 ((x.sc k)).d]) (by simp [results, Tryz.results21, go_sem]) rfl ⟨rfl, ?_⟩
  repeat' (first | exact Q.refl _ | refine Q.alloc ?_ _ | refine Q.jk ?_ _ | refine Q.drew ?_)
theorem rturn22_c (x : Cy) (k : Int) (w : World) (hx : x.In 100000000000000000) :
    Calls Tryz.prog 20 #[Value.agg #[Value.int .i64 x.a, Value.int .i64 x.b, Value.int .i64 x.c, Value.int .i64 x.d], Value.int .i64 k] w fun e w' => e = .returned (Value.tuple #[Value.agg #[Value.int .i64 ((x.turn k)).a, Value.int .i64 ((x.turn k)).b, Value.int .i64 ((x.turn k)).c, Value.int .i64 ((x.turn k)).d], Value.int .i64 0]) ∧ Q w w' := by
  have h := rturn_any x.a x.b x.c x.d k w
  rw [show turnR ⟨x.a, x.b, x.c, x.d⟩ k = _ from turnR_ok k hx] at h
  exact h
theorem rnorm22_c (x : Cy) (w : World) (hx : x.In 268435456) :
    Calls Tryz.prog 49 #[Value.agg #[Value.int .i64 x.a, Value.int .i64 x.b, Value.int .i64 x.c, Value.int .i64 x.d]] w fun e w' => e = .returned (Value.tuple #[Value.agg #[Value.int .i64 x.norm.a, Value.int .i64 x.norm.b], Value.int .i64 0]) ∧ Q w w' := by
  have h := rnorm_any x.a x.b x.c x.d w
  rw [show normR ⟨x.a, x.b, x.c, x.d⟩ = _ from normR_ok hx] at h
  exact h
theorem r2cmp22_c (x y : Su) (w : World) (hx : x.In 1000000000000000000) (hy : y.In 1000000000000000000) :
    Calls Tryz.prog 50 #[Value.agg #[Value.int .i64 x.a, Value.int .i64 x.b], Value.agg #[Value.int .i64 y.a, Value.int .i64 y.b]] w fun e w' => e = .returned (Value.tuple #[Value.int .i64 (sgnS (x.sub y)), Value.int .i64 0]) ∧ Q w w' := by
  have h := r2cmp_any x.a x.b y.a y.b w
  have e : scmpR ⟨x.a, x.b⟩ ⟨y.a, y.b⟩ = (sgnS (x.sub y), 0) := by
    unfold Su.In at hx hy
    have : wi4 1152921504606846976 x.a x.b y.a y.b = true := (wi4_iff _ _ _ _ _).2 (by omega)
    simp only [scmpR, this, if_true]
  rw [e] at h
  exact h
set_option maxHeartbeats 4000000 in
theorem rfine22_any (x y z : Cy) (w : World) :
    Calls Tryz.prog 18 #[Value.agg #[Value.int .i64 x.a, Value.int .i64 x.b, Value.int .i64 x.c, Value.int .i64 x.d, Value.int .i64 y.a, Value.int .i64 y.b, Value.int .i64 y.c, Value.int .i64 y.d, Value.int .i64 z.a, Value.int .i64 z.b, Value.int .i64 z.c, Value.int .i64 z.d]] w fun e w' => e = .returned (Value.bool (ph3 x y z)) ∧ Q w w' := by
  have W1 := Lib.hid (fun w => rwithin_any x.a x.b x.c x.d 65536 w (by decide) (by decide))
  have W2 := Lib.hid (fun w => rwithin_any y.a y.b y.c y.d 65536 w (by decide) (by decide))
  have W3 := Lib.hid (fun w => rwithin_any z.a z.b z.c z.d 65536 w (by decide) (by decide))
  unfold ph3
  change Hid (∀ w, Calls _ _ _ w fun e w' => e = .returned (Value.bool (wiB x 65536)) ∧ Q w w') at W1
  change Hid (∀ w, Calls _ _ _ w fun e w' => e = .returned (Value.bool (wiB y 65536)) ∧ Q w w') at W2
  change Hid (∀ w, Calls _ _ _ w fun e w' => e = .returned (Value.bool (wiB z 65536)) ∧ Q w w') at W3
  generalize wiB x 65536 = b1 at W1 ⊢
  generalize wiB y 65536 = b2 at W2 ⊢
  generalize wiB z 65536 = b3 at W3 ⊢
  cases b1 <;> cases b2 <;> cases b3
  all_goals
    go_enter Tryz.func18, Tryz.ntmps18
    go_wp2_with (first | (go_at_call 40; (with_reducible refine (W1.out _).mono ?_); rintro e w' ⟨rfl, kj, rfl⟩) | (go_at_call 40; (with_reducible refine (W2.out _).mono ?_); rintro e w' ⟨rfl, kj, rfl⟩) | (go_at_call 40; (with_reducible refine (W3.out _).mono ?_); rintro e w' ⟨rfl, kj, rfl⟩))
    go_ret
    refine ⟨rfl, ?_⟩
    repeat' (first | exact Q.refl _ | refine Q.alloc ?_ _ | refine Q.jk ?_ _ | refine Q.drew ?_)
set_option maxHeartbeats 1000000 in
theorem rleast22_c (c : Cy) (p : Int) (w : World) (hc : c.In 131072) (p0 : 1 ≤ p) (p1 : p ≤ 16383) :
    Calls Tryz.prog 24 #[Value.agg #[Value.int .i64 c.a, Value.int .i64 c.b, Value.int .i64 c.c, Value.int .i64 c.d], Value.int .i64 p] w fun e w' => e = .returned (Value.bool (aboveB c p)) ∧ Q w w' := by
  have hn : c.norm.In 1000000000000000000 := (norm_in hc).mono (by decide)
  have h1 := bd_mul (a := p) (b := p) (n := 16383) (m := 16383) (by omega) p1 (by omega) p1
  have q1 : -10000000000 ≤ 36 * p * p := by rw [Int.mul_assoc]; omega
  have q2 : 36 * p * p ≤ 10000000000 := by rw [Int.mul_assoc]; omega
  have hp : (Su.mk (36 * p * p) 0).In 1000000000000000000 := by unfold Su.In; dsimp only; omega
  have HC := Lib.hid (fun w => r2cmp22_c c.norm ⟨36 * p * p, 0⟩ w hn hp)
  unfold aboveB
  clear h1 hp
  go_enter Tryz.func24, Tryz.ntmps24
  go_wp2_with (first | (go_at_call 49; refine (rnorm22_c c _ (hc.mono (by decide))).mono ?_; rintro e w' ⟨rfl, kj, rfl⟩) | (go_at_call 50; (with_reducible refine (HC.out _).mono ?_); rintro e w' ⟨rfl, kj, rfl⟩))
  go_ret
  refine ⟨rfl, ?_⟩
  repeat' (first | exact Q.refl _ | refine Q.alloc ?_ _ | refine Q.jk ?_ _ | refine Q.drew ?_)
set_option maxHeartbeats 1000000 in
theorem rpair_0 (x y z : Cy) (w : World) :
    Calls Tryz.prog 22 #[Value.agg #[Value.int .i64 x.a, Value.int .i64 x.b, Value.int .i64 x.c, Value.int .i64 x.d, Value.int .i64 y.a, Value.int .i64 y.b, Value.int .i64 y.c, Value.int .i64 y.d, Value.int .i64 z.a, Value.int .i64 z.b, Value.int .i64 z.c, Value.int .i64 z.d], Value.int .i64 0] w fun e w' => e = .returned (Value.agg #[Value.int .i64 (x).a, Value.int .i64 (x).b, Value.int .i64 (x).c, Value.int .i64 (x).d]) ∧ Q w w' := by
  go_enter Tryz.func22, Tryz.ntmps22
  go_wp2_with fail
  refine bodyPost_ret (v := Value.agg #[Value.int .i64 (x).a, Value.int .i64 (x).b, Value.int .i64 (x).c, Value.int .i64 (x).d]) (by simp [results, Tryz.results22, go_sem]) rfl ⟨rfl, ?_⟩
  repeat' (first | exact Q.refl _ | refine Q.alloc ?_ _ | refine Q.jk ?_ _ | refine Q.drew ?_)
set_option maxHeartbeats 1000000 in
theorem rpair_1 (x y z : Cy) (w : World) :
    Calls Tryz.prog 22 #[Value.agg #[Value.int .i64 x.a, Value.int .i64 x.b, Value.int .i64 x.c, Value.int .i64 x.d, Value.int .i64 y.a, Value.int .i64 y.b, Value.int .i64 y.c, Value.int .i64 y.d, Value.int .i64 z.a, Value.int .i64 z.b, Value.int .i64 z.c, Value.int .i64 z.d], Value.int .i64 1] w fun e w' => e = .returned (Value.agg #[Value.int .i64 (y).a, Value.int .i64 (y).b, Value.int .i64 (y).c, Value.int .i64 (y).d]) ∧ Q w w' := by
  go_enter Tryz.func22, Tryz.ntmps22
  go_wp2_with fail
  refine bodyPost_ret (v := Value.agg #[Value.int .i64 (y).a, Value.int .i64 (y).b, Value.int .i64 (y).c, Value.int .i64 (y).d]) (by simp [results, Tryz.results22, go_sem]) rfl ⟨rfl, ?_⟩
  repeat' (first | exact Q.refl _ | refine Q.alloc ?_ _ | refine Q.jk ?_ _ | refine Q.drew ?_)
set_option maxHeartbeats 1000000 in
theorem rpair_2 (x y z : Cy) (w : World) :
    Calls Tryz.prog 22 #[Value.agg #[Value.int .i64 x.a, Value.int .i64 x.b, Value.int .i64 x.c, Value.int .i64 x.d, Value.int .i64 y.a, Value.int .i64 y.b, Value.int .i64 y.c, Value.int .i64 y.d, Value.int .i64 z.a, Value.int .i64 z.b, Value.int .i64 z.c, Value.int .i64 z.d], Value.int .i64 2] w fun e w' => e = .returned (Value.agg #[Value.int .i64 (z).a, Value.int .i64 (z).b, Value.int .i64 (z).c, Value.int .i64 (z).d]) ∧ Q w w' := by
  go_enter Tryz.func22, Tryz.ntmps22
  go_wp2_with fail
  refine bodyPost_ret (v := Value.agg #[Value.int .i64 (z).a, Value.int .i64 (z).b, Value.int .i64 (z).c, Value.int .i64 (z).d]) (by simp [results, Tryz.results22, go_sem]) rfl ⟨rfl, ?_⟩
  repeat' (first | exact Q.refl _ | refine Q.alloc ?_ _ | refine Q.jk ?_ _ | refine Q.drew ?_)
set_option maxHeartbeats 1000000 in
theorem rpair_3 (x y z : Cy) (w : World) (hx : x.In 100000000000000000) (hy : y.In 100000000000000000) (hz : z.In 100000000000000000) :
    Calls Tryz.prog 22 #[Value.agg #[Value.int .i64 x.a, Value.int .i64 x.b, Value.int .i64 x.c, Value.int .i64 x.d, Value.int .i64 y.a, Value.int .i64 y.b, Value.int .i64 y.c, Value.int .i64 y.d, Value.int .i64 z.a, Value.int .i64 z.b, Value.int .i64 z.c, Value.int .i64 z.d], Value.int .i64 3] w fun e w' => e = .returned (Value.agg #[Value.int .i64 ((x.sub y)).a, Value.int .i64 ((x.sub y)).b, Value.int .i64 ((x.sub y)).c, Value.int .i64 ((x.sub y)).d]) ∧ Q w w' := by
  go_enter Tryz.func22, Tryz.ntmps22
  go_wp2_with fail
  try simp only [List.append]
  refine wp_region_tail 10 (by kernel_rfl) (by kernel_rfl) ?_
  simp only [List.take_succ_cons, List.take_zero, List.drop_succ_cons, List.drop_zero]
  repeat (go_big_quiet_step ((go_at_call 46; exact Calls.jk_of (rminus_c x y _ hx hy))))
  refine wpQuiet_nil ?_
  intro _ hw'
  obtain ⟨kq, rfl⟩ := hw'
  go_wp2_with fail
  refine bodyPost_ret (v := Value.agg #[Value.int .i64 ((x.sub y)).a, Value.int .i64 ((x.sub y)).b, Value.int .i64 ((x.sub y)).c, Value.int .i64 ((x.sub y)).d]) (by simp [results, Tryz.results22, go_sem]) rfl ⟨rfl, ?_⟩
  repeat' (first | exact Q.refl _ | refine Q.alloc ?_ _ | refine Q.jk ?_ _ | refine Q.drew ?_)
set_option maxHeartbeats 1000000 in
theorem rpair_4 (x y z : Cy) (w : World) (hx : x.In 100000000000000000) (hy : y.In 100000000000000000) (hz : z.In 100000000000000000) :
    Calls Tryz.prog 22 #[Value.agg #[Value.int .i64 x.a, Value.int .i64 x.b, Value.int .i64 x.c, Value.int .i64 x.d, Value.int .i64 y.a, Value.int .i64 y.b, Value.int .i64 y.c, Value.int .i64 y.d, Value.int .i64 z.a, Value.int .i64 z.b, Value.int .i64 z.c, Value.int .i64 z.d], Value.int .i64 4] w fun e w' => e = .returned (Value.agg #[Value.int .i64 ((y.sub z)).a, Value.int .i64 ((y.sub z)).b, Value.int .i64 ((y.sub z)).c, Value.int .i64 ((y.sub z)).d]) ∧ Q w w' := by
  go_enter Tryz.func22, Tryz.ntmps22
  go_wp2_with fail
  try simp only [List.append]
  refine wp_region_tail 10 (by kernel_rfl) (by kernel_rfl) ?_
  simp only [List.take_succ_cons, List.take_zero, List.drop_succ_cons, List.drop_zero]
  repeat (go_big_quiet_step ((go_at_call 46; exact Calls.jk_of (rminus_c y z _ hy hz))))
  refine wpQuiet_nil ?_
  intro _ hw'
  obtain ⟨kq, rfl⟩ := hw'
  go_wp2_with fail
  refine bodyPost_ret (v := Value.agg #[Value.int .i64 ((y.sub z)).a, Value.int .i64 ((y.sub z)).b, Value.int .i64 ((y.sub z)).c, Value.int .i64 ((y.sub z)).d]) (by simp [results, Tryz.results22, go_sem]) rfl ⟨rfl, ?_⟩
  repeat' (first | exact Q.refl _ | refine Q.alloc ?_ _ | refine Q.jk ?_ _ | refine Q.drew ?_)
set_option maxHeartbeats 1000000 in
theorem rpair_5 (x y z : Cy) (w : World) (hx : x.In 100000000000000000) (hy : y.In 100000000000000000) (hz : z.In 100000000000000000) :
    Calls Tryz.prog 22 #[Value.agg #[Value.int .i64 x.a, Value.int .i64 x.b, Value.int .i64 x.c, Value.int .i64 x.d, Value.int .i64 y.a, Value.int .i64 y.b, Value.int .i64 y.c, Value.int .i64 y.d, Value.int .i64 z.a, Value.int .i64 z.b, Value.int .i64 z.c, Value.int .i64 z.d], Value.int .i64 5] w fun e w' => e = .returned (Value.agg #[Value.int .i64 ((z.sub x)).a, Value.int .i64 ((z.sub x)).b, Value.int .i64 ((z.sub x)).c, Value.int .i64 ((z.sub x)).d]) ∧ Q w w' := by
  go_enter Tryz.func22, Tryz.ntmps22
  go_wp2_with fail
  try simp only [List.append]
  refine wp_region_tail 10 (by kernel_rfl) (by kernel_rfl) ?_
  simp only [List.take_succ_cons, List.take_zero, List.drop_succ_cons, List.drop_zero]
  repeat (go_big_quiet_step ((go_at_call 46; exact Calls.jk_of (rminus_c z x _ hz hx))))
  refine wpQuiet_nil ?_
  intro _ hw'
  obtain ⟨kq, rfl⟩ := hw'
  go_wp2_with fail
  refine bodyPost_ret (v := Value.agg #[Value.int .i64 ((z.sub x)).a, Value.int .i64 ((z.sub x)).b, Value.int .i64 ((z.sub x)).c, Value.int .i64 ((z.sub x)).d]) (by simp [results, Tryz.results22, go_sem]) rfl ⟨rfl, ?_⟩
  repeat' (first | exact Q.refl _ | refine Q.alloc ?_ _ | refine Q.jk ?_ _ | refine Q.drew ?_)
set_option maxRecDepth 100000 in
set_option maxHeartbeats 4000000 in
theorem rstrong_core (x y z c0 c1 c2 c3 c4 c5 : Cy) (b0 b1 b2 b3 b4 b5 : Bool) (m : Int) (w : World) (HN : Hid (ph3 x y z = true)) (m0 : 1 ≤ m) (m1 : m ≤ 16383)
    (P0 : Hid (∀ w, Calls Tryz.prog 22 #[Value.agg #[Value.int .i64 x.a, Value.int .i64 x.b, Value.int .i64 x.c, Value.int .i64 x.d, Value.int .i64 y.a, Value.int .i64 y.b, Value.int .i64 y.c, Value.int .i64 y.d, Value.int .i64 z.a, Value.int .i64 z.b, Value.int .i64 z.c, Value.int .i64 z.d], Value.int .i64 0] w fun e w' => e = .returned (Value.agg #[Value.int .i64 (c0).a, Value.int .i64 (c0).b, Value.int .i64 (c0).c, Value.int .i64 (c0).d]) ∧ Q w w')) (P1 : Hid (∀ w, Calls Tryz.prog 22 #[Value.agg #[Value.int .i64 x.a, Value.int .i64 x.b, Value.int .i64 x.c, Value.int .i64 x.d, Value.int .i64 y.a, Value.int .i64 y.b, Value.int .i64 y.c, Value.int .i64 y.d, Value.int .i64 z.a, Value.int .i64 z.b, Value.int .i64 z.c, Value.int .i64 z.d], Value.int .i64 1] w fun e w' => e = .returned (Value.agg #[Value.int .i64 (c1).a, Value.int .i64 (c1).b, Value.int .i64 (c1).c, Value.int .i64 (c1).d]) ∧ Q w w')) (P2 : Hid (∀ w, Calls Tryz.prog 22 #[Value.agg #[Value.int .i64 x.a, Value.int .i64 x.b, Value.int .i64 x.c, Value.int .i64 x.d, Value.int .i64 y.a, Value.int .i64 y.b, Value.int .i64 y.c, Value.int .i64 y.d, Value.int .i64 z.a, Value.int .i64 z.b, Value.int .i64 z.c, Value.int .i64 z.d], Value.int .i64 2] w fun e w' => e = .returned (Value.agg #[Value.int .i64 (c2).a, Value.int .i64 (c2).b, Value.int .i64 (c2).c, Value.int .i64 (c2).d]) ∧ Q w w')) (P3 : Hid (∀ w, Calls Tryz.prog 22 #[Value.agg #[Value.int .i64 x.a, Value.int .i64 x.b, Value.int .i64 x.c, Value.int .i64 x.d, Value.int .i64 y.a, Value.int .i64 y.b, Value.int .i64 y.c, Value.int .i64 y.d, Value.int .i64 z.a, Value.int .i64 z.b, Value.int .i64 z.c, Value.int .i64 z.d], Value.int .i64 3] w fun e w' => e = .returned (Value.agg #[Value.int .i64 (c3).a, Value.int .i64 (c3).b, Value.int .i64 (c3).c, Value.int .i64 (c3).d]) ∧ Q w w')) (P4 : Hid (∀ w, Calls Tryz.prog 22 #[Value.agg #[Value.int .i64 x.a, Value.int .i64 x.b, Value.int .i64 x.c, Value.int .i64 x.d, Value.int .i64 y.a, Value.int .i64 y.b, Value.int .i64 y.c, Value.int .i64 y.d, Value.int .i64 z.a, Value.int .i64 z.b, Value.int .i64 z.c, Value.int .i64 z.d], Value.int .i64 4] w fun e w' => e = .returned (Value.agg #[Value.int .i64 (c4).a, Value.int .i64 (c4).b, Value.int .i64 (c4).c, Value.int .i64 (c4).d]) ∧ Q w w')) (P5 : Hid (∀ w, Calls Tryz.prog 22 #[Value.agg #[Value.int .i64 x.a, Value.int .i64 x.b, Value.int .i64 x.c, Value.int .i64 x.d, Value.int .i64 y.a, Value.int .i64 y.b, Value.int .i64 y.c, Value.int .i64 y.d, Value.int .i64 z.a, Value.int .i64 z.b, Value.int .i64 z.c, Value.int .i64 z.d], Value.int .i64 5] w fun e w' => e = .returned (Value.agg #[Value.int .i64 (c5).a, Value.int .i64 (c5).b, Value.int .i64 (c5).c, Value.int .i64 (c5).d]) ∧ Q w w')) (L0 : Hid (∀ w, Calls Tryz.prog 24 #[Value.agg #[Value.int .i64 (c0).a, Value.int .i64 (c0).b, Value.int .i64 (c0).c, Value.int .i64 (c0).d], Value.int .i64 m] w fun e w' => e = .returned (Value.bool b0) ∧ Q w w')) (L1 : Hid (∀ w, Calls Tryz.prog 24 #[Value.agg #[Value.int .i64 (c1).a, Value.int .i64 (c1).b, Value.int .i64 (c1).c, Value.int .i64 (c1).d], Value.int .i64 m] w fun e w' => e = .returned (Value.bool b1) ∧ Q w w')) (L2 : Hid (∀ w, Calls Tryz.prog 24 #[Value.agg #[Value.int .i64 (c2).a, Value.int .i64 (c2).b, Value.int .i64 (c2).c, Value.int .i64 (c2).d], Value.int .i64 m] w fun e w' => e = .returned (Value.bool b2) ∧ Q w w')) (L3 : Hid (∀ w, Calls Tryz.prog 24 #[Value.agg #[Value.int .i64 (c3).a, Value.int .i64 (c3).b, Value.int .i64 (c3).c, Value.int .i64 (c3).d], Value.int .i64 m] w fun e w' => e = .returned (Value.bool b3) ∧ Q w w')) (L4 : Hid (∀ w, Calls Tryz.prog 24 #[Value.agg #[Value.int .i64 (c4).a, Value.int .i64 (c4).b, Value.int .i64 (c4).c, Value.int .i64 (c4).d], Value.int .i64 m] w fun e w' => e = .returned (Value.bool b4) ∧ Q w w')) (L5 : Hid (∀ w, Calls Tryz.prog 24 #[Value.agg #[Value.int .i64 (c5).a, Value.int .i64 (c5).b, Value.int .i64 (c5).c, Value.int .i64 (c5).d], Value.int .i64 m] w fun e w' => e = .returned (Value.bool b5) ∧ Q w w')) :
    Calls Tryz.prog 9 #[Value.agg #[Value.int .i64 x.a, Value.int .i64 x.b, Value.int .i64 x.c, Value.int .i64 x.d, Value.int .i64 y.a, Value.int .i64 y.b, Value.int .i64 y.c, Value.int .i64 y.d, Value.int .i64 z.a, Value.int .i64 z.b, Value.int .i64 z.c, Value.int .i64 z.d], Value.int .i64 m] w fun e w' => e = .returned (Value.tuple #[Value.agg #[Value.bool b0, Value.bool b1, Value.bool b2, Value.bool b3, Value.bool b4, Value.bool b5], Value.int .i64 0]) ∧ Q w w' := by
  go_enter Tryz.func9, Tryz.ntmps9
  go_wp2_with (go_at_call 18; (with_reducible refine (rfine22_any _ _ _ _).mono ?_); rintro e w' ⟨rfl, kj, rfl⟩; rw [HN.out])
  refine wp_loop_rounds 7 ?_
  rw [rounds_succ]; go_wp2_with (first | (go_at_call 22; first | ((with_reducible refine (P0.out _).mono ?_); rintro e w' ⟨rfl, kj, rfl⟩)) | (go_at_call 24; first | ((with_reducible refine (L0.out _).mono ?_); rintro e w' ⟨rfl, kj, rfl⟩)))
  rw [rounds_succ]; go_wp2_with (first | (go_at_call 22; first | ((with_reducible refine (P1.out _).mono ?_); rintro e w' ⟨rfl, kj, rfl⟩)) | (go_at_call 24; first | ((with_reducible refine (L1.out _).mono ?_); rintro e w' ⟨rfl, kj, rfl⟩)))
  rw [rounds_succ]; go_wp2_with (first | (go_at_call 22; first | ((with_reducible refine (P2.out _).mono ?_); rintro e w' ⟨rfl, kj, rfl⟩)) | (go_at_call 24; first | ((with_reducible refine (L2.out _).mono ?_); rintro e w' ⟨rfl, kj, rfl⟩)))
  rw [rounds_succ]; go_wp2_with (first | (go_at_call 22; first | ((with_reducible refine (P3.out _).mono ?_); rintro e w' ⟨rfl, kj, rfl⟩)) | (go_at_call 24; first | ((with_reducible refine (L3.out _).mono ?_); rintro e w' ⟨rfl, kj, rfl⟩)))
  rw [rounds_succ]; go_wp2_with (first | (go_at_call 22; first | ((with_reducible refine (P4.out _).mono ?_); rintro e w' ⟨rfl, kj, rfl⟩)) | (go_at_call 24; first | ((with_reducible refine (L4.out _).mono ?_); rintro e w' ⟨rfl, kj, rfl⟩)))
  rw [rounds_succ]; go_wp2_with (first | (go_at_call 22; first | ((with_reducible refine (P5.out _).mono ?_); rintro e w' ⟨rfl, kj, rfl⟩)) | (go_at_call 24; first | ((with_reducible refine (L5.out _).mono ?_); rintro e w' ⟨rfl, kj, rfl⟩)))
  rw [rounds_succ]; go_wp2_with fail
  refine bodyPost_ret (v := Value.tuple #[Value.agg #[Value.bool b0, Value.bool b1, Value.bool b2, Value.bool b3, Value.bool b4, Value.bool b5], Value.int .i64 0]) (by simp [results, Tryz.results9, go_sem]) rfl ⟨rfl, ?_⟩
  repeat' (first | exact Q.refl _ | refine Q.alloc ?_ _ | refine Q.jk ?_ _ | refine Q.drew ?_)
theorem rstrong_c (x y z : Cy) (m : Int) (w : World) (hx : x.In 65536) (hy : y.In 65536) (hz : z.In 65536) (m0 : 1 ≤ m) (m1 : m ≤ 16383) :
    Calls Tryz.prog 9 #[Value.agg #[Value.int .i64 x.a, Value.int .i64 x.b, Value.int .i64 x.c, Value.int .i64 x.d, Value.int .i64 y.a, Value.int .i64 y.b, Value.int .i64 y.c, Value.int .i64 y.d, Value.int .i64 z.a, Value.int .i64 z.b, Value.int .i64 z.c, Value.int .i64 z.d], Value.int .i64 m] w fun e w' => e = .returned (Value.tuple #[Value.agg #[Value.bool (aboveB (sixC x y z 0) m), Value.bool (aboveB (sixC x y z 1) m), Value.bool (aboveB (sixC x y z 2) m), Value.bool (aboveB (sixC x y z 3) m), Value.bool (aboveB (sixC x y z 4) m), Value.bool (aboveB (sixC x y z 5) m)], Value.int .i64 0]) ∧ Q w w' :=
  rstrong_core x y z (sixC x y z 0) (sixC x y z 1) (sixC x y z 2) (sixC x y z 3) (sixC x y z 4) (sixC x y z 5) _ _ _ _ _ _ m w (Lib.hid ((ph3_iff _ _ _).2 ⟨hx, hy, hz⟩)) m0 m1
    (Lib.hid fun w => rpair_0 x y z w) (Lib.hid fun w => rpair_1 x y z w) (Lib.hid fun w => rpair_2 x y z w) (Lib.hid fun w => rpair_3 x y z w (hx.mono (by decide)) (hy.mono (by decide)) (hz.mono (by decide))) (Lib.hid fun w => rpair_4 x y z w (hx.mono (by decide)) (hy.mono (by decide)) (hz.mono (by decide))) (Lib.hid fun w => rpair_5 x y z w (hx.mono (by decide)) (hy.mono (by decide)) (hz.mono (by decide))) (Lib.hid fun w => rleast22_c (sixC x y z 0) m w ((six_in hx hy hz 0).mono (by decide)) m0 m1) (Lib.hid fun w => rleast22_c (sixC x y z 1) m w ((six_in hx hy hz 1).mono (by decide)) m0 m1) (Lib.hid fun w => rleast22_c (sixC x y z 2) m w ((six_in hx hy hz 2).mono (by decide)) m0 m1) (Lib.hid fun w => rleast22_c (sixC x y z 3) m w ((six_in hx hy hz 3).mono (by decide)) m0 m1) (Lib.hid fun w => rleast22_c (sixC x y z 4) m w ((six_in hx hy hz 4).mono (by decide)) m0 m1) (Lib.hid fun w => rleast22_c (sixC x y z 5) m w ((six_in hx hy hz 5).mono (by decide)) m0 m1)
set_option maxRecDepth 100000 in
set_option maxHeartbeats 4000000 in
theorem rstrong_b1 (x y z : Cy) (m : Int) (w : World) (HN : Hid (ph3 x y z = false)) :
    Calls Tryz.prog 9 #[Value.agg #[Value.int .i64 x.a, Value.int .i64 x.b, Value.int .i64 x.c, Value.int .i64 x.d, Value.int .i64 y.a, Value.int .i64 y.b, Value.int .i64 y.c, Value.int .i64 y.d, Value.int .i64 z.a, Value.int .i64 z.b, Value.int .i64 z.c, Value.int .i64 z.d], Value.int .i64 m] w fun e w' => e = .returned (Value.tuple #[Value.agg #[Value.bool false, Value.bool false, Value.bool false, Value.bool false, Value.bool false, Value.bool false], Value.int .i64 1]) ∧ Q w w' := by
  go_enter Tryz.func9, Tryz.ntmps9
  go_wp2_with ((go_at_call 18; (with_reducible refine (rfine22_any _ _ _ _).mono ?_); rintro e w' ⟨rfl, kj, rfl⟩; rw [HN.out]))
  refine bodyPost_ret (v := Value.tuple #[Value.agg #[Value.bool false, Value.bool false, Value.bool false, Value.bool false, Value.bool false, Value.bool false], Value.int .i64 1]) (by simp [results, Tryz.results9, go_sem]) rfl ⟨rfl, ?_⟩
  repeat' (first | exact Q.refl _ | refine Q.alloc ?_ _ | refine Q.jk ?_ _ | refine Q.drew ?_)
set_option maxRecDepth 100000 in
set_option maxHeartbeats 4000000 in
theorem rstrong_b2 (x y z : Cy) (m : Int) (w : World) (HN : Hid (ph3 x y z = true)) (hm : m < 1) :
    Calls Tryz.prog 9 #[Value.agg #[Value.int .i64 x.a, Value.int .i64 x.b, Value.int .i64 x.c, Value.int .i64 x.d, Value.int .i64 y.a, Value.int .i64 y.b, Value.int .i64 y.c, Value.int .i64 y.d, Value.int .i64 z.a, Value.int .i64 z.b, Value.int .i64 z.c, Value.int .i64 z.d], Value.int .i64 m] w fun e w' => e = .returned (Value.tuple #[Value.agg #[Value.bool false, Value.bool false, Value.bool false, Value.bool false, Value.bool false, Value.bool false], Value.int .i64 1]) ∧ Q w w' := by
  go_enter Tryz.func9, Tryz.ntmps9
  go_wp2_with ((go_at_call 18; (with_reducible refine (rfine22_any _ _ _ _).mono ?_); rintro e w' ⟨rfl, kj, rfl⟩; rw [HN.out]))
  refine bodyPost_ret (v := Value.tuple #[Value.agg #[Value.bool false, Value.bool false, Value.bool false, Value.bool false, Value.bool false, Value.bool false], Value.int .i64 1]) (by simp [results, Tryz.results9, go_sem]) rfl ⟨rfl, ?_⟩
  repeat' (first | exact Q.refl _ | refine Q.alloc ?_ _ | refine Q.jk ?_ _ | refine Q.drew ?_)
set_option maxRecDepth 100000 in
set_option maxHeartbeats 4000000 in
theorem rstrong_b3 (x y z : Cy) (m : Int) (w : World) (HN : Hid (ph3 x y z = true)) (hm : 16383 < m) :
    Calls Tryz.prog 9 #[Value.agg #[Value.int .i64 x.a, Value.int .i64 x.b, Value.int .i64 x.c, Value.int .i64 x.d, Value.int .i64 y.a, Value.int .i64 y.b, Value.int .i64 y.c, Value.int .i64 y.d, Value.int .i64 z.a, Value.int .i64 z.b, Value.int .i64 z.c, Value.int .i64 z.d], Value.int .i64 m] w fun e w' => e = .returned (Value.tuple #[Value.agg #[Value.bool false, Value.bool false, Value.bool false, Value.bool false, Value.bool false, Value.bool false], Value.int .i64 1]) ∧ Q w w' := by
  have h1 : 1 ≤ m := by omega
  go_enter Tryz.func9, Tryz.ntmps9
  go_wp2_with ((go_at_call 18; (with_reducible refine (rfine22_any _ _ _ _).mono ?_); rintro e w' ⟨rfl, kj, rfl⟩; rw [HN.out]))
  refine bodyPost_ret (v := Value.tuple #[Value.agg #[Value.bool false, Value.bool false, Value.bool false, Value.bool false, Value.bool false, Value.bool false], Value.int .i64 1]) (by simp [results, Tryz.results9, go_sem]) rfl ⟨rfl, ?_⟩
  repeat' (first | exact Q.refl _ | refine Q.alloc ?_ _ | refine Q.jk ?_ _ | refine Q.drew ?_)
set_option maxRecDepth 100000 in
set_option maxHeartbeats 4000000 in
theorem strong_b1 (x y z : Cy) (m : Int) (w : World) (HN : Hid (ph3 x y z = false)) :
    Calls Tryz.prog 8 #[Value.agg #[Value.int .i64 x.a, Value.int .i64 x.b, Value.int .i64 x.c, Value.int .i64 x.d, Value.int .i64 y.a, Value.int .i64 y.b, Value.int .i64 y.c, Value.int .i64 y.d, Value.int .i64 z.a, Value.int .i64 z.b, Value.int .i64 z.c, Value.int .i64 z.d], Value.int .i64 m] w fun e w' => e = .returned (Value.tuple #[Value.agg #[Value.bool false, Value.bool false, Value.bool false, Value.bool false, Value.bool false, Value.bool false], Value.int .i64 1]) ∧ Q w w' := by
  go_enter Tryz.func8, Tryz.ntmps8
  go_wp2_with ((go_at_call 12; (with_reducible refine (dphases_any _ _ _ _).mono ?_); rintro e w' ⟨rfl, kj, rfl⟩; rw [HN.out]))
  refine bodyPost_ret (v := Value.tuple #[Value.agg #[Value.bool false, Value.bool false, Value.bool false, Value.bool false, Value.bool false, Value.bool false], Value.int .i64 1]) (by simp [results, Tryz.results8, go_sem]) rfl ⟨rfl, ?_⟩
  repeat' (first | exact Q.refl _ | refine Q.alloc ?_ _ | refine Q.jk ?_ _ | refine Q.drew ?_)
set_option maxRecDepth 100000 in
set_option maxHeartbeats 4000000 in
theorem strong_b2 (x y z : Cy) (m : Int) (w : World) (HN : Hid (ph3 x y z = true)) (HB : Hid ((decide (1 ≤ m) && decide (m ≤ 16383)) = false)) :
    Calls Tryz.prog 8 #[Value.agg #[Value.int .i64 x.a, Value.int .i64 x.b, Value.int .i64 x.c, Value.int .i64 x.d, Value.int .i64 y.a, Value.int .i64 y.b, Value.int .i64 y.c, Value.int .i64 y.d, Value.int .i64 z.a, Value.int .i64 z.b, Value.int .i64 z.c, Value.int .i64 z.d], Value.int .i64 m] w fun e w' => e = .returned (Value.tuple #[Value.agg #[Value.bool false, Value.bool false, Value.bool false, Value.bool false, Value.bool false, Value.bool false], Value.int .i64 1]) ∧ Q w w' := by
  go_enter Tryz.func8, Tryz.ntmps8
  go_wp2_with ((first | (go_at_call 12; (with_reducible refine (dphases_any _ _ _ _).mono ?_); rintro e w' ⟨rfl, kj, rfl⟩; rw [HN.out]) | (go_at_call 13; refine (dbetween_any _ _ _ _).mono ?_; rintro e w' ⟨rfl, rfl⟩; rw [HB.out])))
  refine bodyPost_ret (v := Value.tuple #[Value.agg #[Value.bool false, Value.bool false, Value.bool false, Value.bool false, Value.bool false, Value.bool false], Value.int .i64 1]) (by simp [results, Tryz.results8, go_sem]) rfl ⟨rfl, ?_⟩
  repeat' (first | exact Q.refl _ | refine Q.alloc ?_ _ | refine Q.jk ?_ _ | refine Q.drew ?_)
def bldBig (t : TypeId) (parts : Array (Nat × Value)) : Sem Value := Instr.build t parts
@[go_sem ↓ high] theorem bld29 (parts : Array (Nat × Value)) : Instr.build 29 parts = bldBig 29 parts := rfl
@[go_sem] theorem run_bld29 (w : World) : (bldBig 29 #[]).run Tryz.prog w = .ok (Value.agg #[Value.int .i64 0, Value.int .i64 0, Value.int .i64 0, Value.int .i64 0, Value.int .i64 0, Value.int .i64 0, Value.int .i64 0, Value.int .i64 0, Value.int .i64 0, Value.int .i64 0, Value.int .i64 0, Value.int .i64 0, Value.int .i64 0, Value.int .i64 0, Value.int .i64 0, Value.int .i64 0, Value.int .i64 0, Value.int .i64 0, Value.int .i64 0, Value.int .i64 0, Value.int .i64 0, Value.int .i64 0, Value.int .i64 0, Value.int .i64 0, Value.int .i64 0, Value.int .i64 0, Value.int .i64 0, Value.int .i64 0, Value.int .i64 0, Value.int .i64 0, Value.int .i64 0, Value.int .i64 0, Value.int .i64 0, Value.int .i64 0, Value.int .i64 0, Value.int .i64 0, Value.int .i64 0, Value.int .i64 0, Value.int .i64 0, Value.int .i64 0, Value.int .i64 0, Value.int .i64 0, Value.int .i64 0, Value.int .i64 0, Value.int .i64 0, Value.int .i64 0, Value.int .i64 0, Value.int .i64 0]) w := run_build w _ _ _ (by kernel_rfl)
set_option maxRecDepth 100000 in
set_option maxHeartbeats 4000000 in
theorem loops_b1 (u v t x y z : Cy) (r q : Int) (w : World) (HU : Hid (ph3 u v t = false)) :
    Calls Tryz.prog 5 #[Value.agg #[Value.int .i64 u.a, Value.int .i64 u.b, Value.int .i64 u.c, Value.int .i64 u.d, Value.int .i64 v.a, Value.int .i64 v.b, Value.int .i64 v.c, Value.int .i64 v.d, Value.int .i64 t.a, Value.int .i64 t.b, Value.int .i64 t.c, Value.int .i64 t.d], Value.agg #[Value.int .i64 x.a, Value.int .i64 x.b, Value.int .i64 x.c, Value.int .i64 x.d, Value.int .i64 y.a, Value.int .i64 y.b, Value.int .i64 y.c, Value.int .i64 y.d, Value.int .i64 z.a, Value.int .i64 z.b, Value.int .i64 z.c, Value.int .i64 z.d], Value.int .i64 r, Value.int .i64 q] w fun e w' => e = .returned (Value.tuple #[Value.agg #[Value.int .i64 0, Value.int .i64 0, Value.int .i64 0, Value.int .i64 0, Value.int .i64 0, Value.int .i64 0, Value.int .i64 0, Value.int .i64 0, Value.int .i64 0, Value.int .i64 0, Value.int .i64 0, Value.int .i64 0, Value.int .i64 0, Value.int .i64 0, Value.int .i64 0, Value.int .i64 0, Value.int .i64 0, Value.int .i64 0, Value.int .i64 0, Value.int .i64 0, Value.int .i64 0, Value.int .i64 0, Value.int .i64 0, Value.int .i64 0, Value.int .i64 0, Value.int .i64 0, Value.int .i64 0, Value.int .i64 0, Value.int .i64 0, Value.int .i64 0, Value.int .i64 0, Value.int .i64 0, Value.int .i64 0, Value.int .i64 0, Value.int .i64 0, Value.int .i64 0, Value.int .i64 0, Value.int .i64 0, Value.int .i64 0, Value.int .i64 0, Value.int .i64 0, Value.int .i64 0, Value.int .i64 0, Value.int .i64 0, Value.int .i64 0, Value.int .i64 0, Value.int .i64 0, Value.int .i64 0], Value.int .i64 1]) ∧ Q w w' := by
  go_enter Tryz.func5, Tryz.ntmps5
  go_wp2_with ((go_at_call 12; (with_reducible refine (dphases_any u v t _).mono ?_); rintro e w' ⟨rfl, kj, rfl⟩; rw [HU.out]))
  refine bodyPost_ret (v := Value.tuple #[Value.agg #[Value.int .i64 0, Value.int .i64 0, Value.int .i64 0, Value.int .i64 0, Value.int .i64 0, Value.int .i64 0, Value.int .i64 0, Value.int .i64 0, Value.int .i64 0, Value.int .i64 0, Value.int .i64 0, Value.int .i64 0, Value.int .i64 0, Value.int .i64 0, Value.int .i64 0, Value.int .i64 0, Value.int .i64 0, Value.int .i64 0, Value.int .i64 0, Value.int .i64 0, Value.int .i64 0, Value.int .i64 0, Value.int .i64 0, Value.int .i64 0, Value.int .i64 0, Value.int .i64 0, Value.int .i64 0, Value.int .i64 0, Value.int .i64 0, Value.int .i64 0, Value.int .i64 0, Value.int .i64 0, Value.int .i64 0, Value.int .i64 0, Value.int .i64 0, Value.int .i64 0, Value.int .i64 0, Value.int .i64 0, Value.int .i64 0, Value.int .i64 0, Value.int .i64 0, Value.int .i64 0, Value.int .i64 0, Value.int .i64 0, Value.int .i64 0, Value.int .i64 0, Value.int .i64 0, Value.int .i64 0], Value.int .i64 1]) (results_blk2 Tryz.results5 rfl rfl Tryz.underlying29 rfl (by exact info48L)) rfl ⟨rfl, ?_⟩
  repeat' (first | exact Q.refl _ | refine Q.alloc ?_ _ | refine Q.jk ?_ _ | refine Q.drew ?_)
set_option maxRecDepth 100000 in
set_option maxHeartbeats 4000000 in
theorem loops_b2 (u v t x y z : Cy) (r q : Int) (w : World) (HU : Hid (ph3 u v t = true)) (HX : Hid (ph3 x y z = false)) :
    Calls Tryz.prog 5 #[Value.agg #[Value.int .i64 u.a, Value.int .i64 u.b, Value.int .i64 u.c, Value.int .i64 u.d, Value.int .i64 v.a, Value.int .i64 v.b, Value.int .i64 v.c, Value.int .i64 v.d, Value.int .i64 t.a, Value.int .i64 t.b, Value.int .i64 t.c, Value.int .i64 t.d], Value.agg #[Value.int .i64 x.a, Value.int .i64 x.b, Value.int .i64 x.c, Value.int .i64 x.d, Value.int .i64 y.a, Value.int .i64 y.b, Value.int .i64 y.c, Value.int .i64 y.d, Value.int .i64 z.a, Value.int .i64 z.b, Value.int .i64 z.c, Value.int .i64 z.d], Value.int .i64 r, Value.int .i64 q] w fun e w' => e = .returned (Value.tuple #[Value.agg #[Value.int .i64 0, Value.int .i64 0, Value.int .i64 0, Value.int .i64 0, Value.int .i64 0, Value.int .i64 0, Value.int .i64 0, Value.int .i64 0, Value.int .i64 0, Value.int .i64 0, Value.int .i64 0, Value.int .i64 0, Value.int .i64 0, Value.int .i64 0, Value.int .i64 0, Value.int .i64 0, Value.int .i64 0, Value.int .i64 0, Value.int .i64 0, Value.int .i64 0, Value.int .i64 0, Value.int .i64 0, Value.int .i64 0, Value.int .i64 0, Value.int .i64 0, Value.int .i64 0, Value.int .i64 0, Value.int .i64 0, Value.int .i64 0, Value.int .i64 0, Value.int .i64 0, Value.int .i64 0, Value.int .i64 0, Value.int .i64 0, Value.int .i64 0, Value.int .i64 0, Value.int .i64 0, Value.int .i64 0, Value.int .i64 0, Value.int .i64 0, Value.int .i64 0, Value.int .i64 0, Value.int .i64 0, Value.int .i64 0, Value.int .i64 0, Value.int .i64 0, Value.int .i64 0, Value.int .i64 0], Value.int .i64 1]) ∧ Q w w' := by
  go_enter Tryz.func5, Tryz.ntmps5
  go_wp2_with ((first | (go_at_call 12; (with_reducible refine (dphases_any u v t _).mono ?_); rintro e w' ⟨rfl, kj, rfl⟩; rw [HU.out]) | (go_at_call 12; (with_reducible refine (dphases_any x y z _).mono ?_); rintro e w' ⟨rfl, kj, rfl⟩; rw [HX.out])))
  refine bodyPost_ret (v := Value.tuple #[Value.agg #[Value.int .i64 0, Value.int .i64 0, Value.int .i64 0, Value.int .i64 0, Value.int .i64 0, Value.int .i64 0, Value.int .i64 0, Value.int .i64 0, Value.int .i64 0, Value.int .i64 0, Value.int .i64 0, Value.int .i64 0, Value.int .i64 0, Value.int .i64 0, Value.int .i64 0, Value.int .i64 0, Value.int .i64 0, Value.int .i64 0, Value.int .i64 0, Value.int .i64 0, Value.int .i64 0, Value.int .i64 0, Value.int .i64 0, Value.int .i64 0, Value.int .i64 0, Value.int .i64 0, Value.int .i64 0, Value.int .i64 0, Value.int .i64 0, Value.int .i64 0, Value.int .i64 0, Value.int .i64 0, Value.int .i64 0, Value.int .i64 0, Value.int .i64 0, Value.int .i64 0, Value.int .i64 0, Value.int .i64 0, Value.int .i64 0, Value.int .i64 0, Value.int .i64 0, Value.int .i64 0, Value.int .i64 0, Value.int .i64 0, Value.int .i64 0, Value.int .i64 0, Value.int .i64 0, Value.int .i64 0], Value.int .i64 1]) (results_blk2 Tryz.results5 rfl rfl Tryz.underlying29 rfl (by exact info48L)) rfl ⟨rfl, ?_⟩
  repeat' (first | exact Q.refl _ | refine Q.alloc ?_ _ | refine Q.jk ?_ _ | refine Q.drew ?_)
set_option maxRecDepth 100000 in
set_option maxHeartbeats 4000000 in
theorem loops_b3 (u v t x y z : Cy) (r q : Int) (w : World) (HU : Hid (ph3 u v t = true)) (HX : Hid (ph3 x y z = true)) (HR : Hid ((decide (-200 ≤ r) && decide (r ≤ 200)) = false)) :
    Calls Tryz.prog 5 #[Value.agg #[Value.int .i64 u.a, Value.int .i64 u.b, Value.int .i64 u.c, Value.int .i64 u.d, Value.int .i64 v.a, Value.int .i64 v.b, Value.int .i64 v.c, Value.int .i64 v.d, Value.int .i64 t.a, Value.int .i64 t.b, Value.int .i64 t.c, Value.int .i64 t.d], Value.agg #[Value.int .i64 x.a, Value.int .i64 x.b, Value.int .i64 x.c, Value.int .i64 x.d, Value.int .i64 y.a, Value.int .i64 y.b, Value.int .i64 y.c, Value.int .i64 y.d, Value.int .i64 z.a, Value.int .i64 z.b, Value.int .i64 z.c, Value.int .i64 z.d], Value.int .i64 r, Value.int .i64 q] w fun e w' => e = .returned (Value.tuple #[Value.agg #[Value.int .i64 0, Value.int .i64 0, Value.int .i64 0, Value.int .i64 0, Value.int .i64 0, Value.int .i64 0, Value.int .i64 0, Value.int .i64 0, Value.int .i64 0, Value.int .i64 0, Value.int .i64 0, Value.int .i64 0, Value.int .i64 0, Value.int .i64 0, Value.int .i64 0, Value.int .i64 0, Value.int .i64 0, Value.int .i64 0, Value.int .i64 0, Value.int .i64 0, Value.int .i64 0, Value.int .i64 0, Value.int .i64 0, Value.int .i64 0, Value.int .i64 0, Value.int .i64 0, Value.int .i64 0, Value.int .i64 0, Value.int .i64 0, Value.int .i64 0, Value.int .i64 0, Value.int .i64 0, Value.int .i64 0, Value.int .i64 0, Value.int .i64 0, Value.int .i64 0, Value.int .i64 0, Value.int .i64 0, Value.int .i64 0, Value.int .i64 0, Value.int .i64 0, Value.int .i64 0, Value.int .i64 0, Value.int .i64 0, Value.int .i64 0, Value.int .i64 0, Value.int .i64 0, Value.int .i64 0], Value.int .i64 1]) ∧ Q w w' := by
  go_enter Tryz.func5, Tryz.ntmps5
  go_wp2_with ((first | (go_at_call 12; (with_reducible refine (dphases_any u v t _).mono ?_); rintro e w' ⟨rfl, kj, rfl⟩; rw [HU.out]) | (go_at_call 12; (with_reducible refine (dphases_any x y z _).mono ?_); rintro e w' ⟨rfl, kj, rfl⟩; rw [HX.out]) | (go_at_call 13; refine (dbetween_any _ _ _ _).mono ?_; rintro e w' ⟨rfl, rfl⟩; rw [HR.out])))
  refine bodyPost_ret (v := Value.tuple #[Value.agg #[Value.int .i64 0, Value.int .i64 0, Value.int .i64 0, Value.int .i64 0, Value.int .i64 0, Value.int .i64 0, Value.int .i64 0, Value.int .i64 0, Value.int .i64 0, Value.int .i64 0, Value.int .i64 0, Value.int .i64 0, Value.int .i64 0, Value.int .i64 0, Value.int .i64 0, Value.int .i64 0, Value.int .i64 0, Value.int .i64 0, Value.int .i64 0, Value.int .i64 0, Value.int .i64 0, Value.int .i64 0, Value.int .i64 0, Value.int .i64 0, Value.int .i64 0, Value.int .i64 0, Value.int .i64 0, Value.int .i64 0, Value.int .i64 0, Value.int .i64 0, Value.int .i64 0, Value.int .i64 0, Value.int .i64 0, Value.int .i64 0, Value.int .i64 0, Value.int .i64 0, Value.int .i64 0, Value.int .i64 0, Value.int .i64 0, Value.int .i64 0, Value.int .i64 0, Value.int .i64 0, Value.int .i64 0, Value.int .i64 0, Value.int .i64 0, Value.int .i64 0, Value.int .i64 0, Value.int .i64 0], Value.int .i64 1]) (results_blk2 Tryz.results5 rfl rfl Tryz.underlying29 rfl (by exact info48L)) rfl ⟨rfl, ?_⟩
  repeat' (first | exact Q.refl _ | refine Q.alloc ?_ _ | refine Q.jk ?_ _ | refine Q.drew ?_)
set_option maxRecDepth 100000 in
set_option maxHeartbeats 4000000 in
theorem loops_b4 (u v t x y z : Cy) (r q : Int) (w : World) (HU : Hid (ph3 u v t = true)) (HX : Hid (ph3 x y z = true)) (HR : Hid ((decide (-200 ≤ r) && decide (r ≤ 200)) = true)) (HQ : Hid ((decide (-200 ≤ q) && decide (q ≤ 200)) = false)) :
    Calls Tryz.prog 5 #[Value.agg #[Value.int .i64 u.a, Value.int .i64 u.b, Value.int .i64 u.c, Value.int .i64 u.d, Value.int .i64 v.a, Value.int .i64 v.b, Value.int .i64 v.c, Value.int .i64 v.d, Value.int .i64 t.a, Value.int .i64 t.b, Value.int .i64 t.c, Value.int .i64 t.d], Value.agg #[Value.int .i64 x.a, Value.int .i64 x.b, Value.int .i64 x.c, Value.int .i64 x.d, Value.int .i64 y.a, Value.int .i64 y.b, Value.int .i64 y.c, Value.int .i64 y.d, Value.int .i64 z.a, Value.int .i64 z.b, Value.int .i64 z.c, Value.int .i64 z.d], Value.int .i64 r, Value.int .i64 q] w fun e w' => e = .returned (Value.tuple #[Value.agg #[Value.int .i64 0, Value.int .i64 0, Value.int .i64 0, Value.int .i64 0, Value.int .i64 0, Value.int .i64 0, Value.int .i64 0, Value.int .i64 0, Value.int .i64 0, Value.int .i64 0, Value.int .i64 0, Value.int .i64 0, Value.int .i64 0, Value.int .i64 0, Value.int .i64 0, Value.int .i64 0, Value.int .i64 0, Value.int .i64 0, Value.int .i64 0, Value.int .i64 0, Value.int .i64 0, Value.int .i64 0, Value.int .i64 0, Value.int .i64 0, Value.int .i64 0, Value.int .i64 0, Value.int .i64 0, Value.int .i64 0, Value.int .i64 0, Value.int .i64 0, Value.int .i64 0, Value.int .i64 0, Value.int .i64 0, Value.int .i64 0, Value.int .i64 0, Value.int .i64 0, Value.int .i64 0, Value.int .i64 0, Value.int .i64 0, Value.int .i64 0, Value.int .i64 0, Value.int .i64 0, Value.int .i64 0, Value.int .i64 0, Value.int .i64 0, Value.int .i64 0, Value.int .i64 0, Value.int .i64 0], Value.int .i64 1]) ∧ Q w w' := by
  go_enter Tryz.func5, Tryz.ntmps5
  go_wp2_with ((first | (go_at_call 12; (with_reducible refine (dphases_any u v t _).mono ?_); rintro e w' ⟨rfl, kj, rfl⟩; rw [HU.out]) | (go_at_call 12; (with_reducible refine (dphases_any x y z _).mono ?_); rintro e w' ⟨rfl, kj, rfl⟩; rw [HX.out]) | (go_at_call 13; refine (dbetween_any _ _ _ _).mono ?_; rintro e w' ⟨rfl, rfl⟩; first | rw [HR.out] | rw [HQ.out])))
  refine bodyPost_ret (v := Value.tuple #[Value.agg #[Value.int .i64 0, Value.int .i64 0, Value.int .i64 0, Value.int .i64 0, Value.int .i64 0, Value.int .i64 0, Value.int .i64 0, Value.int .i64 0, Value.int .i64 0, Value.int .i64 0, Value.int .i64 0, Value.int .i64 0, Value.int .i64 0, Value.int .i64 0, Value.int .i64 0, Value.int .i64 0, Value.int .i64 0, Value.int .i64 0, Value.int .i64 0, Value.int .i64 0, Value.int .i64 0, Value.int .i64 0, Value.int .i64 0, Value.int .i64 0, Value.int .i64 0, Value.int .i64 0, Value.int .i64 0, Value.int .i64 0, Value.int .i64 0, Value.int .i64 0, Value.int .i64 0, Value.int .i64 0, Value.int .i64 0, Value.int .i64 0, Value.int .i64 0, Value.int .i64 0, Value.int .i64 0, Value.int .i64 0, Value.int .i64 0, Value.int .i64 0, Value.int .i64 0, Value.int .i64 0, Value.int .i64 0, Value.int .i64 0, Value.int .i64 0, Value.int .i64 0, Value.int .i64 0, Value.int .i64 0], Value.int .i64 1]) (results_blk2 Tryz.results5 rfl rfl Tryz.underlying29 rfl (by exact info48L)) rfl ⟨rfl, ?_⟩
  repeat' (first | exact Q.refl _ | refine Q.alloc ?_ _ | refine Q.jk ?_ _ | refine Q.drew ?_)
@[go_sem ↓ high] theorem lv48R (a : Addr) : loadVar 34 a = bigLoad 34 a := rfl
@[go_sem ↓ high] theorem sv48R (a : Addr) (v : Value) : storeVar 34 a v = bigStore 34 a v := rfl
theorem info48R : (Tryz.prog.info? 34).map (·.size) = some 48 := by kernel_rfl
@[go_sem] theorem run_load48R {w : World} {n : Nat} {cs : Array Value} {t : TypeId} {fr : Nat × Nat} [h : Blk w n (Obj.cells cs t fr)] (hs : cs.size = 48) :
    (bigLoad 34 ⟨n, 0, none⟩).run Tryz.prog w = .ok (Value.agg cs) w := run_bigLoad Tryz.underlying34 rfl (by rw [hs]; exact info48R)
@[go_sem] theorem run_store48R {w : World} {n : Nat} {cs cs' : Array Value} {t : TypeId} [h : Blk w n (Obj.cells cs t (0, 0))] (hs : cs.size = 48) (hs' : cs'.size = 48) [h1 : Ones cs'] :
    (bigStore 34 ⟨n, 0, none⟩ (Value.agg cs')).run Tryz.prog w = .ok () (w.setBlk n (Obj.cells cs' t)) := run_bigStore (by rw [hs']; exact info48R) (by rw [hs, hs'])
set_option maxRecDepth 100000 in
set_option maxHeartbeats 4000000 in
theorem rloops_b1 (u v t x y z : Cy) (r q : Int) (w : World) (HU : Hid (ph3 u v t = false)) :
    Calls Tryz.prog 6 #[Value.agg #[Value.int .i64 u.a, Value.int .i64 u.b, Value.int .i64 u.c, Value.int .i64 u.d, Value.int .i64 v.a, Value.int .i64 v.b, Value.int .i64 v.c, Value.int .i64 v.d, Value.int .i64 t.a, Value.int .i64 t.b, Value.int .i64 t.c, Value.int .i64 t.d], Value.agg #[Value.int .i64 x.a, Value.int .i64 x.b, Value.int .i64 x.c, Value.int .i64 x.d, Value.int .i64 y.a, Value.int .i64 y.b, Value.int .i64 y.c, Value.int .i64 y.d, Value.int .i64 z.a, Value.int .i64 z.b, Value.int .i64 z.c, Value.int .i64 z.d], Value.int .i64 r, Value.int .i64 q] w fun e w' => e = .returned (Value.tuple #[Value.agg #[Value.int .i64 0, Value.int .i64 0, Value.int .i64 0, Value.int .i64 0, Value.int .i64 0, Value.int .i64 0, Value.int .i64 0, Value.int .i64 0, Value.int .i64 0, Value.int .i64 0, Value.int .i64 0, Value.int .i64 0, Value.int .i64 0, Value.int .i64 0, Value.int .i64 0, Value.int .i64 0, Value.int .i64 0, Value.int .i64 0, Value.int .i64 0, Value.int .i64 0, Value.int .i64 0, Value.int .i64 0, Value.int .i64 0, Value.int .i64 0, Value.int .i64 0, Value.int .i64 0, Value.int .i64 0, Value.int .i64 0, Value.int .i64 0, Value.int .i64 0, Value.int .i64 0, Value.int .i64 0, Value.int .i64 0, Value.int .i64 0, Value.int .i64 0, Value.int .i64 0, Value.int .i64 0, Value.int .i64 0, Value.int .i64 0, Value.int .i64 0, Value.int .i64 0, Value.int .i64 0, Value.int .i64 0, Value.int .i64 0, Value.int .i64 0, Value.int .i64 0, Value.int .i64 0, Value.int .i64 0], Value.int .i64 1]) ∧ Q w w' := by
  go_enter Tryz.func6, Tryz.ntmps6
  go_wp2_with ((go_at_call 18; (with_reducible refine (rfine22_any u v t _).mono ?_); rintro e w' ⟨rfl, kj, rfl⟩; rw [HU.out]))
  refine bodyPost_ret (v := Value.tuple #[Value.agg #[Value.int .i64 0, Value.int .i64 0, Value.int .i64 0, Value.int .i64 0, Value.int .i64 0, Value.int .i64 0, Value.int .i64 0, Value.int .i64 0, Value.int .i64 0, Value.int .i64 0, Value.int .i64 0, Value.int .i64 0, Value.int .i64 0, Value.int .i64 0, Value.int .i64 0, Value.int .i64 0, Value.int .i64 0, Value.int .i64 0, Value.int .i64 0, Value.int .i64 0, Value.int .i64 0, Value.int .i64 0, Value.int .i64 0, Value.int .i64 0, Value.int .i64 0, Value.int .i64 0, Value.int .i64 0, Value.int .i64 0, Value.int .i64 0, Value.int .i64 0, Value.int .i64 0, Value.int .i64 0, Value.int .i64 0, Value.int .i64 0, Value.int .i64 0, Value.int .i64 0, Value.int .i64 0, Value.int .i64 0, Value.int .i64 0, Value.int .i64 0, Value.int .i64 0, Value.int .i64 0, Value.int .i64 0, Value.int .i64 0, Value.int .i64 0, Value.int .i64 0, Value.int .i64 0, Value.int .i64 0], Value.int .i64 1]) (results_blk2 Tryz.results6 rfl rfl Tryz.underlying34 rfl (by exact info48R)) rfl ⟨rfl, ?_⟩
  repeat' (first | exact Q.refl _ | refine Q.alloc ?_ _ | refine Q.jk ?_ _ | refine Q.drew ?_)
set_option maxRecDepth 100000 in
set_option maxHeartbeats 4000000 in
theorem rloops_b2 (u v t x y z : Cy) (r q : Int) (w : World) (HU : Hid (ph3 u v t = true)) (HX : Hid (ph3 x y z = false)) :
    Calls Tryz.prog 6 #[Value.agg #[Value.int .i64 u.a, Value.int .i64 u.b, Value.int .i64 u.c, Value.int .i64 u.d, Value.int .i64 v.a, Value.int .i64 v.b, Value.int .i64 v.c, Value.int .i64 v.d, Value.int .i64 t.a, Value.int .i64 t.b, Value.int .i64 t.c, Value.int .i64 t.d], Value.agg #[Value.int .i64 x.a, Value.int .i64 x.b, Value.int .i64 x.c, Value.int .i64 x.d, Value.int .i64 y.a, Value.int .i64 y.b, Value.int .i64 y.c, Value.int .i64 y.d, Value.int .i64 z.a, Value.int .i64 z.b, Value.int .i64 z.c, Value.int .i64 z.d], Value.int .i64 r, Value.int .i64 q] w fun e w' => e = .returned (Value.tuple #[Value.agg #[Value.int .i64 0, Value.int .i64 0, Value.int .i64 0, Value.int .i64 0, Value.int .i64 0, Value.int .i64 0, Value.int .i64 0, Value.int .i64 0, Value.int .i64 0, Value.int .i64 0, Value.int .i64 0, Value.int .i64 0, Value.int .i64 0, Value.int .i64 0, Value.int .i64 0, Value.int .i64 0, Value.int .i64 0, Value.int .i64 0, Value.int .i64 0, Value.int .i64 0, Value.int .i64 0, Value.int .i64 0, Value.int .i64 0, Value.int .i64 0, Value.int .i64 0, Value.int .i64 0, Value.int .i64 0, Value.int .i64 0, Value.int .i64 0, Value.int .i64 0, Value.int .i64 0, Value.int .i64 0, Value.int .i64 0, Value.int .i64 0, Value.int .i64 0, Value.int .i64 0, Value.int .i64 0, Value.int .i64 0, Value.int .i64 0, Value.int .i64 0, Value.int .i64 0, Value.int .i64 0, Value.int .i64 0, Value.int .i64 0, Value.int .i64 0, Value.int .i64 0, Value.int .i64 0, Value.int .i64 0], Value.int .i64 1]) ∧ Q w w' := by
  go_enter Tryz.func6, Tryz.ntmps6
  go_wp2_with ((first | (go_at_call 18; (with_reducible refine (rfine22_any u v t _).mono ?_); rintro e w' ⟨rfl, kj, rfl⟩; rw [HU.out]) | (go_at_call 18; (with_reducible refine (rfine22_any x y z _).mono ?_); rintro e w' ⟨rfl, kj, rfl⟩; rw [HX.out])))
  refine bodyPost_ret (v := Value.tuple #[Value.agg #[Value.int .i64 0, Value.int .i64 0, Value.int .i64 0, Value.int .i64 0, Value.int .i64 0, Value.int .i64 0, Value.int .i64 0, Value.int .i64 0, Value.int .i64 0, Value.int .i64 0, Value.int .i64 0, Value.int .i64 0, Value.int .i64 0, Value.int .i64 0, Value.int .i64 0, Value.int .i64 0, Value.int .i64 0, Value.int .i64 0, Value.int .i64 0, Value.int .i64 0, Value.int .i64 0, Value.int .i64 0, Value.int .i64 0, Value.int .i64 0, Value.int .i64 0, Value.int .i64 0, Value.int .i64 0, Value.int .i64 0, Value.int .i64 0, Value.int .i64 0, Value.int .i64 0, Value.int .i64 0, Value.int .i64 0, Value.int .i64 0, Value.int .i64 0, Value.int .i64 0, Value.int .i64 0, Value.int .i64 0, Value.int .i64 0, Value.int .i64 0, Value.int .i64 0, Value.int .i64 0, Value.int .i64 0, Value.int .i64 0, Value.int .i64 0, Value.int .i64 0, Value.int .i64 0, Value.int .i64 0], Value.int .i64 1]) (results_blk2 Tryz.results6 rfl rfl Tryz.underlying34 rfl (by exact info48R)) rfl ⟨rfl, ?_⟩
  repeat' (first | exact Q.refl _ | refine Q.alloc ?_ _ | refine Q.jk ?_ _ | refine Q.drew ?_)
set_option maxRecDepth 100000 in
set_option maxHeartbeats 4000000 in
theorem rloops_b3 (u v t x y z : Cy) (r q : Int) (w : World) (HU : Hid (ph3 u v t = true)) (HX : Hid (ph3 x y z = true)) (h : r < -200) :
    Calls Tryz.prog 6 #[Value.agg #[Value.int .i64 u.a, Value.int .i64 u.b, Value.int .i64 u.c, Value.int .i64 u.d, Value.int .i64 v.a, Value.int .i64 v.b, Value.int .i64 v.c, Value.int .i64 v.d, Value.int .i64 t.a, Value.int .i64 t.b, Value.int .i64 t.c, Value.int .i64 t.d], Value.agg #[Value.int .i64 x.a, Value.int .i64 x.b, Value.int .i64 x.c, Value.int .i64 x.d, Value.int .i64 y.a, Value.int .i64 y.b, Value.int .i64 y.c, Value.int .i64 y.d, Value.int .i64 z.a, Value.int .i64 z.b, Value.int .i64 z.c, Value.int .i64 z.d], Value.int .i64 r, Value.int .i64 q] w fun e w' => e = .returned (Value.tuple #[Value.agg #[Value.int .i64 0, Value.int .i64 0, Value.int .i64 0, Value.int .i64 0, Value.int .i64 0, Value.int .i64 0, Value.int .i64 0, Value.int .i64 0, Value.int .i64 0, Value.int .i64 0, Value.int .i64 0, Value.int .i64 0, Value.int .i64 0, Value.int .i64 0, Value.int .i64 0, Value.int .i64 0, Value.int .i64 0, Value.int .i64 0, Value.int .i64 0, Value.int .i64 0, Value.int .i64 0, Value.int .i64 0, Value.int .i64 0, Value.int .i64 0, Value.int .i64 0, Value.int .i64 0, Value.int .i64 0, Value.int .i64 0, Value.int .i64 0, Value.int .i64 0, Value.int .i64 0, Value.int .i64 0, Value.int .i64 0, Value.int .i64 0, Value.int .i64 0, Value.int .i64 0, Value.int .i64 0, Value.int .i64 0, Value.int .i64 0, Value.int .i64 0, Value.int .i64 0, Value.int .i64 0, Value.int .i64 0, Value.int .i64 0, Value.int .i64 0, Value.int .i64 0, Value.int .i64 0, Value.int .i64 0], Value.int .i64 1]) ∧ Q w w' := by
  go_enter Tryz.func6, Tryz.ntmps6
  go_wp2_with ((first | (go_at_call 18; (with_reducible refine (rfine22_any u v t _).mono ?_); rintro e w' ⟨rfl, kj, rfl⟩; rw [HU.out]) | (go_at_call 18; (with_reducible refine (rfine22_any x y z _).mono ?_); rintro e w' ⟨rfl, kj, rfl⟩; rw [HX.out])))
  refine bodyPost_ret (v := Value.tuple #[Value.agg #[Value.int .i64 0, Value.int .i64 0, Value.int .i64 0, Value.int .i64 0, Value.int .i64 0, Value.int .i64 0, Value.int .i64 0, Value.int .i64 0, Value.int .i64 0, Value.int .i64 0, Value.int .i64 0, Value.int .i64 0, Value.int .i64 0, Value.int .i64 0, Value.int .i64 0, Value.int .i64 0, Value.int .i64 0, Value.int .i64 0, Value.int .i64 0, Value.int .i64 0, Value.int .i64 0, Value.int .i64 0, Value.int .i64 0, Value.int .i64 0, Value.int .i64 0, Value.int .i64 0, Value.int .i64 0, Value.int .i64 0, Value.int .i64 0, Value.int .i64 0, Value.int .i64 0, Value.int .i64 0, Value.int .i64 0, Value.int .i64 0, Value.int .i64 0, Value.int .i64 0, Value.int .i64 0, Value.int .i64 0, Value.int .i64 0, Value.int .i64 0, Value.int .i64 0, Value.int .i64 0, Value.int .i64 0, Value.int .i64 0, Value.int .i64 0, Value.int .i64 0, Value.int .i64 0, Value.int .i64 0], Value.int .i64 1]) (results_blk2 Tryz.results6 rfl rfl Tryz.underlying34 rfl (by exact info48R)) rfl ⟨rfl, ?_⟩
  repeat' (first | exact Q.refl _ | refine Q.alloc ?_ _ | refine Q.jk ?_ _ | refine Q.drew ?_)
set_option maxRecDepth 100000 in
set_option maxHeartbeats 4000000 in
theorem rloops_b4 (u v t x y z : Cy) (r q : Int) (w : World) (HU : Hid (ph3 u v t = true)) (HX : Hid (ph3 x y z = true)) (h : 200 < r) :
    Calls Tryz.prog 6 #[Value.agg #[Value.int .i64 u.a, Value.int .i64 u.b, Value.int .i64 u.c, Value.int .i64 u.d, Value.int .i64 v.a, Value.int .i64 v.b, Value.int .i64 v.c, Value.int .i64 v.d, Value.int .i64 t.a, Value.int .i64 t.b, Value.int .i64 t.c, Value.int .i64 t.d], Value.agg #[Value.int .i64 x.a, Value.int .i64 x.b, Value.int .i64 x.c, Value.int .i64 x.d, Value.int .i64 y.a, Value.int .i64 y.b, Value.int .i64 y.c, Value.int .i64 y.d, Value.int .i64 z.a, Value.int .i64 z.b, Value.int .i64 z.c, Value.int .i64 z.d], Value.int .i64 r, Value.int .i64 q] w fun e w' => e = .returned (Value.tuple #[Value.agg #[Value.int .i64 0, Value.int .i64 0, Value.int .i64 0, Value.int .i64 0, Value.int .i64 0, Value.int .i64 0, Value.int .i64 0, Value.int .i64 0, Value.int .i64 0, Value.int .i64 0, Value.int .i64 0, Value.int .i64 0, Value.int .i64 0, Value.int .i64 0, Value.int .i64 0, Value.int .i64 0, Value.int .i64 0, Value.int .i64 0, Value.int .i64 0, Value.int .i64 0, Value.int .i64 0, Value.int .i64 0, Value.int .i64 0, Value.int .i64 0, Value.int .i64 0, Value.int .i64 0, Value.int .i64 0, Value.int .i64 0, Value.int .i64 0, Value.int .i64 0, Value.int .i64 0, Value.int .i64 0, Value.int .i64 0, Value.int .i64 0, Value.int .i64 0, Value.int .i64 0, Value.int .i64 0, Value.int .i64 0, Value.int .i64 0, Value.int .i64 0, Value.int .i64 0, Value.int .i64 0, Value.int .i64 0, Value.int .i64 0, Value.int .i64 0, Value.int .i64 0, Value.int .i64 0, Value.int .i64 0], Value.int .i64 1]) ∧ Q w w' := by
  have h1 : -200 ≤ r := by omega
  go_enter Tryz.func6, Tryz.ntmps6
  go_wp2_with ((first | (go_at_call 18; (with_reducible refine (rfine22_any u v t _).mono ?_); rintro e w' ⟨rfl, kj, rfl⟩; rw [HU.out]) | (go_at_call 18; (with_reducible refine (rfine22_any x y z _).mono ?_); rintro e w' ⟨rfl, kj, rfl⟩; rw [HX.out])))
  refine bodyPost_ret (v := Value.tuple #[Value.agg #[Value.int .i64 0, Value.int .i64 0, Value.int .i64 0, Value.int .i64 0, Value.int .i64 0, Value.int .i64 0, Value.int .i64 0, Value.int .i64 0, Value.int .i64 0, Value.int .i64 0, Value.int .i64 0, Value.int .i64 0, Value.int .i64 0, Value.int .i64 0, Value.int .i64 0, Value.int .i64 0, Value.int .i64 0, Value.int .i64 0, Value.int .i64 0, Value.int .i64 0, Value.int .i64 0, Value.int .i64 0, Value.int .i64 0, Value.int .i64 0, Value.int .i64 0, Value.int .i64 0, Value.int .i64 0, Value.int .i64 0, Value.int .i64 0, Value.int .i64 0, Value.int .i64 0, Value.int .i64 0, Value.int .i64 0, Value.int .i64 0, Value.int .i64 0, Value.int .i64 0, Value.int .i64 0, Value.int .i64 0, Value.int .i64 0, Value.int .i64 0, Value.int .i64 0, Value.int .i64 0, Value.int .i64 0, Value.int .i64 0, Value.int .i64 0, Value.int .i64 0, Value.int .i64 0, Value.int .i64 0], Value.int .i64 1]) (results_blk2 Tryz.results6 rfl rfl Tryz.underlying34 rfl (by exact info48R)) rfl ⟨rfl, ?_⟩
  repeat' (first | exact Q.refl _ | refine Q.alloc ?_ _ | refine Q.jk ?_ _ | refine Q.drew ?_)
set_option maxRecDepth 100000 in
set_option maxHeartbeats 4000000 in
theorem rloops_b5 (u v t x y z : Cy) (r q : Int) (w : World) (HU : Hid (ph3 u v t = true)) (HX : Hid (ph3 x y z = true)) (r0 : -200 ≤ r) (r1 : r ≤ 200) (h : q < -200) :
    Calls Tryz.prog 6 #[Value.agg #[Value.int .i64 u.a, Value.int .i64 u.b, Value.int .i64 u.c, Value.int .i64 u.d, Value.int .i64 v.a, Value.int .i64 v.b, Value.int .i64 v.c, Value.int .i64 v.d, Value.int .i64 t.a, Value.int .i64 t.b, Value.int .i64 t.c, Value.int .i64 t.d], Value.agg #[Value.int .i64 x.a, Value.int .i64 x.b, Value.int .i64 x.c, Value.int .i64 x.d, Value.int .i64 y.a, Value.int .i64 y.b, Value.int .i64 y.c, Value.int .i64 y.d, Value.int .i64 z.a, Value.int .i64 z.b, Value.int .i64 z.c, Value.int .i64 z.d], Value.int .i64 r, Value.int .i64 q] w fun e w' => e = .returned (Value.tuple #[Value.agg #[Value.int .i64 0, Value.int .i64 0, Value.int .i64 0, Value.int .i64 0, Value.int .i64 0, Value.int .i64 0, Value.int .i64 0, Value.int .i64 0, Value.int .i64 0, Value.int .i64 0, Value.int .i64 0, Value.int .i64 0, Value.int .i64 0, Value.int .i64 0, Value.int .i64 0, Value.int .i64 0, Value.int .i64 0, Value.int .i64 0, Value.int .i64 0, Value.int .i64 0, Value.int .i64 0, Value.int .i64 0, Value.int .i64 0, Value.int .i64 0, Value.int .i64 0, Value.int .i64 0, Value.int .i64 0, Value.int .i64 0, Value.int .i64 0, Value.int .i64 0, Value.int .i64 0, Value.int .i64 0, Value.int .i64 0, Value.int .i64 0, Value.int .i64 0, Value.int .i64 0, Value.int .i64 0, Value.int .i64 0, Value.int .i64 0, Value.int .i64 0, Value.int .i64 0, Value.int .i64 0, Value.int .i64 0, Value.int .i64 0, Value.int .i64 0, Value.int .i64 0, Value.int .i64 0, Value.int .i64 0], Value.int .i64 1]) ∧ Q w w' := by
  go_enter Tryz.func6, Tryz.ntmps6
  go_wp2_with ((first | (go_at_call 18; (with_reducible refine (rfine22_any u v t _).mono ?_); rintro e w' ⟨rfl, kj, rfl⟩; rw [HU.out]) | (go_at_call 18; (with_reducible refine (rfine22_any x y z _).mono ?_); rintro e w' ⟨rfl, kj, rfl⟩; rw [HX.out])))
  refine bodyPost_ret (v := Value.tuple #[Value.agg #[Value.int .i64 0, Value.int .i64 0, Value.int .i64 0, Value.int .i64 0, Value.int .i64 0, Value.int .i64 0, Value.int .i64 0, Value.int .i64 0, Value.int .i64 0, Value.int .i64 0, Value.int .i64 0, Value.int .i64 0, Value.int .i64 0, Value.int .i64 0, Value.int .i64 0, Value.int .i64 0, Value.int .i64 0, Value.int .i64 0, Value.int .i64 0, Value.int .i64 0, Value.int .i64 0, Value.int .i64 0, Value.int .i64 0, Value.int .i64 0, Value.int .i64 0, Value.int .i64 0, Value.int .i64 0, Value.int .i64 0, Value.int .i64 0, Value.int .i64 0, Value.int .i64 0, Value.int .i64 0, Value.int .i64 0, Value.int .i64 0, Value.int .i64 0, Value.int .i64 0, Value.int .i64 0, Value.int .i64 0, Value.int .i64 0, Value.int .i64 0, Value.int .i64 0, Value.int .i64 0, Value.int .i64 0, Value.int .i64 0, Value.int .i64 0, Value.int .i64 0, Value.int .i64 0, Value.int .i64 0], Value.int .i64 1]) (results_blk2 Tryz.results6 rfl rfl Tryz.underlying34 rfl (by exact info48R)) rfl ⟨rfl, ?_⟩
  repeat' (first | exact Q.refl _ | refine Q.alloc ?_ _ | refine Q.jk ?_ _ | refine Q.drew ?_)
set_option maxRecDepth 100000 in
set_option maxHeartbeats 4000000 in
theorem rloops_b6 (u v t x y z : Cy) (r q : Int) (w : World) (HU : Hid (ph3 u v t = true)) (HX : Hid (ph3 x y z = true)) (r0 : -200 ≤ r) (r1 : r ≤ 200) (h : 200 < q) :
    Calls Tryz.prog 6 #[Value.agg #[Value.int .i64 u.a, Value.int .i64 u.b, Value.int .i64 u.c, Value.int .i64 u.d, Value.int .i64 v.a, Value.int .i64 v.b, Value.int .i64 v.c, Value.int .i64 v.d, Value.int .i64 t.a, Value.int .i64 t.b, Value.int .i64 t.c, Value.int .i64 t.d], Value.agg #[Value.int .i64 x.a, Value.int .i64 x.b, Value.int .i64 x.c, Value.int .i64 x.d, Value.int .i64 y.a, Value.int .i64 y.b, Value.int .i64 y.c, Value.int .i64 y.d, Value.int .i64 z.a, Value.int .i64 z.b, Value.int .i64 z.c, Value.int .i64 z.d], Value.int .i64 r, Value.int .i64 q] w fun e w' => e = .returned (Value.tuple #[Value.agg #[Value.int .i64 0, Value.int .i64 0, Value.int .i64 0, Value.int .i64 0, Value.int .i64 0, Value.int .i64 0, Value.int .i64 0, Value.int .i64 0, Value.int .i64 0, Value.int .i64 0, Value.int .i64 0, Value.int .i64 0, Value.int .i64 0, Value.int .i64 0, Value.int .i64 0, Value.int .i64 0, Value.int .i64 0, Value.int .i64 0, Value.int .i64 0, Value.int .i64 0, Value.int .i64 0, Value.int .i64 0, Value.int .i64 0, Value.int .i64 0, Value.int .i64 0, Value.int .i64 0, Value.int .i64 0, Value.int .i64 0, Value.int .i64 0, Value.int .i64 0, Value.int .i64 0, Value.int .i64 0, Value.int .i64 0, Value.int .i64 0, Value.int .i64 0, Value.int .i64 0, Value.int .i64 0, Value.int .i64 0, Value.int .i64 0, Value.int .i64 0, Value.int .i64 0, Value.int .i64 0, Value.int .i64 0, Value.int .i64 0, Value.int .i64 0, Value.int .i64 0, Value.int .i64 0, Value.int .i64 0], Value.int .i64 1]) ∧ Q w w' := by
  have h1 : -200 ≤ q := by omega
  go_enter Tryz.func6, Tryz.ntmps6
  go_wp2_with ((first | (go_at_call 18; (with_reducible refine (rfine22_any u v t _).mono ?_); rintro e w' ⟨rfl, kj, rfl⟩; rw [HU.out]) | (go_at_call 18; (with_reducible refine (rfine22_any x y z _).mono ?_); rintro e w' ⟨rfl, kj, rfl⟩; rw [HX.out])))
  refine bodyPost_ret (v := Value.tuple #[Value.agg #[Value.int .i64 0, Value.int .i64 0, Value.int .i64 0, Value.int .i64 0, Value.int .i64 0, Value.int .i64 0, Value.int .i64 0, Value.int .i64 0, Value.int .i64 0, Value.int .i64 0, Value.int .i64 0, Value.int .i64 0, Value.int .i64 0, Value.int .i64 0, Value.int .i64 0, Value.int .i64 0, Value.int .i64 0, Value.int .i64 0, Value.int .i64 0, Value.int .i64 0, Value.int .i64 0, Value.int .i64 0, Value.int .i64 0, Value.int .i64 0, Value.int .i64 0, Value.int .i64 0, Value.int .i64 0, Value.int .i64 0, Value.int .i64 0, Value.int .i64 0, Value.int .i64 0, Value.int .i64 0, Value.int .i64 0, Value.int .i64 0, Value.int .i64 0, Value.int .i64 0, Value.int .i64 0, Value.int .i64 0, Value.int .i64 0, Value.int .i64 0, Value.int .i64 0, Value.int .i64 0, Value.int .i64 0, Value.int .i64 0, Value.int .i64 0, Value.int .i64 0, Value.int .i64 0, Value.int .i64 0], Value.int .i64 1]) (results_blk2 Tryz.results6 rfl rfl Tryz.underlying34 rfl (by exact info48R)) rfl ⟨rfl, ?_⟩
  repeat' (first | exact Q.refl _ | refine Q.alloc ?_ _ | refine Q.jk ?_ _ | refine Q.drew ?_)
end Go.Proofs.YtomodppdolfinaaGreat
/- What Loops of package substationref22 returns for arguments in their range. -/
set_option linter.unusedVariables false
set_option linter.unusedSimpArgs false
namespace Go.Proofs.YtomodppdolfinaaGreat
open Go.RowKit Go.Sub
set_option maxRecDepth 100000 in
set_option maxHeartbeats 8000000 in
theorem rloops_c (u v t x y z : Cy) (r q : Int) (w : World) (hu : u.In 65536) (hv : v.In 65536) (ht : t.In 65536) (hx : x.In 65536) (hy : y.In 65536) (hz : z.In 65536) (r0 : -200 ≤ r) (r1 : r ≤ 200) (q0 : -200 ≤ q) (q1 : q ≤ 200) :
    Calls Tryz.prog 6 #[Value.agg #[Value.int .i64 u.a, Value.int .i64 u.b, Value.int .i64 u.c, Value.int .i64 u.d, Value.int .i64 v.a, Value.int .i64 v.b, Value.int .i64 v.c, Value.int .i64 v.d, Value.int .i64 t.a, Value.int .i64 t.b, Value.int .i64 t.c, Value.int .i64 t.d], Value.agg #[Value.int .i64 x.a, Value.int .i64 x.b, Value.int .i64 x.c, Value.int .i64 x.d, Value.int .i64 y.a, Value.int .i64 y.b, Value.int .i64 y.c, Value.int .i64 y.d, Value.int .i64 z.a, Value.int .i64 z.b, Value.int .i64 z.c, Value.int .i64 z.d], Value.int .i64 r, Value.int .i64 q] w fun e w' => e = .returned (Value.tuple #[Value.agg (c48L (loopV u v t) (loopI x y z r q) 6), Value.int .i64 0]) ∧ Q w w' := by
  have HU : Hid (ph3 u v t = true) := Lib.hid ((ph3_iff _ _ _).2 ⟨hu, hv, ht⟩)
  have HX : Hid (ph3 x y z = true) := Lib.hid ((ph3_iff _ _ _).2 ⟨hx, hy, hz⟩)
  have hs2 : (x.add y).In 131072 := Cy.add_in hx hy
  have hs3 : ((x.add y).add z).In 196608 := Cy.add_in hs2 hz
  have hs4 : (((x.add y).add z).turn 3).In 393216 := turn_in 3 hs3
  have hs5 : (((x.add y).add z).sc r).In 39321600 := sc_in (m := 200) hs3 r0 r1
  have hs6 : ((((x.add y).add z).turn 3).sc q).In 78643200 := sc_in (m := 200) hs4 q0 q1
  have he := ext_in hx hy hz r0 r1 q0 q1
  have HV := Lib.hid (fun n => six_in hu hv ht n)
  have HI := Lib.hid (fun n => six_in hx hy hz n)
  obtain ⟨E, hE⟩ : ∃ E, E = extC x y z r q := ⟨_, rfl⟩
  have HE : Hid ((((x.add y).add z).sc r).add ((((x.add y).add z).turn 3).sc q) = E) := Lib.hid ((ext_ref x y z r q).symm.trans hE.symm)
  rw [← hE] at he
  have HE2 := Lib.hid hE
  clear hE
  go_enter Tryz.func6, Tryz.ntmps6
  go_wp2_with (first | (go_at_call 18; (with_reducible refine (rfine22_any u v t _).mono ?_); rintro e w' ⟨rfl, kA, rfl⟩; rw [HU.out]) | (go_at_call 18; (with_reducible refine (rfine22_any x y z _).mono ?_); rintro e w' ⟨rfl, kB, rfl⟩; rw [HX.out]))
  try simp only [List.append]
  refine wp_region_al1 9 8 11 (Obj.cells #[Value.int .i64 0, Value.int .i64 0, Value.int .i64 0, Value.int .i64 0] 23) Tryz.func0 rfl (by kernel_rfl) (by kernel_rfl) (by kernel_rfl) (by kernel_rfl) (by kernel_rfl) (by intro op hop a w; simp at hop; subst hop; simp [go_sem]) ?_
  intro k0
  simp only [List.map_cons, List.map_nil, unal, List.take_succ_cons, List.take_zero, List.drop_succ_cons, List.drop_zero]
  repeat (go_big_quiet_step ((go_at_call 19; exact Calls.jk_of (rplus_c _ _ _ (Cy.In.mono (by with_reducible assumption) (by decide)) (Cy.In.mono (by with_reducible assumption) (by decide))))))
  refine wpQuiet_nil ?_
  intro kS1 kS2 _
  simp only [Act.put, List.setIfInBounds_toArray, List.set_cons_succ, List.set_cons_zero]
  go_wp2_with (go_at_call 20; refine (rturn22_c ((x.add y).add z) 3 _ (hs3.mono (by decide))).mono ?_; rintro e w' ⟨rfl, kT, rfl⟩)
  try simp only [List.append]
  refine wp_region_al1 8 7 14 (Obj.cells #[Value.int .i64 0, Value.int .i64 0, Value.int .i64 0, Value.int .i64 0] 23) Tryz.func0 rfl (by kernel_rfl) (by kernel_rfl) (by kernel_rfl) (by kernel_rfl) (by kernel_rfl) (by intro op hop a w; simp at hop; subst hop; simp [go_sem]) ?_
  intro k0
  simp only [List.map_cons, List.map_nil, unal, List.take_succ_cons, List.take_zero, List.drop_succ_cons, List.drop_zero]
  repeat (go_big_quiet_step ((first | (go_at_call 19; exact Calls.jk_of (rplus_c _ _ _ (Cy.In.mono (by with_reducible assumption) (by decide)) (Cy.In.mono (by with_reducible assumption) (by decide)))) | (go_at_call 21; first | ((with_reducible show Calls _ _ #[_, Value.int .i64 r] _ _); exact Calls.jk_of (rtimes_c ((x.add y).add z) r 196608 200 _ hs3 r0 r1 (by decide) (by decide) (by decide))) | ((with_reducible show Calls _ _ #[_, Value.int .i64 q] _ _); exact Calls.jk_of (rtimes_c (((x.add y).add z).turn 3) q 393216 200 _ hs4 q0 q1 (by decide) (by decide) (by decide)))))))
  refine wpQuiet_nil ?_
  intro kE1 kE2 _
  simp only [Act.put, List.setIfInBounds_toArray, List.set_cons_succ, List.set_cons_zero]
  rw [HE.out]
  simp only [World.size_jk, World.size_alloc]
  go_wp2_with fail
  go_loopw [15] (fun i wr => ∃ k : Nat, k ≤ 6 ∧ i = Value.int .i64 k ∧ Q ((((((((((((((w.alloc (Obj.cells #[Value.int .i64 u.a, Value.int .i64 u.b, Value.int .i64 u.c, Value.int .i64 u.d, Value.int .i64 v.a, Value.int .i64 v.b, Value.int .i64 v.c, Value.int .i64 v.d, Value.int .i64 t.a, Value.int .i64 t.b, Value.int .i64 t.c, Value.int .i64 t.d] 24)).alloc (Obj.cells #[Value.int .i64 x.a, Value.int .i64 x.b, Value.int .i64 x.c, Value.int .i64 x.d, Value.int .i64 y.a, Value.int .i64 y.b, Value.int .i64 y.c, Value.int .i64 y.d, Value.int .i64 z.a, Value.int .i64 z.b, Value.int .i64 z.c, Value.int .i64 z.d] 24)).alloc (Obj.cells #[Value.int .i64 0, Value.int .i64 0, Value.int .i64 0, Value.int .i64 0, Value.int .i64 0, Value.int .i64 0, Value.int .i64 0, Value.int .i64 0, Value.int .i64 0, Value.int .i64 0, Value.int .i64 0, Value.int .i64 0, Value.int .i64 0, Value.int .i64 0, Value.int .i64 0, Value.int .i64 0, Value.int .i64 0, Value.int .i64 0, Value.int .i64 0, Value.int .i64 0, Value.int .i64 0, Value.int .i64 0, Value.int .i64 0, Value.int .i64 0, Value.int .i64 0, Value.int .i64 0, Value.int .i64 0, Value.int .i64 0, Value.int .i64 0, Value.int .i64 0, Value.int .i64 0, Value.int .i64 0, Value.int .i64 0, Value.int .i64 0, Value.int .i64 0, Value.int .i64 0, Value.int .i64 0, Value.int .i64 0, Value.int .i64 0, Value.int .i64 0, Value.int .i64 0, Value.int .i64 0, Value.int .i64 0, Value.int .i64 0, Value.int .i64 0, Value.int .i64 0, Value.int .i64 0, Value.int .i64 0] 34)).alloc (Obj.cells (c48L (loopV u v t) (loopI x y z r q) k) 34)).jk kA).jk kB).jk kS1).alloc (Obj.cells #[Value.int .i64 ((x.add y).add z).a, Value.int .i64 ((x.add y).add z).b, Value.int .i64 ((x.add y).add z).c, Value.int .i64 ((x.add y).add z).d] 23)).jk kS2).jk kT).alloc (Obj.cells #[Value.int .i64 (((x.add y).add z).turn 3).a, Value.int .i64 (((x.add y).add z).turn 3).b, Value.int .i64 (((x.add y).add z).turn 3).c, Value.int .i64 (((x.add y).add z).turn 3).d] 23)).jk kE1).alloc (Obj.cells #[Value.int .i64 E.a, Value.int .i64 E.b, Value.int .i64 E.c, Value.int .i64 E.d] 23)).jk kE2) wr) (fun i _ => 6 - (intOf i).toNat)
  case atStart => exact ⟨0, by omega, rfl, Q.refl _⟩
  case round =>
    obtain ⟨k, hk, rfl, kw, rfl⟩ := hrel
    by_cases hlt : k < 6
    · have hk6 : k = 0 ∨ k = 1 ∨ k = 2 ∨ k = 3 ∨ k = 4 ∨ k = 5 := by omega
      clear hk hlt
      rcases hk6 with rfl | rfl | rfl | rfl | rfl | rfl
      · have g1 : u.In 131072 := HV.out 0
        have g2 : x.In 131072 := HI.out 0
        have g3 : (x.sc 100).In 13107200 := sc_in (k := 100) (m := 100) g2 (by decide) (by decide)
        obtain ⟨e0, e1, e2, e3, e4, e5, e6, e7⟩ := c48L_at0 (loopV u v t) (loopI x y z r q)
        have HS := Lib.hid (c48L_set0 (loopV u v t) (loopI x y z r q))
        go_wp2_with fail
        try simp only [List.append]
        refine wp_region_tail 11 (by kernel_rfl) (by kernel_rfl) ?_
        simp only [List.take_succ_cons, List.take_zero, List.drop_succ_cons, List.drop_zero]
        repeat (go_big_quiet_step ((first | (go_at_call 22; first | ((with_reducible show Calls _ _ #[Value.agg #[Value.int .i64 u.a, Value.int .i64 u.b, Value.int .i64 u.c, Value.int .i64 u.d, Value.int .i64 v.a, Value.int .i64 v.b, Value.int .i64 v.c, Value.int .i64 v.d, Value.int .i64 t.a, Value.int .i64 t.b, Value.int .i64 t.c, Value.int .i64 t.d], _] _ _); exact Calls.jk_of (rpair_0 u v t _)) | ((with_reducible show Calls _ _ #[Value.agg #[Value.int .i64 x.a, Value.int .i64 x.b, Value.int .i64 x.c, Value.int .i64 x.d, Value.int .i64 y.a, Value.int .i64 y.b, Value.int .i64 y.c, Value.int .i64 y.d, Value.int .i64 z.a, Value.int .i64 z.b, Value.int .i64 z.c, Value.int .i64 z.d], _] _ _); exact Calls.jk_of (rpair_0 x y z _))) | (go_at_call 21; exact Calls.jk_of (rtimes_c _ 100 131072 100 _ (by with_reducible assumption) (by decide) (by decide) (by decide) (by decide) (by decide))))))
        refine wpQuiet_nil ?_
        intro _ hw'
        obtain ⟨kq, rfl⟩ := hw'
        go_wp2_with fail
        try simp only [List.append]
        refine wp_region_tail 9 (by kernel_rfl) (by kernel_rfl) ?_
        simp only [List.take_succ_cons, List.take_zero, List.drop_succ_cons, List.drop_zero]
        repeat (go_big_quiet_step ((go_at_call 19; exact Calls.jk_of (rplus_c _ _ _ (Cy.In.mono (by with_reducible assumption) (by decide)) (Cy.In.mono (by with_reducible assumption) (by decide))))))
        refine wpQuiet_nil ?_
        intro _ hw'
        obtain ⟨kq, rfl⟩ := hw'
        go_wp2_with fail
        go_roundw
        case rel =>
          refine ⟨1, by omega, rfl, ?_⟩
          rw [HE2.out]
          rw [← HS.out]
          repeat' (first | exact Q.refl _ | refine Q.alloc ?_ _ | refine Q.jk ?_ _ | refine Q.drew ?_)
        case measure => simp [intOf]
      · have g1 : v.In 131072 := HV.out 1
        have g2 : y.In 131072 := HI.out 1
        have g3 : (y.sc 100).In 13107200 := sc_in (k := 100) (m := 100) g2 (by decide) (by decide)
        obtain ⟨e0, e1, e2, e3, e4, e5, e6, e7⟩ := c48L_at1 (loopV u v t) (loopI x y z r q)
        have HS := Lib.hid (c48L_set1 (loopV u v t) (loopI x y z r q))
        go_wp2_with fail
        try simp only [List.append]
        refine wp_region_tail 11 (by kernel_rfl) (by kernel_rfl) ?_
        simp only [List.take_succ_cons, List.take_zero, List.drop_succ_cons, List.drop_zero]
        repeat (go_big_quiet_step ((first | (go_at_call 22; first | ((with_reducible show Calls _ _ #[Value.agg #[Value.int .i64 u.a, Value.int .i64 u.b, Value.int .i64 u.c, Value.int .i64 u.d, Value.int .i64 v.a, Value.int .i64 v.b, Value.int .i64 v.c, Value.int .i64 v.d, Value.int .i64 t.a, Value.int .i64 t.b, Value.int .i64 t.c, Value.int .i64 t.d], _] _ _); exact Calls.jk_of (rpair_1 u v t _)) | ((with_reducible show Calls _ _ #[Value.agg #[Value.int .i64 x.a, Value.int .i64 x.b, Value.int .i64 x.c, Value.int .i64 x.d, Value.int .i64 y.a, Value.int .i64 y.b, Value.int .i64 y.c, Value.int .i64 y.d, Value.int .i64 z.a, Value.int .i64 z.b, Value.int .i64 z.c, Value.int .i64 z.d], _] _ _); exact Calls.jk_of (rpair_1 x y z _))) | (go_at_call 21; exact Calls.jk_of (rtimes_c _ 100 131072 100 _ (by with_reducible assumption) (by decide) (by decide) (by decide) (by decide) (by decide))))))
        refine wpQuiet_nil ?_
        intro _ hw'
        obtain ⟨kq, rfl⟩ := hw'
        go_wp2_with fail
        try simp only [List.append]
        refine wp_region_tail 9 (by kernel_rfl) (by kernel_rfl) ?_
        simp only [List.take_succ_cons, List.take_zero, List.drop_succ_cons, List.drop_zero]
        repeat (go_big_quiet_step ((go_at_call 19; exact Calls.jk_of (rplus_c _ _ _ (Cy.In.mono (by with_reducible assumption) (by decide)) (Cy.In.mono (by with_reducible assumption) (by decide))))))
        refine wpQuiet_nil ?_
        intro _ hw'
        obtain ⟨kq, rfl⟩ := hw'
        go_wp2_with fail
        go_roundw
        case rel =>
          refine ⟨2, by omega, rfl, ?_⟩
          rw [HE2.out]
          rw [← HS.out]
          repeat' (first | exact Q.refl _ | refine Q.alloc ?_ _ | refine Q.jk ?_ _ | refine Q.drew ?_)
        case measure => simp [intOf]
      · have g1 : t.In 131072 := HV.out 2
        have g2 : z.In 131072 := HI.out 2
        have g3 : (z.sc 100).In 13107200 := sc_in (k := 100) (m := 100) g2 (by decide) (by decide)
        obtain ⟨e0, e1, e2, e3, e4, e5, e6, e7⟩ := c48L_at2 (loopV u v t) (loopI x y z r q)
        have HS := Lib.hid (c48L_set2 (loopV u v t) (loopI x y z r q))
        go_wp2_with fail
        try simp only [List.append]
        refine wp_region_tail 11 (by kernel_rfl) (by kernel_rfl) ?_
        simp only [List.take_succ_cons, List.take_zero, List.drop_succ_cons, List.drop_zero]
        repeat (go_big_quiet_step ((first | (go_at_call 22; first | ((with_reducible show Calls _ _ #[Value.agg #[Value.int .i64 u.a, Value.int .i64 u.b, Value.int .i64 u.c, Value.int .i64 u.d, Value.int .i64 v.a, Value.int .i64 v.b, Value.int .i64 v.c, Value.int .i64 v.d, Value.int .i64 t.a, Value.int .i64 t.b, Value.int .i64 t.c, Value.int .i64 t.d], _] _ _); exact Calls.jk_of (rpair_2 u v t _)) | ((with_reducible show Calls _ _ #[Value.agg #[Value.int .i64 x.a, Value.int .i64 x.b, Value.int .i64 x.c, Value.int .i64 x.d, Value.int .i64 y.a, Value.int .i64 y.b, Value.int .i64 y.c, Value.int .i64 y.d, Value.int .i64 z.a, Value.int .i64 z.b, Value.int .i64 z.c, Value.int .i64 z.d], _] _ _); exact Calls.jk_of (rpair_2 x y z _))) | (go_at_call 21; exact Calls.jk_of (rtimes_c _ 100 131072 100 _ (by with_reducible assumption) (by decide) (by decide) (by decide) (by decide) (by decide))))))
        refine wpQuiet_nil ?_
        intro _ hw'
        obtain ⟨kq, rfl⟩ := hw'
        go_wp2_with fail
        try simp only [List.append]
        refine wp_region_tail 9 (by kernel_rfl) (by kernel_rfl) ?_
        simp only [List.take_succ_cons, List.take_zero, List.drop_succ_cons, List.drop_zero]
        repeat (go_big_quiet_step ((go_at_call 19; exact Calls.jk_of (rplus_c _ _ _ (Cy.In.mono (by with_reducible assumption) (by decide)) (Cy.In.mono (by with_reducible assumption) (by decide))))))
        refine wpQuiet_nil ?_
        intro _ hw'
        obtain ⟨kq, rfl⟩ := hw'
        go_wp2_with fail
        go_roundw
        case rel =>
          refine ⟨3, by omega, rfl, ?_⟩
          rw [HE2.out]
          rw [← HS.out]
          repeat' (first | exact Q.refl _ | refine Q.alloc ?_ _ | refine Q.jk ?_ _ | refine Q.drew ?_)
        case measure => simp [intOf]
      · have g1 : (u.sub v).In 131072 := HV.out 3
        have g2 : (x.sub y).In 131072 := HI.out 3
        have g3 : ((x.sub y).sc 100).In 13107200 := sc_in (k := 100) (m := 100) g2 (by decide) (by decide)
        obtain ⟨e0, e1, e2, e3, e4, e5, e6, e7⟩ := c48L_at3 (loopV u v t) (loopI x y z r q)
        have HS := Lib.hid (c48L_set3 (loopV u v t) (loopI x y z r q))
        go_wp2_with fail
        try simp only [List.append]
        refine wp_region_tail 11 (by kernel_rfl) (by kernel_rfl) ?_
        simp only [List.take_succ_cons, List.take_zero, List.drop_succ_cons, List.drop_zero]
        repeat (go_big_quiet_step ((first | (go_at_call 22; first | ((with_reducible show Calls _ _ #[Value.agg #[Value.int .i64 u.a, Value.int .i64 u.b, Value.int .i64 u.c, Value.int .i64 u.d, Value.int .i64 v.a, Value.int .i64 v.b, Value.int .i64 v.c, Value.int .i64 v.d, Value.int .i64 t.a, Value.int .i64 t.b, Value.int .i64 t.c, Value.int .i64 t.d], _] _ _); exact Calls.jk_of (rpair_3 u v t _ (hu.mono (by decide)) (hv.mono (by decide)) (ht.mono (by decide)))) | ((with_reducible show Calls _ _ #[Value.agg #[Value.int .i64 x.a, Value.int .i64 x.b, Value.int .i64 x.c, Value.int .i64 x.d, Value.int .i64 y.a, Value.int .i64 y.b, Value.int .i64 y.c, Value.int .i64 y.d, Value.int .i64 z.a, Value.int .i64 z.b, Value.int .i64 z.c, Value.int .i64 z.d], _] _ _); exact Calls.jk_of (rpair_3 x y z _ (hx.mono (by decide)) (hy.mono (by decide)) (hz.mono (by decide))))) | (go_at_call 21; exact Calls.jk_of (rtimes_c _ 100 131072 100 _ (by with_reducible assumption) (by decide) (by decide) (by decide) (by decide) (by decide))))))
        refine wpQuiet_nil ?_
        intro _ hw'
        obtain ⟨kq, rfl⟩ := hw'
        go_wp2_with fail
        go_roundw
        case rel =>
          refine ⟨4, by omega, rfl, ?_⟩
          rw [HE2.out]
          rw [← HS.out]
          repeat' (first | exact Q.refl _ | refine Q.alloc ?_ _ | refine Q.jk ?_ _ | refine Q.drew ?_)
        case measure => simp [intOf]
      · have g1 : (v.sub t).In 131072 := HV.out 4
        have g2 : (y.sub z).In 131072 := HI.out 4
        have g3 : ((y.sub z).sc 100).In 13107200 := sc_in (k := 100) (m := 100) g2 (by decide) (by decide)
        obtain ⟨e0, e1, e2, e3, e4, e5, e6, e7⟩ := c48L_at4 (loopV u v t) (loopI x y z r q)
        have HS := Lib.hid (c48L_set4 (loopV u v t) (loopI x y z r q))
        go_wp2_with fail
        try simp only [List.append]
        refine wp_region_tail 11 (by kernel_rfl) (by kernel_rfl) ?_
        simp only [List.take_succ_cons, List.take_zero, List.drop_succ_cons, List.drop_zero]
        repeat (go_big_quiet_step ((first | (go_at_call 22; first | ((with_reducible show Calls _ _ #[Value.agg #[Value.int .i64 u.a, Value.int .i64 u.b, Value.int .i64 u.c, Value.int .i64 u.d, Value.int .i64 v.a, Value.int .i64 v.b, Value.int .i64 v.c, Value.int .i64 v.d, Value.int .i64 t.a, Value.int .i64 t.b, Value.int .i64 t.c, Value.int .i64 t.d], _] _ _); exact Calls.jk_of (rpair_4 u v t _ (hu.mono (by decide)) (hv.mono (by decide)) (ht.mono (by decide)))) | ((with_reducible show Calls _ _ #[Value.agg #[Value.int .i64 x.a, Value.int .i64 x.b, Value.int .i64 x.c, Value.int .i64 x.d, Value.int .i64 y.a, Value.int .i64 y.b, Value.int .i64 y.c, Value.int .i64 y.d, Value.int .i64 z.a, Value.int .i64 z.b, Value.int .i64 z.c, Value.int .i64 z.d], _] _ _); exact Calls.jk_of (rpair_4 x y z _ (hx.mono (by decide)) (hy.mono (by decide)) (hz.mono (by decide))))) | (go_at_call 21; exact Calls.jk_of (rtimes_c _ 100 131072 100 _ (by with_reducible assumption) (by decide) (by decide) (by decide) (by decide) (by decide))))))
        refine wpQuiet_nil ?_
        intro _ hw'
        obtain ⟨kq, rfl⟩ := hw'
        go_wp2_with fail
        go_roundw
        case rel =>
          refine ⟨5, by omega, rfl, ?_⟩
          rw [HE2.out]
          rw [← HS.out]
          repeat' (first | exact Q.refl _ | refine Q.alloc ?_ _ | refine Q.jk ?_ _ | refine Q.drew ?_)
        case measure => simp [intOf]
      · have g1 : (t.sub u).In 131072 := HV.out 5
        have g2 : (z.sub x).In 131072 := HI.out 5
        have g3 : ((z.sub x).sc 100).In 13107200 := sc_in (k := 100) (m := 100) g2 (by decide) (by decide)
        obtain ⟨e0, e1, e2, e3, e4, e5, e6, e7⟩ := c48L_at5 (loopV u v t) (loopI x y z r q)
        have HS := Lib.hid (c48L_set5 (loopV u v t) (loopI x y z r q))
        go_wp2_with fail
        try simp only [List.append]
        refine wp_region_tail 11 (by kernel_rfl) (by kernel_rfl) ?_
        simp only [List.take_succ_cons, List.take_zero, List.drop_succ_cons, List.drop_zero]
        repeat (go_big_quiet_step ((first | (go_at_call 22; first | ((with_reducible show Calls _ _ #[Value.agg #[Value.int .i64 u.a, Value.int .i64 u.b, Value.int .i64 u.c, Value.int .i64 u.d, Value.int .i64 v.a, Value.int .i64 v.b, Value.int .i64 v.c, Value.int .i64 v.d, Value.int .i64 t.a, Value.int .i64 t.b, Value.int .i64 t.c, Value.int .i64 t.d], _] _ _); exact Calls.jk_of (rpair_5 u v t _ (hu.mono (by decide)) (hv.mono (by decide)) (ht.mono (by decide)))) | ((with_reducible show Calls _ _ #[Value.agg #[Value.int .i64 x.a, Value.int .i64 x.b, Value.int .i64 x.c, Value.int .i64 x.d, Value.int .i64 y.a, Value.int .i64 y.b, Value.int .i64 y.c, Value.int .i64 y.d, Value.int .i64 z.a, Value.int .i64 z.b, Value.int .i64 z.c, Value.int .i64 z.d], _] _ _); exact Calls.jk_of (rpair_5 x y z _ (hx.mono (by decide)) (hy.mono (by decide)) (hz.mono (by decide))))) | (go_at_call 21; exact Calls.jk_of (rtimes_c _ 100 131072 100 _ (by with_reducible assumption) (by decide) (by decide) (by decide) (by decide) (by decide))))))
        refine wpQuiet_nil ?_
        intro _ hw'
        obtain ⟨kq, rfl⟩ := hw'
        go_wp2_with fail
        go_roundw
        case rel =>
          refine ⟨6, by omega, rfl, ?_⟩
          rw [HE2.out]
          rw [← HS.out]
          repeat' (first | exact Q.refl _ | refine Q.alloc ?_ _ | refine Q.jk ?_ _ | refine Q.drew ?_)
        case measure => simp [intOf]
    · obtain rfl : k = 6 := by omega
      go_wp2_with fail
      refine bodyPost_ret (v := Value.tuple #[Value.agg (c48L (loopV u v t) (loopI x y z r q) 6), Value.int .i64 0]) (results_blk2 Tryz.results6 rfl rfl Tryz.underlying34 rfl (by rw [c48L_size]; exact info48R)) rfl ⟨rfl, ?_⟩
      repeat' (first | exact Q.refl _ | refine Q.alloc ?_ _ | refine Q.jk ?_ _ | refine Q.drew ?_)
end Go.Proofs.YtomodppdolfinaaGreat
/- What '==' says of two arrays of bools: as the lists are. -/
namespace Go
open Go.Sub
theorem all_range_bools : ∀ (xs ys : List Bool), xs.length = ys.length → ((List.range xs.length).all fun i => xs.getD i false == ys.getD i false) = (xs == ys)
  | [], [], _ => rfl
  | x :: xs, y :: ys, h => by
    have ih := all_range_bools xs ys (by simpa using h)
    rw [List.length_cons, List.range_succ_eq_map, List.all_cons, List.all_map]
    simp only [List.getD_cons_zero, Function.comp_def, List.getD_cons_succ, ih]
    simp [List.cons_beq_cons]
  | [], _ :: _, h => by simp at h
  | _ :: _, [], h => by simp at h
section
variable {P : Program} (w : World)
theorem run_equalIn_bools (d : Nat) (t e : TypeId) (n : Nat) (ht : P.underlying t = some (.array n e)) (he : P.underlying e = some .bool) (hsz : ∀ w, (sizeOf e).run P w = .ok 1 w)
    (xs ys : List Bool) (hx : xs.length = n) (hy : ys.length = n) :
    (Op.equalIn (d + 2) t (.agg (xs.map Value.bool).toArray) (.agg (ys.map Value.bool).toArray)).run P w = .ok (xs == ys) w := by
  rw [← all_range_bools xs ys (hx.trans hy.symm), hx, List.range_eq_range', Op.equalIn]
  simp only [Sem.run_bind, run_underlying ht, Result.andThen_ok, hsz, Std.Legacy.Range.forIn_eq_forIn_range', Std.Legacy.Range.size, Nat.sub_zero, Nat.add_sub_cancel, Nat.div_one]
  have hl : ∀ i ∈ List.range' 0 n 1, i < n := fun i hi => by simpa using (List.mem_range'_1.1 hi).2
  generalize List.range' 0 n 1 = l at hl ⊢
  induction l with
  | nil => simp
  | cons i l ih =>
    have hi : i < n := hl i (by simp)
    have px : (part e (xs.map Value.bool).toArray (i * 1)).run P w = .ok (.bool (xs.getD i false)) w := by
      simp [part, isAgg, run_underlying he, List.getD, List.getElem?_eq_getElem (show i < xs.length by omega)]
    have py : (part e (ys.map Value.bool).toArray (i * 1)).run P w = .ok (.bool (ys.getD i false)) w := by
      simp [part, isAgg, run_underlying he, List.getD, List.getElem?_eq_getElem (show i < ys.length by omega)]
    have pe : (Op.equalIn (d + 1) e (.bool (xs.getD i false)) (.bool (ys.getD i false))).run P w = .ok (xs.getD i false == ys.getD i false) w := by
      cases xs.getD i false <;> cases ys.getD i false <;> simp [Op.equalIn, run_underlying he]
    simp only [List.forIn_cons, Sem.run_bind, px, py, pe, Result.andThen_ok, List.all_cons]
    cases hb : (xs.getD i false == ys.getD i false)
    · simp
    · simp only [Bool.not_true, Bool.false_eq_true, if_false, Sem.run_pure, Result.andThen_ok, Bool.true_and]
      exact ih fun j hj => hl j (by simp [hj])
theorem run_eql_bools (t e : TypeId) (n : Nat) (ht : P.underlying t = some (.array n e)) (he : P.underlying e = some .bool) (hsz : ∀ w, (sizeOf e).run P w = .ok 1 w)
    (xs ys : List Bool) (hx : xs.length = n) (hy : ys.length = n) :
    (binOp .eql t (.agg (xs.map Value.bool).toArray) (.agg (ys.map Value.bool).toArray)).run P w = .ok (.bool (xs == ys)) w := by
  rw [run_eql_struct, run_equalIn_bools w 9998 t e n ht he hsz xs ys hx hy]
  rfl
end
end Go
/- DistanceLoops: the walk. -/
set_option linter.unusedVariables false
set_option linter.unusedSimpArgs false
namespace Go.Proofs.YtomodppdolfinaaGreat
open Go.RowKit Go.Sub
@[go_sem high] theorem eqlB6 (w : World) (a0 b0 a1 b1 a2 b2 a3 b3 a4 b4 a5 b5 : Bool) :
    (binOp .eql 38 (Value.agg #[Value.bool a0, Value.bool a1, Value.bool a2, Value.bool a3, Value.bool a4, Value.bool a5]) (Value.agg #[Value.bool b0, Value.bool b1, Value.bool b2, Value.bool b3, Value.bool b4, Value.bool b5])).run Tryz.prog w = .ok (Value.bool ([a0, a1, a2, a3, a4, a5] == [b0, b1, b2, b3, b4, b5])) w :=
  run_eql_bools (P := Tryz.prog) w 38 4 6 Tryz.underlying38 Tryz.underlying4 (fun _ => by kernel_rfl) [a0, a1, a2, a3, a4, a5] [b0, b1, b2, b3, b4, b5] rfl rfl
@[go_sem] theorem beqB6 (a0 a1 a2 a3 a4 a5 : Bool) : ([a0, a1, a2, a3, a4, a5] == [a0, a1, a2, a3, a4, a5]) = true := beq_self_eq_true _
theorem eqInCyc (w : World) (d : Nat) (a b c e a' b' c' e' : Int) :
    (Op.equalIn (d + 2) 23 (Value.agg #[Value.int .i64 a, Value.int .i64 b, Value.int .i64 c, Value.int .i64 e]) (Value.agg #[Value.int .i64 a', Value.int .i64 b', Value.int .i64 c', Value.int .i64 e'])).run Tryz.prog w = .ok ([a, b, c, e] == [a', b', c', e']) w :=
  run_equalIn_ints (P := Tryz.prog) w d 23 3 4 Tryz.underlying23 Tryz.underlying3 (fun _ => by kernel_rfl) [a, b, c, e] [a', b', c', e'] rfl rfl
set_option maxHeartbeats 1000000 in
@[go_sem high] theorem neqLoop (w : World) (v i : Cy) :
    (binOp .neq 33 (Value.agg #[Value.int .i64 v.a, Value.int .i64 v.b, Value.int .i64 v.c, Value.int .i64 v.d, Value.int .i64 i.a, Value.int .i64 i.b, Value.int .i64 i.c, Value.int .i64 i.d]) (Value.agg #[Value.int .i64 v.a, Value.int .i64 v.b, Value.int .i64 v.c, Value.int .i64 v.d, Value.int .i64 i.a, Value.int .i64 i.b, Value.int .i64 i.c, Value.int .i64 i.d])).run Tryz.prog w = .ok (Value.bool false) w := by
  have h := eqInCyc w 9997 v.a v.b v.c v.d v.a v.b v.c v.d
  have h' := eqInCyc w 9997 i.a i.b i.c i.d i.a i.b i.c i.d
  rw [beq_self_eq_true] at h h'
  simp [go_sem, Op.eqFields, h, h']
set_option maxHeartbeats 1000000 in
theorem to_c (v i : Cy) (w : World) :
    Calls Tryz.prog 7 #[Value.agg #[Value.int .i64 v.a, Value.int .i64 v.b, Value.int .i64 v.c, Value.int .i64 v.d, Value.int .i64 i.a, Value.int .i64 i.b, Value.int .i64 i.c, Value.int .i64 i.d]] w fun e w' => e = .returned (Value.agg #[Value.int .i64 v.a, Value.int .i64 v.b, Value.int .i64 v.c, Value.int .i64 v.d, Value.int .i64 i.a, Value.int .i64 i.b, Value.int .i64 i.c, Value.int .i64 i.d]) ∧ Q w w' := by
  go_enter Tryz.func7, Tryz.ntmps7
  go_wp2_with fail
  refine bodyPost_ret (v := Value.agg #[Value.int .i64 v.a, Value.int .i64 v.b, Value.int .i64 v.c, Value.int .i64 v.d, Value.int .i64 i.a, Value.int .i64 i.b, Value.int .i64 i.c, Value.int .i64 i.d]) (by simp [results, Tryz.results7, go_sem]) rfl ⟨rfl, ?_⟩
  repeat' (first | exact Q.refl _ | refine Q.alloc ?_ _ | refine Q.jk ?_ _ | refine Q.drew ?_)
set_option maxRecDepth 100000 in
set_option maxHeartbeats 8000000 in
theorem loops_core (u v t x y z : Cy) (r q m e1 e2 : Int) (VV II : Nat → Cy) (s0 s1 s2 s3 s4 s5 : Bool) (w : World)
    (LP : Hid (∀ w, Calls Tryz.prog 5 #[Value.agg #[Value.int .i64 u.a, Value.int .i64 u.b, Value.int .i64 u.c, Value.int .i64 u.d, Value.int .i64 v.a, Value.int .i64 v.b, Value.int .i64 v.c, Value.int .i64 v.d, Value.int .i64 t.a, Value.int .i64 t.b, Value.int .i64 t.c, Value.int .i64 t.d], Value.agg #[Value.int .i64 x.a, Value.int .i64 x.b, Value.int .i64 x.c, Value.int .i64 x.d, Value.int .i64 y.a, Value.int .i64 y.b, Value.int .i64 y.c, Value.int .i64 y.d, Value.int .i64 z.a, Value.int .i64 z.b, Value.int .i64 z.c, Value.int .i64 z.d], Value.int .i64 r, Value.int .i64 q] w fun e w' => e = .returned (Value.tuple #[Value.agg (c48L VV II 6), Value.int .i64 e1]) ∧ Q w w')) (RP : Hid (∀ w, Calls Tryz.prog 6 #[Value.agg #[Value.int .i64 u.a, Value.int .i64 u.b, Value.int .i64 u.c, Value.int .i64 u.d, Value.int .i64 v.a, Value.int .i64 v.b, Value.int .i64 v.c, Value.int .i64 v.d, Value.int .i64 t.a, Value.int .i64 t.b, Value.int .i64 t.c, Value.int .i64 t.d], Value.agg #[Value.int .i64 x.a, Value.int .i64 x.b, Value.int .i64 x.c, Value.int .i64 x.d, Value.int .i64 y.a, Value.int .i64 y.b, Value.int .i64 y.c, Value.int .i64 y.d, Value.int .i64 z.a, Value.int .i64 z.b, Value.int .i64 z.c, Value.int .i64 z.d], Value.int .i64 r, Value.int .i64 q] w fun e w' => e = .returned (Value.tuple #[Value.agg (c48L VV II 6), Value.int .i64 e1]) ∧ Q w w')) (SP : Hid (∀ w, Calls Tryz.prog 8 #[Value.agg #[Value.int .i64 x.a, Value.int .i64 x.b, Value.int .i64 x.c, Value.int .i64 x.d, Value.int .i64 y.a, Value.int .i64 y.b, Value.int .i64 y.c, Value.int .i64 y.d, Value.int .i64 z.a, Value.int .i64 z.b, Value.int .i64 z.c, Value.int .i64 z.d], Value.int .i64 m] w fun e w' => e = .returned (Value.tuple #[Value.agg #[Value.bool s0, Value.bool s1, Value.bool s2, Value.bool s3, Value.bool s4, Value.bool s5], Value.int .i64 e2]) ∧ Q w w')) (RS : Hid (∀ w, Calls Tryz.prog 9 #[Value.agg #[Value.int .i64 x.a, Value.int .i64 x.b, Value.int .i64 x.c, Value.int .i64 x.d, Value.int .i64 y.a, Value.int .i64 y.b, Value.int .i64 y.c, Value.int .i64 y.d, Value.int .i64 z.a, Value.int .i64 z.b, Value.int .i64 z.c, Value.int .i64 z.d], Value.int .i64 m] w fun e w' => e = .returned (Value.tuple #[Value.agg #[Value.bool s0, Value.bool s1, Value.bool s2, Value.bool s3, Value.bool s4, Value.bool s5], Value.int .i64 e2]) ∧ Q w w')) :
    Calls Tryz.prog 3 #[Value.agg #[Value.int .i64 u.a, Value.int .i64 u.b, Value.int .i64 u.c, Value.int .i64 u.d, Value.int .i64 v.a, Value.int .i64 v.b, Value.int .i64 v.c, Value.int .i64 v.d, Value.int .i64 t.a, Value.int .i64 t.b, Value.int .i64 t.c, Value.int .i64 t.d], Value.agg #[Value.int .i64 x.a, Value.int .i64 x.b, Value.int .i64 x.c, Value.int .i64 x.d, Value.int .i64 y.a, Value.int .i64 y.b, Value.int .i64 y.c, Value.int .i64 y.d, Value.int .i64 z.a, Value.int .i64 z.b, Value.int .i64 z.c, Value.int .i64 z.d], Value.agg #[Value.int .i64 r, Value.int .i64 q, Value.int .i64 m]] w fun e w' => e = .returned (Value.bool true) ∧ Q w w' := by
  go_enter Tryz.func3, Tryz.ntmps3
  go_wp2_with (first | (go_at_call 4; refine (known22 _).mono ?_; rintro e w' ⟨rfl, kj, rfl⟩) | (go_at_call 5; (with_reducible refine (LP.out _).mono ?_); rintro e w' ⟨rfl, kj, rfl⟩) | (go_at_call 6; (with_reducible refine (RP.out _).mono ?_); rintro e w' ⟨rfl, kj, rfl⟩))
  refine wp_loop_rounds 7 ?_
  rw [rounds_succ]; go_wp2_with fail
  try simp only [List.append]
  refine wp_region_jk (by kernel_rfl) (by kernel_rfl) ?_
  repeat (go_big_quiet_step ((go_at_call 7; exact Calls.jk_of (to_c _ _ _))))
  refine wpQuiet_nil ?_
  intro _ hw'
  obtain ⟨kq, rfl⟩ := hw'
  go_wp2_with fail
  rw [rounds_succ]; go_wp2_with fail
  try simp only [List.append]
  refine wp_region_jk (by kernel_rfl) (by kernel_rfl) ?_
  repeat (go_big_quiet_step ((go_at_call 7; exact Calls.jk_of (to_c _ _ _))))
  refine wpQuiet_nil ?_
  intro _ hw'
  obtain ⟨kq, rfl⟩ := hw'
  go_wp2_with fail
  rw [rounds_succ]; go_wp2_with fail
  try simp only [List.append]
  refine wp_region_jk (by kernel_rfl) (by kernel_rfl) ?_
  repeat (go_big_quiet_step ((go_at_call 7; exact Calls.jk_of (to_c _ _ _))))
  refine wpQuiet_nil ?_
  intro _ hw'
  obtain ⟨kq, rfl⟩ := hw'
  go_wp2_with fail
  rw [rounds_succ]; go_wp2_with fail
  try simp only [List.append]
  refine wp_region_jk (by kernel_rfl) (by kernel_rfl) ?_
  repeat (go_big_quiet_step ((go_at_call 7; exact Calls.jk_of (to_c _ _ _))))
  refine wpQuiet_nil ?_
  intro _ hw'
  obtain ⟨kq, rfl⟩ := hw'
  go_wp2_with fail
  rw [rounds_succ]; go_wp2_with fail
  try simp only [List.append]
  refine wp_region_jk (by kernel_rfl) (by kernel_rfl) ?_
  repeat (go_big_quiet_step ((go_at_call 7; exact Calls.jk_of (to_c _ _ _))))
  refine wpQuiet_nil ?_
  intro _ hw'
  obtain ⟨kq, rfl⟩ := hw'
  go_wp2_with fail
  rw [rounds_succ]; go_wp2_with fail
  try simp only [List.append]
  refine wp_region_jk (by kernel_rfl) (by kernel_rfl) ?_
  repeat (go_big_quiet_step ((go_at_call 7; exact Calls.jk_of (to_c _ _ _))))
  refine wpQuiet_nil ?_
  intro _ hw'
  obtain ⟨kq, rfl⟩ := hw'
  go_wp2_with fail
  rw [rounds_succ]; go_wp2_with (first | (go_at_call 8; (with_reducible refine (SP.out _).mono ?_); rintro e w' ⟨rfl, kj, rfl⟩) | (go_at_call 9; (with_reducible refine (RS.out _).mono ?_); rintro e w' ⟨rfl, kj, rfl⟩))
  go_ret
  refine ⟨rfl, ?_⟩
  repeat' (first | exact Q.refl _ | refine Q.alloc ?_ _ | refine Q.jk ?_ _ | refine Q.drew ?_)
def zC : Nat → Cy := fun _ => ⟨0, 0, 0, 0⟩
theorem c48_zero : c48L zC zC 6 = #[Value.int .i64 0, Value.int .i64 0, Value.int .i64 0, Value.int .i64 0, Value.int .i64 0, Value.int .i64 0, Value.int .i64 0, Value.int .i64 0, Value.int .i64 0, Value.int .i64 0, Value.int .i64 0, Value.int .i64 0, Value.int .i64 0, Value.int .i64 0, Value.int .i64 0, Value.int .i64 0, Value.int .i64 0, Value.int .i64 0, Value.int .i64 0, Value.int .i64 0, Value.int .i64 0, Value.int .i64 0, Value.int .i64 0, Value.int .i64 0, Value.int .i64 0, Value.int .i64 0, Value.int .i64 0, Value.int .i64 0, Value.int .i64 0, Value.int .i64 0, Value.int .i64 0, Value.int .i64 0, Value.int .i64 0, Value.int .i64 0, Value.int .i64 0, Value.int .i64 0, Value.int .i64 0, Value.int .i64 0, Value.int .i64 0, Value.int .i64 0, Value.int .i64 0, Value.int .i64 0, Value.int .i64 0, Value.int .i64 0, Value.int .i64 0, Value.int .i64 0, Value.int .i64 0, Value.int .i64 0] := by kernel_rfl
theorem strong_pair (x y z : Cy) (m : Int) : ∃ (s0 s1 s2 s3 s4 s5 : Bool) (e2 : Int), (∀ w, Calls Tryz.prog 8 #[Value.agg #[Value.int .i64 x.a, Value.int .i64 x.b, Value.int .i64 x.c, Value.int .i64 x.d, Value.int .i64 y.a, Value.int .i64 y.b, Value.int .i64 y.c, Value.int .i64 y.d, Value.int .i64 z.a, Value.int .i64 z.b, Value.int .i64 z.c, Value.int .i64 z.d], Value.int .i64 m] w fun e w' => e = .returned (Value.tuple #[Value.agg #[Value.bool s0, Value.bool s1, Value.bool s2, Value.bool s3, Value.bool s4, Value.bool s5], Value.int .i64 e2]) ∧ Q w w') ∧ (∀ w, Calls Tryz.prog 9 #[Value.agg #[Value.int .i64 x.a, Value.int .i64 x.b, Value.int .i64 x.c, Value.int .i64 x.d, Value.int .i64 y.a, Value.int .i64 y.b, Value.int .i64 y.c, Value.int .i64 y.d, Value.int .i64 z.a, Value.int .i64 z.b, Value.int .i64 z.c, Value.int .i64 z.d], Value.int .i64 m] w fun e w' => e = .returned (Value.tuple #[Value.agg #[Value.bool s0, Value.bool s1, Value.bool s2, Value.bool s3, Value.bool s4, Value.bool s5], Value.int .i64 e2]) ∧ Q w w') := by
  cases hx : ph3 x y z
  · exact ⟨_, _, _, _, _, _, _, fun w => strong_b1 x y z m w (Lib.hid hx), fun w => rstrong_b1 x y z m w (Lib.hid hx)⟩
  · obtain ⟨h1, h2, h3⟩ := (ph3_iff _ _ _).1 hx
    cases hm : (decide (1 ≤ m) && decide (m ≤ 16383))
    · refine ⟨_, _, _, _, _, _, _, fun w => strong_b2 x y z m w (Lib.hid hx) (Lib.hid hm), fun w => ?_⟩
      by_cases hl : m < 1
      · exact rstrong_b2 x y z m w (Lib.hid hx) hl
      · refine rstrong_b3 x y z m w (Lib.hid hx) ?_
        simp at hm
        omega
    · have hm' : 1 ≤ m ∧ m ≤ 16383 := by simpa using hm
      exact ⟨_, _, _, _, _, _, _, fun w => strong_c x y z m w h1 h2 h3 hm'.1 hm'.2, fun w => rstrong_c x y z m w h1 h2 h3 hm'.1 hm'.2⟩
theorem loops_pair (u v t x y z : Cy) (r q : Int) : ∃ (VV II : Nat → Cy) (e1 : Int), (∀ w, Calls Tryz.prog 5 #[Value.agg #[Value.int .i64 u.a, Value.int .i64 u.b, Value.int .i64 u.c, Value.int .i64 u.d, Value.int .i64 v.a, Value.int .i64 v.b, Value.int .i64 v.c, Value.int .i64 v.d, Value.int .i64 t.a, Value.int .i64 t.b, Value.int .i64 t.c, Value.int .i64 t.d], Value.agg #[Value.int .i64 x.a, Value.int .i64 x.b, Value.int .i64 x.c, Value.int .i64 x.d, Value.int .i64 y.a, Value.int .i64 y.b, Value.int .i64 y.c, Value.int .i64 y.d, Value.int .i64 z.a, Value.int .i64 z.b, Value.int .i64 z.c, Value.int .i64 z.d], Value.int .i64 r, Value.int .i64 q] w fun e w' => e = .returned (Value.tuple #[Value.agg (c48L VV II 6), Value.int .i64 e1]) ∧ Q w w') ∧ (∀ w, Calls Tryz.prog 6 #[Value.agg #[Value.int .i64 u.a, Value.int .i64 u.b, Value.int .i64 u.c, Value.int .i64 u.d, Value.int .i64 v.a, Value.int .i64 v.b, Value.int .i64 v.c, Value.int .i64 v.d, Value.int .i64 t.a, Value.int .i64 t.b, Value.int .i64 t.c, Value.int .i64 t.d], Value.agg #[Value.int .i64 x.a, Value.int .i64 x.b, Value.int .i64 x.c, Value.int .i64 x.d, Value.int .i64 y.a, Value.int .i64 y.b, Value.int .i64 y.c, Value.int .i64 y.d, Value.int .i64 z.a, Value.int .i64 z.b, Value.int .i64 z.c, Value.int .i64 z.d], Value.int .i64 r, Value.int .i64 q] w fun e w' => e = .returned (Value.tuple #[Value.agg (c48L VV II 6), Value.int .i64 e1]) ∧ Q w w') := by
  cases hu : ph3 u v t
  · refine ⟨zC, zC, 1, ?_⟩
    rw [c48_zero]
    exact ⟨fun w => loops_b1 u v t x y z r q w (Lib.hid hu), fun w => rloops_b1 u v t x y z r q w (Lib.hid hu)⟩
  · cases hx : ph3 x y z
    · refine ⟨zC, zC, 1, ?_⟩
      rw [c48_zero]
      exact ⟨fun w => loops_b2 u v t x y z r q w (Lib.hid hu) (Lib.hid hx), fun w => rloops_b2 u v t x y z r q w (Lib.hid hu) (Lib.hid hx)⟩
    · cases hr : (decide (-200 ≤ r) && decide (r ≤ 200))
      · refine ⟨zC, zC, 1, ?_⟩
        rw [c48_zero]
        refine ⟨fun w => loops_b3 u v t x y z r q w (Lib.hid hu) (Lib.hid hx) (Lib.hid hr), fun w => ?_⟩
        by_cases hl : r < -200
        · exact rloops_b3 u v t x y z r q w (Lib.hid hu) (Lib.hid hx) hl
        · refine rloops_b4 u v t x y z r q w (Lib.hid hu) (Lib.hid hx) ?_
          simp at hr
          omega
      · have hr' : -200 ≤ r ∧ r ≤ 200 := by simpa using hr
        cases hq : (decide (-200 ≤ q) && decide (q ≤ 200))
        · refine ⟨zC, zC, 1, ?_⟩
          rw [c48_zero]
          refine ⟨fun w => loops_b4 u v t x y z r q w (Lib.hid hu) (Lib.hid hx) (Lib.hid hr) (Lib.hid hq), fun w => ?_⟩
          by_cases hl : q < -200
          · exact rloops_b5 u v t x y z r q w (Lib.hid hu) (Lib.hid hx) hr'.1 hr'.2 hl
          · refine rloops_b6 u v t x y z r q w (Lib.hid hu) (Lib.hid hx) hr'.1 hr'.2 ?_
            simp at hq
            omega
        · have hq' : -200 ≤ q ∧ q ≤ 200 := by simpa using hq
          obtain ⟨h1, h2, h3⟩ := (ph3_iff _ _ _).1 hu
          obtain ⟨h4, h5, h6⟩ := (ph3_iff _ _ _).1 hx
          exact ⟨_, _, _, fun w => loops_c u v t x y z r q w h1 h2 h3 h4 h5 h6 hr'.1 hr'.2 hq'.1 hq'.2, fun w => rloops_c u v t x y z r q w h1 h2 h3 h4 h5 h6 hr'.1 hr'.2 hq'.1 hq'.2⟩
theorem loops_walk (u v t x y z : Cy) (r q m : Int) (w : World) :
    Calls Tryz.prog 3 #[Value.agg #[Value.int .i64 u.a, Value.int .i64 u.b, Value.int .i64 u.c, Value.int .i64 u.d, Value.int .i64 v.a, Value.int .i64 v.b, Value.int .i64 v.c, Value.int .i64 v.d, Value.int .i64 t.a, Value.int .i64 t.b, Value.int .i64 t.c, Value.int .i64 t.d], Value.agg #[Value.int .i64 x.a, Value.int .i64 x.b, Value.int .i64 x.c, Value.int .i64 x.d, Value.int .i64 y.a, Value.int .i64 y.b, Value.int .i64 y.c, Value.int .i64 y.d, Value.int .i64 z.a, Value.int .i64 z.b, Value.int .i64 z.c, Value.int .i64 z.d], Value.agg #[Value.int .i64 r, Value.int .i64 q, Value.int .i64 m]] w fun e w' => e = .returned (Value.bool true) ∧ Q w w' := by
  obtain ⟨VV, II, e1, h1, h2⟩ := loops_pair u v t x y z r q
  obtain ⟨s0, s1, s2, s3, s4, s5, e2, h3, h4⟩ := strong_pair x y z m
  exact loops_core u v t x y z r q m e1 e2 VV II s0 s1 s2 s3 s4 s5 w (Lib.hid h1) (Lib.hid h2) (Lib.hid h3) (Lib.hid h4)
end Go.Proofs.YtomodppdolfinaaGreat
/- Helpers of the frame of a law's proof, of no program: arrays of integers opened; a call that leaves all that was there meets the specification 'true, and the arguments read as they did'. -/
namespace Go
open Go.ChangeShapes Go.WideShapes Go.ChangeAt Go.RowKit
section
variable {H : Type} {enc : TypeId × Value → H} {P : Program} {w : World} {base : Nat} {spare : Nat → Bool} {held : Bool}

theorem okWide_arr {r : Reach} {b0 : Nat} {t : TypeId} {v : Value} {n : Nat} {e : TypeId} (ht : P.underlying t = some (.array n e)) (h : Value.okWide P w r b0 t v) : ∃ cs, v = .agg cs ∧ cs.size = P.cellsOf t := by
  simp only [Value.okWide, ht] at h
  obtain ⟨cs, h1, h2, _⟩ := h
  exact ⟨cs, h1, h2⟩

/-- An array of ints, opened. -/
theorem trod_arr_ints {fuel : Nat} {t e : TypeId} {n : Nat} {cs : List Value} {x : DataW H × List MemPlace} (ht : P.underlying t = some (.array n e)) (he : P.underlying e = some (.int .i64)) (hce : P.cellsOf e = 1) (hct : P.cellsOf t = n)
    (h : DataW.trod enc P w base spare held fuel t cs = some x) :
    ∃ ks : List Int, ks.length = n ∧ cs = ks.map (Value.int .i64) ∧ x = (.agg (ks.map fun k => .lit (.int .i64 k)), []) ∧ ∀ k ∈ ks, (Lit.int .i64 k).wf = true := by
  obtain ⟨xs, m, rfl, rfl, hl, hxs, hel⟩ := DataW.trod_array ht h
  rw [hct] at hl
  rw [hce] at hel
  have one : ∀ i, i < n → ∃ k, cs[i]? = some (.int .i64 k) ∧ xs[i]? = some (.lit (.int .i64 k), []) ∧ (Lit.int .i64 k).wf = true := by
    intro i hi
    have h1 := hel i hi
    obtain ⟨y, hy⟩ : ∃ y, xs[i]? = some y := ⟨_, List.getElem?_eq_getElem (by omega)⟩
    rw [hy] at h1
    obtain ⟨k, hk, rfl, hw⟩ := DataW.trod_int he h1
    refine ⟨k, ?_, hy, hw⟩
    have := congrArg (·[0]?) hk
    simpa [List.getElem?_take, List.getElem?_drop] using this
  refine ⟨cs.map intOf, by simp [hl], ?_, ?_, ?_⟩
  · apply List.ext_getElem?
    intro i
    by_cases hi : i < n
    · obtain ⟨k, h1, _, _⟩ := one i hi
      simp [h1, intOf]
    · rw [List.getElem?_eq_none (by omega), List.getElem?_eq_none (by simp; omega)]
  · have e1 : xs.map (·.1) = (cs.map intOf).map fun k => (DataW.lit (.int .i64 k) : DataW H) := by
      apply List.ext_getElem?
      intro i
      by_cases hi : i < n
      · obtain ⟨k, h1, h2, _⟩ := one i hi
        simp [h1, h2, intOf]
      · rw [List.getElem?_eq_none (by simp; omega), List.getElem?_eq_none (by simp; omega)]
    have e2 : xs.flatMap (·.2) = [] := by
      rw [List.flatMap_eq_nil_iff]
      intro y hy
      obtain ⟨i, hi, rfl⟩ := List.getElem_of_mem hy
      obtain ⟨k, _, h2, _⟩ := one i (by omega)
      rw [List.getElem?_eq_getElem hi] at h2
      rw [Option.some.inj h2]
    rw [e1, e2]
  · intro k hk
    obtain ⟨v, hv, rfl⟩ := List.mem_map.1 hk
    obtain ⟨i, hi, rfl⟩ := List.getElem_of_mem hv
    obtain ⟨k, h1, _, hw⟩ := one i (by omega)
    rw [List.getElem?_eq_getElem hi] at h1
    rw [Option.some.inj h1]
    exact hw

theorem wf_i64 {k : Int} (h : (Lit.int .i64 k).wf = true) : -9223372036854775808 ≤ k ∧ k ≤ 9223372036854775807 := by
  simpa [Lit.wf, IntKind.min, IntKind.max, IntKind.signed, IntKind.bits] using h

/-- An argument that is an array of four ints. -/
theorem open_arr4 {r : Reach} {b0 : Nat} {t e : TypeId} {v : Value} {d : DataW H} {ps : List MemPlace} (ht : P.underlying t = some (.array 4 e)) (he : P.underlying e = some (.int .i64)) (hce : P.cellsOf e = 1) (hct : P.cellsOf t = 4)
    (hval : Value.okWide P w r b0 t v) (hd : DataW.Trod enc P w base spare held t v d ps) :
    ∃ k0 k1 k2 k3 : Int, v = .agg #[.int .i64 k0, .int .i64 k1, .int .i64 k2, .int .i64 k3] ∧ ps = [] := by
  obtain ⟨cs, rfl, hsz⟩ := okWide_arr ht hval
  obtain ⟨fuel, hf⟩ := hd
  obtain ⟨ks, hl, hcs, hx, hw⟩ := trod_arr_ints ht he hce hct hf
  obtain ⟨l⟩ := cs
  simp only [Value.cells] at hcs
  simp only [Prod.mk.injEq] at hx
  match ks, hl, hcs, hx with
  | [k0, k1, k2, k3], _, hcs, hx =>
    refine ⟨k0, k1, k2, k3, ?_, hx.2⟩
    have : l = [.int .i64 k0, .int .i64 k1, .int .i64 k2, .int .i64 k3] := by simpa using hcs
    rw [this]

/-- All arguments read behind the call as they did before. -/
theorem trodAll_stays {W W' : World} (hl : laidOutB P = true) (hb : Below W.heap.size W W') : ∀ {ts : List TypeId} {vs : List Value} {ds : List (DataW H)} {ps : List MemPlace} {sp : Nat → Bool},
    (∀ t ∈ ts, P.readableRec t = true ∧ t < P.types.size) → DataW.TrodAll enc P W 0 (fun _ => true) true ts vs ds ps → (∀ x ∈ ps, x.block < W.heap.size) → (∀ x ∈ ps, sp x.block = true) →
    DataW.TrodAll enc P W' 0 sp true ts vs ds ps
  | [], [], [], _, _, _, h, _, _ => h
  | t :: ts, v :: vs, d :: ds, ps, sp, ht, h, hlt, hsp => by
    obtain ⟨p, q, h0, h1, rfl⟩ := h
    refine ⟨p, q, ?_, trodAll_stays hl hb (fun t' ht' => ht t' (List.mem_cons_of_mem _ ht')) h1 (fun x hx => hlt x (List.mem_append_right _ hx)) (fun x hx => hsp x (List.mem_append_right _ hx)), rfl⟩
    have := ht t (List.mem_cons_self ..)
    exact WideElems.Trod_stays hl this.1 this.2 h0 (fun x hx => hb.same (hlt x (List.mem_append_left _ hx))) (fun x hx => hsp x (List.mem_append_left _ hx))
  | [], _ :: _, _, _, _, _, h, _, _ => by exact h.elim
  | _ :: _, [], _, _, _, _, h, _, _ => by exact h.elim
  | [], [], _ :: _, _, _, _, h, _, _ => by exact h.elim
  | _ :: _, _ :: _, [], _, _, _, h, _, _ => by exact h.elim

/-- THE END OF A LAW's PROOF: it returned true and left all that was there. -/
theorem law_post {f : Func} {s : ChangeSpec} {W W' : World} {args : Array Value} {ds : List (DataW H)} {before : List MemPlace} {tb : TypeId}
    (hl : laidOutB P = true) (hts : ∀ t ∈ f.params.toList, P.readableRec t = true ∧ t < P.types.size) (hr : f.resultTypes = #[tb]) (hbool : P.underlying tb = some .bool) (hvars : s.vars = [])
    (hfn : ∀ ds' : List (DataW H), ds'.length = f.params.size → s.fn H ds' = { results := [.lit (.bool true)], args := ds' })
    (hW : DataW.Whole enc P f.params.toList s.vars false W args.toList ds [] before) (hb : Below W.heap.size W W') (hlen : ds.length = f.params.size) :
    s.post enc P f false true false false W args (.bool true) W' := by
  have hlt : ∀ p ∈ before, p.block < W.heap.size := fun p hp => hW.lt p hp
  have hW' := hW
  obtain ⟨p, q, hA, hV, rfl, hz, hn⟩ := hW
  rw [hvars] at hV
  obtain ⟨_, rfl⟩ := trodVars_none hV
  simp only [List.append_nil] at hlt hz hn hW'
  have efn := hfn ds hlen
  have hold : ∀ x ∈ p, (fun b => decide (b < W.heap.size)) x.block = true := fun x hx => by simpa using hlt x hx
  have hargs : ∀ sp : Nat → Bool, (∀ x ∈ p, sp x.block = true) → DataW.TrodAll enc P W' 0 sp true f.params.toList args.toList ds p := fun sp hsp => trodAll_stays hl hb hts hA hlt hsp
  have hres : ∀ (b : Nat) (sp : Nat → Bool) (hd : Bool), DataW.TrodAll enc P W' b sp hd f.resultTypes.toList ((Value.bool true).resultList f.resultTypes.size) [.lit (.bool true)] [] := by
    intro b sp hd
    rw [hr]
    exact trodAll_cons_mk (shut_bool hbool _) trodAll_mk0
  refine ⟨ds, [], p, [], p, [], hW', ?_, ?_, ?_, ?_, fun h => by cases h⟩
  · rw [List.append_nil, efn]; exact hres _ _ _
  · rw [List.append_nil, efn]; exact hargs _ hold
  · rw [List.append_nil, efn, hvars]; rfl
  · exact World.keptBut_mono (fun x hx => ⟨hx, by simpa using hx⟩) (hb.frame (· ∈ p))
end
end Go
/- The frame of a law's proof over a seat without a table: the argument A + B*sqrt(3) opened. -/
namespace Go.Proofs.YtomodppdolfinaaGreat
open Go.ChangeShapes Go.WideShapes Go.ChangeAt Go.RowKit Go.Sub Go.Joins
theorem cellsInt : Tryz.prog.cellsOf 3 = 1 := by kernel_rfl
theorem own : ownKnob Tryz.prog.godebug = none := by kernel_rfl
theorem cellsCyc : Tryz.prog.cellsOf 23 = 4 := by kernel_rfl
section
variable {H : Type} {enc : TypeId × Value → H} {w : World} {base : Nat} {spare : Nat → Bool} {held : Bool}
set_option maxRecDepth 100000 in
theorem open_surd {r : Reach} {b0 : Nat} {v : Value} {d : DataW H} {p : List MemPlace} (hval : Value.okWide Tryz.prog w r b0 64 v) (h : DataW.Trod enc Tryz.prog w base spare held 64 v d p) :
    ∃ a b : Int, v = .agg #[.int .i64 a, .int .i64 b] ∧ (-9223372036854775808 ≤ a ∧ a ≤ 9223372036854775807) ∧ (-9223372036854775808 ≤ b ∧ b ≤ 9223372036854775807) := by
  obtain ⟨c0, c1, y0, y1, m, rfl, rfl, rfl, hy0, hy1⟩ := open_agg2 Tryz.underlying64 (by kernel_rfl) (by kernel_rfl) hval h
  obtain ⟨a, ha, _, wa⟩ := DataW.trod_int Tryz.underlying3 hy0
  obtain ⟨b, hb, _, wb⟩ := DataW.trod_int Tryz.underlying3 hy1
  refine ⟨a, b, ?_, wf_i64 wa, wf_i64 wb⟩
  simp only [List.cons.injEq, and_true] at ha hb
  rw [ha, hb]
end
end Go.Proofs.YtomodppdolfinaaGreat
/- Arguments that are built of integers and bools alone (arrays and structures of them), opened all at once. -/
namespace Go
open Go.ChangeShapes Go.WideShapes Go.ChangeAt Go.RowKit
/-- The cells are as the leaves say: true for an integer, false for a bool. -/
def Opens : List Bool → List Value → Prop
  | [], cs => cs = []
  | true :: ls, cs => ∃ k : Int, (-9223372036854775808 ≤ k ∧ k ≤ 9223372036854775807) ∧ ∃ r, cs = .int .i64 k :: r ∧ Opens ls r
  | false :: ls, cs => ∃ b : Bool, ∃ r, cs = .bool b :: r ∧ Opens ls r
theorem Opens.append : ∀ {l m : List Bool} {cs ds : List Value}, Opens l cs → Opens m ds → Opens (l ++ m) (cs ++ ds)
  | [], _, _, _, h, h' => by
    have h : _ = _ := h
    subst h
    exact h'
  | true :: _, _, _, _, h, h' => by
    obtain ⟨k, hk, r, rfl, hr⟩ := h
    exact ⟨k, hk, _, rfl, hr.append h'⟩
  | false :: _, _, _, _, h, h' => by
    obtain ⟨k, r, rfl, hr⟩ := h
    exact ⟨k, _, rfl, hr.append h'⟩
theorem Opens.length : ∀ {l : List Bool} {cs : List Value}, Opens l cs → cs.length = l.length
  | [], _, h => by
    have h : _ = _ := h
    subst h
    rfl
  | true :: _, _, h => by
    obtain ⟨k, hk, r, rfl, hr⟩ := h
    simp [hr.length]
  | false :: _, _, h => by
    obtain ⟨k, r, rfl, hr⟩ := h
    simp [hr.length]
/-- The leaves of the fields, one behind the other. -/
def flatFs (P : Program) (fl : TypeId → Option (List Bool)) : List Field → Nat → Option (List Bool)
  | [], _ => some []
  | f :: fs, off => match fl f.type with
    | some l => if f.offset = off ∧ P.cellsOf f.type = l.length then (flatFs P fl fs (off + l.length)).map (l ++ ·) else none
    | none => none
/-- The leaves of a type. -/
def flat (P : Program) : Nat → TypeId → Option (List Bool)
  | 0, _ => none
  | n + 1, t => match P.underlying t with
    | some (.int .i64) => some [true]
    | some .bool => some [false]
    | some (.array m e) => match flat P n e with
      | some l => if P.cellsOf e = l.length ∧ P.cellsOf t = m * l.length then some (List.replicate m l).flatten else none
      | none => none
    | some (.struct fs) => match flatFs P (flat P n) fs.toList 0 with
      | some l => if P.cellsOf t = l.length then some l else none
      | none => none
    | _ => none
section
variable {H : Type} {enc : TypeId × Value → H} {P : Program} {w : World} {base : Nat} {spare : Nat → Bool} {held : Bool}
theorem opens_array {l : List Bool} {xs : List Value} : ∀ (m : Nat) (cs : List Value), cs.length = m * l.length → (∀ i, i < m → Opens l ((cs.drop (i * l.length)).take l.length)) → Opens (List.replicate m l).flatten cs
  | 0, cs, hl, _ => by
    have : cs = [] := List.eq_nil_of_length_eq_zero (by simpa using hl)
    subst this
    rfl
  | m + 1, cs, hl, h => by
    rw [List.replicate_succ, List.flatten_cons]
    have e : cs = cs.take l.length ++ cs.drop l.length := (List.take_append_drop _ _).symm
    rw [e]
    have h0 := h 0 (by omega)
    rw [Nat.zero_mul, List.drop_zero] at h0
    refine h0.append (opens_array (xs := xs) m _ ?_ fun i hi => ?_)
    · rw [List.length_drop, hl, Nat.succ_mul]; omega
    · have := h (i + 1) (by omega)
      rw [Nat.succ_mul] at this
      rw [List.drop_drop]
      rwa [Nat.add_comm] at this
theorem opens_fields {fl : TypeId → Option (List Bool)} {tr : TypeId → List Value → Prop} (hfl : ∀ t l cs, fl t = some l → tr t cs → Opens l cs) :
    ∀ (fs : List Field) (off : Nat) (ls : List Bool) (cs : List Value), flatFs P fl fs off = some ls → cs.length = off + ls.length →
      (∀ f ∈ fs, tr f.type ((cs.drop f.offset).take (P.cellsOf f.type))) → Opens ls (cs.drop off)
  | [], off, ls, cs, h, hl, _ => by
    simp only [flatFs, Option.some.injEq] at h
    subst h
    have : cs.drop off = [] := List.drop_of_length_le (by simpa using Nat.le_of_eq hl)
    rw [this]
    rfl
  | f :: fs, off, ls, cs, h, hl, ht => by
    simp only [flatFs] at h
    split at h
    · rename_i l hfle
      split at h
      · rename_i hc
        obtain ⟨h1, h2⟩ := hc
        obtain ⟨r, hr, rfl⟩ := Option.map_eq_some_iff.1 h
        have h3 := hfl _ _ _ hfle (ht f List.mem_cons_self)
        rw [h1, h2] at h3
        have h4 := opens_fields hfl fs (off + l.length) r cs hr (by rw [hl, List.length_append]; omega) fun g hg => ht g (List.mem_cons_of_mem _ hg)
        have e : cs.drop off = (cs.drop off).take l.length ++ cs.drop (off + l.length) := by
          rw [← List.drop_drop]
          exact (List.take_append_drop _ _).symm
        rw [e]
        exact h3.append h4
      · cases h
    · cases h
theorem flat_opens : ∀ (n : Nat) (t : TypeId) (ls : List Bool), flat P n t = some ls → ∀ (fuel : Nat) (cs : List Value) (x : DataW H × List MemPlace), DataW.trod enc P w base spare held fuel t cs = some x → Opens ls cs
  | 0, _, _, h => by cases h
  | n + 1, t, ls, h => by
    intro fuel cs x hd
    simp only [flat] at h
    split at h
    · rename_i hu
      obtain rfl := Option.some.inj h
      obtain ⟨k, rfl, _, hw⟩ := DataW.trod_int hu hd
      exact ⟨k, wf_i64 hw, [], rfl, rfl⟩
    · rename_i hu
      obtain rfl := Option.some.inj h
      obtain ⟨b, rfl, _⟩ := DataW.trod_bool hu hd
      exact ⟨b, [], rfl, rfl⟩
    · rename_i m e hu
      split at h
      · rename_i l hl
        split at h
        · rename_i hc
          obtain rfl := Option.some.inj h
          obtain ⟨xs, k, _, _, hlen, hxs, hel⟩ := DataW.trod_array hu hd
          refine opens_array (xs := []) m cs (by rw [hlen]; exact hc.2) fun i hi => ?_
          have h1 := hel i hi
          obtain ⟨y, hy⟩ : ∃ y, xs[i]? = some y := ⟨_, List.getElem?_eq_getElem (by omega)⟩
          rw [hy, hc.1] at h1
          exact flat_opens n e l hl _ _ _ h1
        · cases h
      · cases h
    · rename_i fs hu
      split at h
      · rename_i l hl
        split at h
        · rename_i hc
          obtain rfl := Option.some.inj h
          obtain ⟨xs, k, _, _, hlen, hxs, hf⟩ := DataW.trod_struct hu hd
          have := opens_fields (P := P) (fl := flat P n) (tr := fun t cs => ∃ x, DataW.trod enc P w base spare held k t cs = some x) (fun t l cs h1 ⟨x, h2⟩ => flat_opens n t l h1 _ _ _ h2) fs.toList 0 l cs hl (by rw [hlen, hc]; omega) fun f hf' => by
            obtain ⟨i, hi, rfl⟩ := List.getElem_of_mem hf'
            have hi' : i < fs.size := by simpa using hi
            have h1 := hf i _ (Array.getElem?_eq_getElem hi')
            rw [List.getElem?_eq_getElem (by omega)] at h1
            exact ⟨_, h1⟩
          rwa [List.drop_zero] at this
        · cases h
      · cases h
    · cases h
end
end Go
/- An argument of integers and bools, opened as two functions of the place: long ones at once. -/
namespace Go
open Go.ChangeShapes Go.WideShapes Go.ChangeAt Go.RowKit
def leafs (ks : Nat → Int) (bs : Nat → Bool) : List Bool → Nat → List Value
  | [], _ => []
  | true :: ls, n => .int .i64 (ks n) :: leafs ks bs ls (n + 1)
  | false :: ls, n => .bool (bs n) :: leafs ks bs ls (n + 1)
theorem leafs_congr {ks ks' : Nat → Int} {bs bs' : Nat → Bool} : ∀ (ls : List Bool) (n : Nat), (∀ i, n ≤ i → ks i = ks' i ∧ bs i = bs' i) → leafs ks bs ls n = leafs ks' bs' ls n
  | [], _, _ => rfl
  | true :: ls, n, h => by
    show Value.int .i64 (ks n) :: _ = Value.int .i64 (ks' n) :: _
    rw [(h n (Nat.le_refl _)).1, leafs_congr ls (n + 1) fun i hi => h i (by omega)]
  | false :: ls, n, h => by
    show Value.bool (bs n) :: _ = Value.bool (bs' n) :: _
    rw [(h n (Nat.le_refl _)).2, leafs_congr ls (n + 1) fun i hi => h i (by omega)]
theorem Opens.fn : ∀ (ls : List Bool) (cs : List Value) (n : Nat), Opens ls cs → ∃ (ks : Nat → Int) (bs : Nat → Bool), (∀ i, -9223372036854775808 ≤ ks i ∧ ks i ≤ 9223372036854775807) ∧ cs = leafs ks bs ls n
  | [], cs, n, h => ⟨fun _ => 0, fun _ => false, fun _ => ⟨by dsimp only; decide, by dsimp only; decide⟩, h⟩
  | true :: ls, cs, n, h => by
    obtain ⟨k, hk, r, rfl, hr⟩ := h
    obtain ⟨ks, bs, h1, rfl⟩ := Opens.fn ls r (n + 1) hr
    refine ⟨fun i => if i = n then k else ks i, bs, fun i => ?_, ?_⟩
    · show _ ≤ (if i = n then k else ks i) ∧ (if i = n then k else ks i) ≤ _
      split
      · exact hk
      · exact h1 i
    · show _ = Value.int .i64 (if n = n then k else ks n) :: _
      rw [if_pos rfl]
      congr 1
      refine leafs_congr ls (n + 1) fun i hi => ⟨?_, rfl⟩
      show ks i = if i = n then k else ks i
      rw [if_neg (by omega)]
  | false :: ls, cs, n, h => by
    obtain ⟨k, r, rfl, hr⟩ := h
    obtain ⟨ks, bs, h1, rfl⟩ := Opens.fn ls r (n + 1) hr
    refine ⟨ks, fun i => if i = n then k else bs i, h1, ?_⟩
    show _ = Value.bool (if n = n then k else bs n) :: _
    rw [if_pos rfl]
    congr 1
    refine leafs_congr ls (n + 1) fun i hi => ⟨rfl, ?_⟩
    show bs i = if i = n then k else bs i
    rw [if_neg (by omega)]
end Go
/- DistanceLoops returns true for every input, and its arguments read behind the call as they read before. -/
namespace Go.Proofs.YtomodppdolfinaaGreat.distanceLoops
open Go.ChangeShapes Go.WideShapes Go.ChangeAt Go.RowKit Go.Sub Go.Joins
theorem laidOut : laidOutB Tryz.prog = true := by kernel_rfl

set_option maxRecDepth 100000 in
theorem contract (H : Type) (enc : TypeId × Value → H) (W : World) (base : Nat) (args : Array Value) (ds gs : List (DataW H)) (before : List MemPlace)
    (hval : ∀ (j : Nat) t v, Tryz.f3.params[j]? = some t → args[j]? = some v → Value.okWide Tryz.prog W .any base t v)
    (hW : DataW.Whole enc Tryz.prog Tryz.f3.params.toList Rows.distanceLoopsSpec.vars false W args.toList ds gs before) :
    Calls Tryz.prog 3 args W fun e W' => ∃ v, e = .returned v ∧ Rows.distanceLoopsSpec.post enc Tryz.prog Tryz.f3 false true false false W args v W' := by
  have hW' := hW
  obtain ⟨p, q, hA0, hV, rfl, hfz, hnd⟩ := hW
  have hA : DataW.TrodAll enc Tryz.prog W 0 (fun _ => true) true Tryz.f3.params.toList args.toList ds p := hA0
  rw [Tryz.params3] at hA hval
  obtain ⟨rfl, rfl⟩ := trodVars_none hV
  obtain ⟨v0, vs0, d0, ds0, p0, q0, hargs, rfl, rfl, h0, r0⟩ := trodAll_cons hA
  obtain ⟨v1, vs1, d1, ds1, p1, q1, rfl, rfl, rfl, h1, r1⟩ := trodAll_cons r0
  obtain ⟨v2, vs2, d2, ds2, p2, q2, rfl, rfl, rfl, h2, r2⟩ := trodAll_cons r1
  obtain ⟨rfl, rfl, rfl⟩ := trodAll_nil r2
  obtain rfl : args = #[v0, v1, v2] := by cases args; simp_all
  obtain ⟨cs0, rfl, _⟩ := okWide_arr Tryz.underlying24 (hval 0 24 v0 rfl rfl)
  obtain ⟨fu0, hf0⟩ := h0
  obtain ⟨l0⟩ := cs0
  obtain ⟨ks0, bs0, hk0, rfl⟩ := Opens.fn _ _ 0 (flat_opens 8 24 [true, true, true, true, true, true, true, true, true, true, true, true] (by kernel_rfl) _ _ _ hf0)
  obtain ⟨cs1, rfl, _⟩ := okWide_arr Tryz.underlying24 (hval 1 24 v1 rfl rfl)
  obtain ⟨fu1, hf1⟩ := h1
  obtain ⟨l1⟩ := cs1
  obtain ⟨ks1, bs1, hk1, rfl⟩ := Opens.fn _ _ 0 (flat_opens 8 24 [true, true, true, true, true, true, true, true, true, true, true, true] (by kernel_rfl) _ _ _ hf1)
  obtain ⟨cs2, rfl, _⟩ := okWide_arr Tryz.underlying25 (hval 2 25 v2 rfl rfl)
  obtain ⟨fu2, hf2⟩ := h2
  obtain ⟨l2⟩ := cs2
  obtain ⟨ks2, bs2, hk2, rfl⟩ := Opens.fn _ _ 0 (flat_opens 8 25 [true, true, true] (by kernel_rfl) _ _ _ hf2)
  refine (loops_walk ⟨(ks0 0), (ks0 1), (ks0 2), (ks0 3)⟩ ⟨(ks0 4), (ks0 5), (ks0 6), (ks0 7)⟩ ⟨(ks0 8), (ks0 9), (ks0 10), (ks0 11)⟩ ⟨(ks1 0), (ks1 1), (ks1 2), (ks1 3)⟩ ⟨(ks1 4), (ks1 5), (ks1 6), (ks1 7)⟩ ⟨(ks1 8), (ks1 9), (ks1 10), (ks1 11)⟩ (ks2 0) (ks2 1) (ks2 2) W).mono fun e W' ⟨he, hq⟩ => ?_
  subst he
  refine ⟨_, rfl, law_post laidOut ?_ (by kernel_rfl) Tryz.underlying4 rfl ?_ hW' hq.below (by rw [Tryz.params3]; rfl)⟩
  · rw [Tryz.params3]
    intro t ht
    simp only [List.mem_cons, List.mem_nil_iff, or_false] at ht
    rcases ht with rfl | rfl | rfl
    · exact ⟨by kernel_rfl, of_decide_eq_true (by kernel_rfl)⟩
    · exact ⟨by kernel_rfl, of_decide_eq_true (by kernel_rfl)⟩
    · exact ⟨by kernel_rfl, of_decide_eq_true (by kernel_rfl)⟩
  · intro ds' hd
    rw [Tryz.params3] at hd
    match ds', hd with
    | [e0, e1, e2], _ => rfl

set_option maxRecDepth 100000 in
theorem lifted (os : Os) (started : os.Started) (H : Type) (enc : TypeId × Value → H) :
    ReturnsInHanded {} Tryz.checked os 3 .any (Rows.distanceLoopsSpec.pre6 enc Tryz.prog Tryz.f3 Rows.distanceLoopsRow.domain false) (Rows.distanceLoopsSpec.post enc Tryz.prog Tryz.f3 false true false false) := by
  refine returnsInHanded_of_change (C := Tryz.checked) own started (by kernel_rfl) Tryz.func3
    (ChangeSpec.witness6 (enc := enc) (C := Tryz.checked) false ⟨#[], #[Value.agg #[Value.int .i64 0, Value.int .i64 0, Value.int .i64 0, Value.int .i64 0, Value.int .i64 0, Value.int .i64 0, Value.int .i64 0, Value.int .i64 0, Value.int .i64 0, Value.int .i64 0, Value.int .i64 0, Value.int .i64 0], Value.agg #[Value.int .i64 0, Value.int .i64 0, Value.int .i64 0, Value.int .i64 0, Value.int .i64 0, Value.int .i64 0, Value.int .i64 0, Value.int .i64 0, Value.int .i64 0, Value.int .i64 0, Value.int .i64 0, Value.int .i64 0], Value.agg #[Value.int .i64 0, Value.int .i64 0, Value.int .i64 0]], []⟩ 8 (by kernel_rfl) (by kernel_rfl) (by kernel_rfl) (by kernel_rfl)) ?_
  intro W base args ds gs before hval hW _ _
  exact contract H enc W base args ds gs before hval hW
/-- The statement. -/
theorem said : Rows.DistanceLoopsSaid :=
  OpenClaim.holds_of_wide 3 Tryz.f3 rfl rfl rfl rfl rfl rfl rfl ⟨rfl, rfl, rfl, rfl, rfl⟩ rfl rfl rfl rfl rfl (by kernel_rfl) Tryz.func3 (by kernel_rfl)
    (of_decide_eq_true (by kernel_rfl)) (by unfold Func.isWrapper; first | (rw [if_pos (by decide +kernel)]; kernel_rfl) | (rw [if_neg (by decide +kernel)]; exact ⟨rfl, rfl⟩))
    (fun os started H enc _ => lifted os started H enc)
#print axioms said
end Go.Proofs.YtomodppdolfinaaGreat.distanceLoops
