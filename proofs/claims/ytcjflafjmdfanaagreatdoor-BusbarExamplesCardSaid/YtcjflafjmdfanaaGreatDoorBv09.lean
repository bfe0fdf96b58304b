
/- What Sub of package integer, and far and wideSign of package surd return. -/
import Derived.Test.YtcjflafjmdfanaaGreatDoorBv08
set_option maxHeartbeats 64000000
set_option maxRecDepth 100000
set_option linter.unusedSimpArgs false
set_option linter.unusedVariables false
namespace Go.Proofs.YtcjflafjmdfanaaGreatDoor
open Go.RowKit Go.Sub
theorem isub_z (b : Bool) (A : Option Addr) (n c : Nat) (x : Int) (b' : Bool) (B : Option Addr) (m d : Nat) (y : Int) (w : World) (bx : b = decide (x < 0)) (rx : Rd w A n c (dig x.natAbs)) (hx : Sm x) (by' : b' = decide (y < 0)) (ry : Rd w B m d (dig y.natAbs)) (hy : Sm y) (hxy : Sm (x - y)) :
  Calls Tryz.prog 159 #[.agg #[.bool b, .slice A n c], .agg #[.bool b', .slice B m d]] w (RetZ2 (x - y) w) := by
 have ln : n ≤ 12 := by rw [← rx.1]; exact hx.len
 have lm : m ≤ 12 := by rw [← ry.1]; exact hy.len
 have HX := hh rx
 have HY := hh ry
 have HVX := hh (fun w' (hq : Q w w') => ivalid_z b A n c x w' bx (rx.q hq) hx)
 have HVY := hh (fun w' (hq : Q w w') => ivalid_z b' B m d y w' by' (ry.q hq) hy)
 have HE : sv b x.natAbs + sv (!b') y.natAbs = x - y := by
  rw [bx, by']
  unfold sv
  by_cases h1 : x < 0 <;> by_cases h2 : y < 0 <;> simp [h1, h2] <;> omega
 have SM : Hid (Sm (sv b x.natAbs + sv (!b') y.natAbs)) := hh (by rw [HE]; exact hxy)
 rw [← HE]
 clear rx ry hx hy hxy bx by' HE
 cases b <;> cases b'
 ·obtain ⟨zz, ez⟩ : ∃ zz, zz = sv false x.natAbs + sv (!false) y.natAbs := ⟨_, rfl⟩
  rw [← ez] at SM ⊢
  have HSUM := hh (fun w' (hq : Q w w') => isum_z false A n c x.natAbs true B m d y.natAbs w' (HX.o.q hq) (HY.o.q hq) ln lm (ez ▸ SM.o))
  have EZ : Hid (sv false x.natAbs + sv true y.natAbs = zz) := hh ez.symm
  rw [EZ.o] at HSUM
  clear ez
  go_enter Tryz.func159, Tryz.ntmps159
  go_wp2_with (first | (go_at_call 171; first | ((with_reducible refine (HVX.o _ Q.i).q ?_); intro kj) | ((with_reducible refine (HVY.o _ Q.i).q ?_); intro kj)) | (go_at_call 176; (with_reducible refine (HSUM.o _ Q.i).mono ?_); rintro e w' ⟨A2, n2, c2, k2, rfl, rfl, hr2, hf2⟩; have HR2 := hh hr2; have HF2 := hh hf2; clear hr2 hf2; obtain ⟨nb2, hnb2⟩ : ∃ nb, decide (zz < 0) = nb := ⟨_, rfl⟩; rw [hnb2]; have HB2 := hh hnb2; clear hnb2))
  refine bodyPost_ret (v := .tuple #[.agg #[.bool nb2, .slice A2 n2 c2], .int .i64 0]) (by simp [results, Tryz.results159, go_sem]) rfl (RetI2.of (A := A2) (n := n2) (c := c2) (by rw [HB2.o]) ?_ ?_ (HF2.o.q Q.i))
  ·exact Q.i
  have := HR2.o
  simp only [World.jk_jk] at this ⊢
  exact this.swap (by simp) (HF2.o.q Q.i)
 ·obtain ⟨zz, ez⟩ : ∃ zz, zz = sv false x.natAbs + sv (!true) y.natAbs := ⟨_, rfl⟩
  rw [← ez] at SM ⊢
  have HSUM := hh (fun w' (hq : Q w w') => isum_z false A n c x.natAbs false B m d y.natAbs w' (HX.o.q hq) (HY.o.q hq) ln lm (ez ▸ SM.o))
  have EZ : Hid (sv false x.natAbs + sv false y.natAbs = zz) := hh ez.symm
  rw [EZ.o] at HSUM
  clear ez
  go_enter Tryz.func159, Tryz.ntmps159
  go_wp2_with (first | (go_at_call 171; first | ((with_reducible refine (HVX.o _ Q.i).q ?_); intro kj) | ((with_reducible refine (HVY.o _ Q.i).q ?_); intro kj)) | (go_at_call 176; (with_reducible refine (HSUM.o _ Q.i).mono ?_); rintro e w' ⟨A2, n2, c2, k2, rfl, rfl, hr2, hf2⟩; have HR2 := hh hr2; have HF2 := hh hf2; clear hr2 hf2; obtain ⟨nb2, hnb2⟩ : ∃ nb, decide (zz < 0) = nb := ⟨_, rfl⟩; rw [hnb2]; have HB2 := hh hnb2; clear hnb2))
  refine bodyPost_ret (v := .tuple #[.agg #[.bool nb2, .slice A2 n2 c2], .int .i64 0]) (by simp [results, Tryz.results159, go_sem]) rfl (RetI2.of (A := A2) (n := n2) (c := c2) (by rw [HB2.o]) ?_ ?_ (HF2.o.q Q.i))
  ·exact Q.i
  have := HR2.o
  simp only [World.jk_jk] at this ⊢
  exact this.swap (by simp) (HF2.o.q Q.i)
 ·obtain ⟨zz, ez⟩ : ∃ zz, zz = sv true x.natAbs + sv (!false) y.natAbs := ⟨_, rfl⟩
  rw [← ez] at SM ⊢
  have HSUM := hh (fun w' (hq : Q w w') => isum_z true A n c x.natAbs true B m d y.natAbs w' (HX.o.q hq) (HY.o.q hq) ln lm (ez ▸ SM.o))
  have EZ : Hid (sv true x.natAbs + sv true y.natAbs = zz) := hh ez.symm
  rw [EZ.o] at HSUM
  clear ez
  go_enter Tryz.func159, Tryz.ntmps159
  go_wp2_with (first | (go_at_call 171; first | ((with_reducible refine (HVX.o _ Q.i).q ?_); intro kj) | ((with_reducible refine (HVY.o _ Q.i).q ?_); intro kj)) | (go_at_call 176; (with_reducible refine (HSUM.o _ Q.i).mono ?_); rintro e w' ⟨A2, n2, c2, k2, rfl, rfl, hr2, hf2⟩; have HR2 := hh hr2; have HF2 := hh hf2; clear hr2 hf2; obtain ⟨nb2, hnb2⟩ : ∃ nb, decide (zz < 0) = nb := ⟨_, rfl⟩; rw [hnb2]; have HB2 := hh hnb2; clear hnb2))
  refine bodyPost_ret (v := .tuple #[.agg #[.bool nb2, .slice A2 n2 c2], .int .i64 0]) (by simp [results, Tryz.results159, go_sem]) rfl (RetI2.of (A := A2) (n := n2) (c := c2) (by rw [HB2.o]) ?_ ?_ (HF2.o.q Q.i))
  ·exact Q.i
  have := HR2.o
  simp only [World.jk_jk] at this ⊢
  exact this.swap (by simp) (HF2.o.q Q.i)
 obtain ⟨zz, ez⟩ : ∃ zz, zz = sv true x.natAbs + sv (!true) y.natAbs := ⟨_, rfl⟩
 rw [← ez] at SM ⊢
 have HSUM := hh (fun w' (hq : Q w w') => isum_z true A n c x.natAbs false B m d y.natAbs w' (HX.o.q hq) (HY.o.q hq) ln lm (ez ▸ SM.o))
 have EZ : Hid (sv true x.natAbs + sv false y.natAbs = zz) := hh ez.symm
 rw [EZ.o] at HSUM
 clear ez
 go_enter Tryz.func159, Tryz.ntmps159
 go_wp2_with (first | (go_at_call 171; first | ((with_reducible refine (HVX.o _ Q.i).q ?_); intro kj) | ((with_reducible refine (HVY.o _ Q.i).q ?_); intro kj)) | (go_at_call 176; (with_reducible refine (HSUM.o _ Q.i).mono ?_); rintro e w' ⟨A2, n2, c2, k2, rfl, rfl, hr2, hf2⟩; have HR2 := hh hr2; have HF2 := hh hf2; clear hr2 hf2; obtain ⟨nb2, hnb2⟩ : ∃ nb, decide (zz < 0) = nb := ⟨_, rfl⟩; rw [hnb2]; have HB2 := hh hnb2; clear hnb2))
 refine bodyPost_ret (v := .tuple #[.agg #[.bool nb2, .slice A2 n2 c2], .int .i64 0]) (by simp [results, Tryz.results159, go_sem]) rfl (RetI2.of (A := A2) (n := n2) (c := c2) (by rw [HB2.o]) ?_ ?_ (HF2.o.q Q.i))
 ·exact Q.i
 have := HR2.o
 simp only [World.jk_jk] at this ⊢
 exact this.swap (by simp) (HF2.o.q Q.i)
theorem far_z (j x k y : Int) (w : World) (hx0 : -1152921504606846976 ≤ x) (hx1 : x ≤ 1152921504606846976) (hj0 : -1152921504606846976 ≤ j) (hj1 : j ≤ 1152921504606846976) (hy0 : -1152921504606846976 ≤ y) (hy1 : y ≤ 1152921504606846976) (hk0 : -1152921504606846976 ≤ k) (hk1 : k ≤ 1152921504606846976) :
  Calls Tryz.prog 137 #[.int .i64 j, .int .i64 x, .int .i64 k, .int .i64 y] w (RetZ (j * x - k * y) w) := by
 have b1 := bd_mul hj0 hj1 hx0 hx1
 have b2 := bd_mul hk0 hk1 hy0 hy1
 have ox := hh (fun w => iof_any x w (by omega) (by omega))
 have oj := hh (fun w => iof_any j w (by omega) (by omega))
 have oy := hh (fun w => iof_any y w (by omega) (by omega))
 have ok := hh (fun w => iof_any k w (by omega) (by omega))
 have sx := hh (Sm.b100 (x := x) (by omega) (by omega))
 have sj := hh (Sm.b100 (x := j) (by omega) (by omega))
 have sy := hh (Sm.b100 (x := y) (by omega) (by omega))
 have sk := hh (Sm.b100 (x := k) (by omega) (by omega))
 have sjx := hh (Sm.sq (x := j) (y := x) (by omega) (by omega) (by omega) (by omega))
 have sky := hh (Sm.sq (x := k) (y := y) (by omega) (by omega) (by omega) (by omega))
 have sd : Hid (Sm (j * x - k * y)) := hh (Sm.of (by omega) (by omega))
 clear b1 b2 hx0 hx1 hj0 hj1 hy0 hy1 hk0 hk1
 go_enter Tryz.func137, Tryz.ntmps137
 go_wp2_with (first | (go_at_call 157; first | ((with_reducible refine (oj.o _).mono ?_); rintro e w' ⟨A1, n1, c1, k1, rfl, rfl, hr1, hf1⟩; have HR1 := hh hr1; clear hr1 hf1; obtain ⟨nb1, hnb1⟩ : ∃ nb, decide (j < 0) = nb := ⟨_, rfl⟩; rw [hnb1]; have HB1 := hh hnb1; clear hnb1) | ((with_reducible refine (ox.o _).mono ?_); rintro e w' ⟨A2, n2, c2, k2, rfl, rfl, hr2, hf2⟩; have HR2 := hh hr2; clear hr2 hf2; obtain ⟨nb2, hnb2⟩ : ∃ nb, decide (x < 0) = nb := ⟨_, rfl⟩; rw [hnb2]; have HB2 := hh hnb2; clear hnb2) | ((with_reducible refine (ok.o _).mono ?_); rintro e w' ⟨A4, n4, c4, k4, rfl, rfl, hr4, hf4⟩; have HR4 := hh hr4; clear hr4 hf4; obtain ⟨nb4, hnb4⟩ : ∃ nb, decide (k < 0) = nb := ⟨_, rfl⟩; rw [hnb4]; have HB4 := hh hnb4; clear hnb4) | ((with_reducible refine (oy.o _).mono ?_); rintro e w' ⟨A5, n5, c5, k5, rfl, rfl, hr5, hf5⟩; have HR5 := hh hr5; clear hr5 hf5; obtain ⟨nb5, hnb5⟩ : ∃ nb, decide (y < 0) = nb := ⟨_, rfl⟩; rw [hnb5]; have HB5 := hh hnb5; clear hnb5)) | (go_at_call 156; first | ((with_reducible refine (imul_z _ _ _ _ j _ _ _ _ x _ HB1.o.symm (HR1.o.q Q.i) sj.o HB2.o.symm (HR2.o.q Q.i) sx.o sjx.o).mono ?_); rintro e w' ⟨A3, n3, c3, k3, rfl, rfl, hr3, hf3⟩; have HR3 := hh hr3; clear hr3 hf3; obtain ⟨nb3, hnb3⟩ : ∃ nb, decide (j * x < 0) = nb := ⟨_, rfl⟩; rw [hnb3]; have HB3 := hh hnb3; clear hnb3) | ((with_reducible refine (imul_z _ _ _ _ k _ _ _ _ y _ HB4.o.symm (HR4.o.q Q.i) sk.o HB5.o.symm (HR5.o.q Q.i) sy.o sky.o).mono ?_); rintro e w' ⟨A6, n6, c6, k6, rfl, rfl, hr6, hf6⟩; have HR6 := hh hr6; clear hr6 hf6; obtain ⟨nb6, hnb6⟩ : ∃ nb, decide (k * y < 0) = nb := ⟨_, rfl⟩; rw [hnb6]; have HB6 := hh hnb6; clear hnb6)) | (go_at_call 159; refine (isub_z _ _ _ _ (j * x) _ _ _ _ (k * y) _ HB3.o.symm (HR3.o.q Q.i) sjx.o HB6.o.symm (HR6.o.q Q.i) sky.o sd.o).mono ?_; rintro e w' ⟨A7, n7, c7, k7, rfl, rfl, hr7, hf7⟩; have HR7 := hh hr7; have HF7 := hh hf7; clear hr7 hf7; obtain ⟨nb7, hnb7⟩ : ∃ nb, decide (j * x - k * y < 0) = nb := ⟨_, rfl⟩; rw [hnb7]; have HB7 := hh hnb7; clear hnb7))
 refine bodyPost_ret (v := .agg #[.bool nb7, .slice A7 n7 c7]) (by simp [results, Tryz.results137, go_sem]) rfl (RetI.of (A := A7) (n := n7) (c := c7) (by rw [HB7.o]) ?_ ?_ (HF7.o.q Q.i))
 ·exact Q.i
 have := HR7.o.q ((Q.refl _).alloc (.cells #[.bool nb7, .slice A7 n7 c7] 196))
 simp only [World.alloc_jk, World.jk_jk] at this ⊢
 exact this.swap (by simp) (HF7.o.q Q.i)
theorem wide_0m (b : Bool) (A : Option Addr) (n c : Nat) (b' : Bool) (B : Option Addr) (m d : Nat) (w : World) (SX : Hid (∀ w', Q w w' → Calls Tryz.prog 155 #[.agg #[.bool b, .slice A n c]] w' fun e w'' => e = .returned (.int .i64 (0)) ∧ Q w' w'')) (SY : Hid (∀ w', Q w w' → Calls Tryz.prog 155 #[.agg #[.bool b', .slice B m d]] w' fun e w'' => e = .returned (.int .i64 (-1)) ∧ Q w' w'')) :
  Calls Tryz.prog 136 #[.agg #[.bool b, .slice A n c], .agg #[.bool b', .slice B m d]] w fun e w' => e = .returned (.int .i64 (-1)) ∧ Q w w' := by
 go_enter Tryz.func136, Tryz.ntmps136
 go_wp2
 try simp only [List.append]
 refine wrj (by kernel_rfl) ?_
 repeat (go_big_quiet_step (((go_at_call 155; first | with_reducible exact Calls.jk_of (SX.o _ Q.i) | with_reducible exact Calls.jk_of (SY.o _ Q.i)))))
 refine wq0 fun kq => ?_
 go_wp2
 go_ret
 refine ⟨rfl, ?_⟩
 exact Q.i
theorem wide_00 (b : Bool) (A : Option Addr) (n c : Nat) (b' : Bool) (B : Option Addr) (m d : Nat) (w : World) (SX : Hid (∀ w', Q w w' → Calls Tryz.prog 155 #[.agg #[.bool b, .slice A n c]] w' fun e w'' => e = .returned (.int .i64 (0)) ∧ Q w' w'')) (SY : Hid (∀ w', Q w w' → Calls Tryz.prog 155 #[.agg #[.bool b', .slice B m d]] w' fun e w'' => e = .returned (.int .i64 (0)) ∧ Q w' w'')) :
  Calls Tryz.prog 136 #[.agg #[.bool b, .slice A n c], .agg #[.bool b', .slice B m d]] w fun e w' => e = .returned (.int .i64 (0)) ∧ Q w w' := by
 go_enter Tryz.func136, Tryz.ntmps136
 go_wp2
 try simp only [List.append]
 refine wrj (by kernel_rfl) ?_
 repeat (go_big_quiet_step (((go_at_call 155; first | with_reducible exact Calls.jk_of (SX.o _ Q.i) | with_reducible exact Calls.jk_of (SY.o _ Q.i)))))
 refine wq0 fun kq => ?_
 go_wp2
 go_ret
 refine ⟨rfl, ?_⟩
 exact Q.i
theorem wide_0p (b : Bool) (A : Option Addr) (n c : Nat) (b' : Bool) (B : Option Addr) (m d : Nat) (w : World) (SX : Hid (∀ w', Q w w' → Calls Tryz.prog 155 #[.agg #[.bool b, .slice A n c]] w' fun e w'' => e = .returned (.int .i64 (0)) ∧ Q w' w'')) (SY : Hid (∀ w', Q w w' → Calls Tryz.prog 155 #[.agg #[.bool b', .slice B m d]] w' fun e w'' => e = .returned (.int .i64 (1)) ∧ Q w' w'')) :
  Calls Tryz.prog 136 #[.agg #[.bool b, .slice A n c], .agg #[.bool b', .slice B m d]] w fun e w' => e = .returned (.int .i64 (1)) ∧ Q w w' := by
 go_enter Tryz.func136, Tryz.ntmps136
 go_wp2
 try simp only [List.append]
 refine wrj (by kernel_rfl) ?_
 repeat (go_big_quiet_step (((go_at_call 155; first | with_reducible exact Calls.jk_of (SX.o _ Q.i) | with_reducible exact Calls.jk_of (SY.o _ Q.i)))))
 refine wq0 fun kq => ?_
 go_wp2
 go_ret
 refine ⟨rfl, ?_⟩
 exact Q.i
theorem wide_pp (b : Bool) (A : Option Addr) (n c : Nat) (b' : Bool) (B : Option Addr) (m d : Nat) (w : World) (SX : Hid (∀ w', Q w w' → Calls Tryz.prog 155 #[.agg #[.bool b, .slice A n c]] w' fun e w'' => e = .returned (.int .i64 (1)) ∧ Q w' w'')) (SY : Hid (∀ w', Q w w' → Calls Tryz.prog 155 #[.agg #[.bool b', .slice B m d]] w' fun e w'' => e = .returned (.int .i64 (1)) ∧ Q w' w'')) :
  Calls Tryz.prog 136 #[.agg #[.bool b, .slice A n c], .agg #[.bool b', .slice B m d]] w fun e w' => e = .returned (.int .i64 (1)) ∧ Q w w' := by
 go_enter Tryz.func136, Tryz.ntmps136
 go_wp2
 try simp only [List.append]
 refine wrj (by kernel_rfl) ?_
 repeat (go_big_quiet_step (((go_at_call 155; first | with_reducible exact Calls.jk_of (SX.o _ Q.i) | with_reducible exact Calls.jk_of (SY.o _ Q.i)))))
 refine wq0 fun kq => ?_
 go_wp2
 go_ret
 refine ⟨rfl, ?_⟩
 exact Q.i
theorem wide_mm (b : Bool) (A : Option Addr) (n c : Nat) (b' : Bool) (B : Option Addr) (m d : Nat) (w : World) (SX : Hid (∀ w', Q w w' → Calls Tryz.prog 155 #[.agg #[.bool b, .slice A n c]] w' fun e w'' => e = .returned (.int .i64 (-1)) ∧ Q w' w'')) (SY : Hid (∀ w', Q w w' → Calls Tryz.prog 155 #[.agg #[.bool b', .slice B m d]] w' fun e w'' => e = .returned (.int .i64 (-1)) ∧ Q w' w'')) :
  Calls Tryz.prog 136 #[.agg #[.bool b, .slice A n c], .agg #[.bool b', .slice B m d]] w fun e w' => e = .returned (.int .i64 (-1)) ∧ Q w w' := by
 go_enter Tryz.func136, Tryz.ntmps136
 go_wp2
 try simp only [List.append]
 refine wrj (by kernel_rfl) ?_
 repeat (go_big_quiet_step (((go_at_call 155; first | with_reducible exact Calls.jk_of (SX.o _ Q.i) | with_reducible exact Calls.jk_of (SY.o _ Q.i)))))
 refine wq0 fun kq => ?_
 go_wp2
 go_ret
 refine ⟨rfl, ?_⟩
 exact Q.i
theorem wide_p0 (b : Bool) (A : Option Addr) (n c : Nat) (b' : Bool) (B : Option Addr) (m d : Nat) (w : World) (SX : Hid (∀ w', Q w w' → Calls Tryz.prog 155 #[.agg #[.bool b, .slice A n c]] w' fun e w'' => e = .returned (.int .i64 (1)) ∧ Q w' w'')) (SY : Hid (∀ w', Q w w' → Calls Tryz.prog 155 #[.agg #[.bool b', .slice B m d]] w' fun e w'' => e = .returned (.int .i64 (0)) ∧ Q w' w'')) :
  Calls Tryz.prog 136 #[.agg #[.bool b, .slice A n c], .agg #[.bool b', .slice B m d]] w fun e w' => e = .returned (.int .i64 (1)) ∧ Q w w' := by
 go_enter Tryz.func136, Tryz.ntmps136
 go_wp2
 try simp only [List.append]
 refine wrj (by kernel_rfl) ?_
 repeat (go_big_quiet_step (((go_at_call 155; first | with_reducible exact Calls.jk_of (SX.o _ Q.i) | with_reducible exact Calls.jk_of (SY.o _ Q.i)))))
 refine wq0 fun kq => ?_
 go_wp2
 go_ret
 refine ⟨rfl, ?_⟩
 exact Q.i
theorem wide_m0 (b : Bool) (A : Option Addr) (n c : Nat) (b' : Bool) (B : Option Addr) (m d : Nat) (w : World) (SX : Hid (∀ w', Q w w' → Calls Tryz.prog 155 #[.agg #[.bool b, .slice A n c]] w' fun e w'' => e = .returned (.int .i64 (-1)) ∧ Q w' w'')) (SY : Hid (∀ w', Q w w' → Calls Tryz.prog 155 #[.agg #[.bool b', .slice B m d]] w' fun e w'' => e = .returned (.int .i64 (0)) ∧ Q w' w'')) :
  Calls Tryz.prog 136 #[.agg #[.bool b, .slice A n c], .agg #[.bool b', .slice B m d]] w fun e w' => e = .returned (.int .i64 (-1)) ∧ Q w w' := by
 go_enter Tryz.func136, Tryz.ntmps136
 go_wp2
 try simp only [List.append]
 refine wrj (by kernel_rfl) ?_
 repeat (go_big_quiet_step (((go_at_call 155; first | with_reducible exact Calls.jk_of (SX.o _ Q.i) | with_reducible exact Calls.jk_of (SY.o _ Q.i)))))
 refine wq0 fun kq => ?_
 go_wp2
 go_ret
 refine ⟨rfl, ?_⟩
 exact Q.i
theorem wide_pm1 (b : Bool) (A : Option Addr) (n c : Nat) (x : Int) (b' : Bool) (B : Option Addr) (m d : Nat) (y : Int) (w : World) (BX : Hid (b = decide (x < 0))) (HX : Hid (Rd w A n c (dig x.natAbs))) (BY : Hid (b' = decide (y < 0))) (HY : Hid (Rd w B m d (dig y.natAbs))) (hx : Sm x) (hy : Sm y) (hxx : Sm (x * x)) (hyy : Sm (y * y)) (h3 : Sm 3) (h3y : Sm (y * y * 3)) (SX : Hid (∀ w', Q w w' → Calls Tryz.prog 155 #[.agg #[.bool b, .slice A n c]] w' fun e w'' => e = .returned (.int .i64 1) ∧ Q w' w'')) (SY : Hid (∀ w', Q w w' → Calls Tryz.prog 155 #[.agg #[.bool b', .slice B m d]] w' fun e w'' => e = .returned (.int .i64 (-1)) ∧ Q w' w'')) (cv : Int) (EC : Hid (cmpI (x * x) (y * y * 3) = cv)) (hcv : 0 < cv) :
  Calls Tryz.prog 136 #[.agg #[.bool b, .slice A n c], .agg #[.bool b', .slice B m d]] w fun e w' => e = .returned (.int .i64 (1)) ∧ Q w w' := by
 have O3 := hh (fun w => iof_any 3 w (by decide) (by decide))
 go_enter Tryz.func136, Tryz.ntmps136
 go_wp2
 try simp only [List.append]
 refine wrj (by kernel_rfl) ?_
 repeat (go_big_quiet_step (((go_at_call 155; first | with_reducible exact Calls.jk_of (SX.o _ Q.i) | with_reducible exact Calls.jk_of (SY.o _ Q.i)))))
 refine wq0 fun kq => ?_
 go_wp2_with (go_at_call 156; first | ((with_reducible refine (imul_z _ _ _ _ x _ _ _ _ x _ BX.o (HX.o.q Q.i) hx BX.o (HX.o.q Q.i) hx hxx).mono ?_); rintro e w' ⟨A1, n1, c1, k1, rfl, rfl, hr1, hf1⟩; have HR1 := hh hr1; have HF1 := hh hf1; clear hr1 hf1; obtain ⟨nb1, hnb1⟩ : ∃ nb, decide (x * x < 0) = nb := ⟨_, rfl⟩; rw [hnb1]; have HB1 := hh hnb1; clear hnb1) | ((with_reducible refine (imul_z _ _ _ _ y _ _ _ _ y _ BY.o (HY.o.q Q.i) hy BY.o (HY.o.q Q.i) hy hyy).mono ?_); rintro e w' ⟨A2, n2, c2, k2, rfl, rfl, hr2, hf2⟩; have HR2 := hh hr2; have HF2 := hh hf2; clear hr2 hf2; obtain ⟨nb2, hnb2⟩ : ∃ nb, decide (y * y < 0) = nb := ⟨_, rfl⟩; rw [hnb2]; have HB2 := hh hnb2; clear hnb2))
 go_region_with
  (first | (go_at_call 157; (with_reducible refine (O3.o _).mono ?_); rintro e w' ⟨A3, n3, c3, k3, rfl, rfl, hr3, hf3⟩; (try rw [World.jk_drew] at hr3); have HR3 := hh hr3; clear hr3 hf3; obtain ⟨nb3, hnb3⟩ : ∃ nb, decide ((3 : Int) < 0) = nb := ⟨_, rfl⟩; rw [hnb3]; have HB3 := hh hnb3; clear hnb3) | (go_at_call 156; ((with_reducible refine (imul_z _ _ _ _ (y * y) _ _ _ _ 3 _ HB2.o.symm (HR2.o.q Q.i) hyy HB3.o.symm (HR3.o.q Q.i) h3 h3y).mono ?_); rintro e w' ⟨A4, n4, c4, k4, rfl, rfl, hr4, hf4⟩; have HR4 := hh hr4; have HF4 := hh hf4; clear hr4 hf4; obtain ⟨nb4, hnb4⟩ : ∃ nb, decide (y * y * 3 < 0) = nb := ⟨_, rfl⟩; rw [hnb4]; have HB4 := hh hnb4; clear hnb4)))
 all_goals (go_wp2_with (go_at_call 158; refine (icmp_z _ _ _ _ (x * x) _ _ _ _ (y * y * 3) _ HB1.o.symm (HR1.o.q Q.i) hxx HB4.o.symm (by exact HR4.o.swap2 (by simp) (HF4.o.q Q.i)) h3y).q ?_; intro kj; rw [EC.o]))
 all_goals go_ret
 all_goals
  refine ⟨rfl, ?_⟩
  exact Q.i
theorem wide_pm2 (b : Bool) (A : Option Addr) (n c : Nat) (x : Int) (b' : Bool) (B : Option Addr) (m d : Nat) (y : Int) (w : World) (BX : Hid (b = decide (x < 0))) (HX : Hid (Rd w A n c (dig x.natAbs))) (BY : Hid (b' = decide (y < 0))) (HY : Hid (Rd w B m d (dig y.natAbs))) (hx : Sm x) (hy : Sm y) (hxx : Sm (x * x)) (hyy : Sm (y * y)) (h3 : Sm 3) (h3y : Sm (y * y * 3)) (SX : Hid (∀ w', Q w w' → Calls Tryz.prog 155 #[.agg #[.bool b, .slice A n c]] w' fun e w'' => e = .returned (.int .i64 1) ∧ Q w' w'')) (SY : Hid (∀ w', Q w w' → Calls Tryz.prog 155 #[.agg #[.bool b', .slice B m d]] w' fun e w'' => e = .returned (.int .i64 (-1)) ∧ Q w' w'')) (cv : Int) (EC : Hid (cmpI (x * x) (y * y * 3) = cv)) (hcv : decide (0 < cv) = false) :
  Calls Tryz.prog 136 #[.agg #[.bool b, .slice A n c], .agg #[.bool b', .slice B m d]] w fun e w' => e = .returned (.int .i64 (-1)) ∧ Q w w' := by
 have O3 := hh (fun w => iof_any 3 w (by decide) (by decide))
 go_enter Tryz.func136, Tryz.ntmps136
 go_wp2
 try simp only [List.append]
 refine wrj (by kernel_rfl) ?_
 repeat (go_big_quiet_step (((go_at_call 155; first | with_reducible exact Calls.jk_of (SX.o _ Q.i) | with_reducible exact Calls.jk_of (SY.o _ Q.i)))))
 refine wq0 fun kq => ?_
 go_wp2_with (go_at_call 156; first | ((with_reducible refine (imul_z _ _ _ _ x _ _ _ _ x _ BX.o (HX.o.q Q.i) hx BX.o (HX.o.q Q.i) hx hxx).mono ?_); rintro e w' ⟨A1, n1, c1, k1, rfl, rfl, hr1, hf1⟩; have HR1 := hh hr1; have HF1 := hh hf1; clear hr1 hf1; obtain ⟨nb1, hnb1⟩ : ∃ nb, decide (x * x < 0) = nb := ⟨_, rfl⟩; rw [hnb1]; have HB1 := hh hnb1; clear hnb1) | ((with_reducible refine (imul_z _ _ _ _ y _ _ _ _ y _ BY.o (HY.o.q Q.i) hy BY.o (HY.o.q Q.i) hy hyy).mono ?_); rintro e w' ⟨A2, n2, c2, k2, rfl, rfl, hr2, hf2⟩; have HR2 := hh hr2; have HF2 := hh hf2; clear hr2 hf2; obtain ⟨nb2, hnb2⟩ : ∃ nb, decide (y * y < 0) = nb := ⟨_, rfl⟩; rw [hnb2]; have HB2 := hh hnb2; clear hnb2))
 go_region_with
  (first | (go_at_call 157; (with_reducible refine (O3.o _).mono ?_); rintro e w' ⟨A3, n3, c3, k3, rfl, rfl, hr3, hf3⟩; (try rw [World.jk_drew] at hr3); have HR3 := hh hr3; clear hr3 hf3; obtain ⟨nb3, hnb3⟩ : ∃ nb, decide ((3 : Int) < 0) = nb := ⟨_, rfl⟩; rw [hnb3]; have HB3 := hh hnb3; clear hnb3) | (go_at_call 156; ((with_reducible refine (imul_z _ _ _ _ (y * y) _ _ _ _ 3 _ HB2.o.symm (HR2.o.q Q.i) hyy HB3.o.symm (HR3.o.q Q.i) h3 h3y).mono ?_); rintro e w' ⟨A4, n4, c4, k4, rfl, rfl, hr4, hf4⟩; have HR4 := hh hr4; have HF4 := hh hf4; clear hr4 hf4; obtain ⟨nb4, hnb4⟩ : ∃ nb, decide (y * y * 3 < 0) = nb := ⟨_, rfl⟩; rw [hnb4]; have HB4 := hh hnb4; clear hnb4)))
 all_goals (go_wp2_with (go_at_call 158; refine (icmp_z _ _ _ _ (x * x) _ _ _ _ (y * y * 3) _ HB1.o.symm (HR1.o.q Q.i) hxx HB4.o.symm (by exact HR4.o.swap2 (by simp) (HF4.o.q Q.i)) h3y).q ?_; intro kj; rw [EC.o]))
 all_goals go_ret
 all_goals
  refine ⟨rfl, ?_⟩
  exact Q.i
theorem wide_mp1 (b : Bool) (A : Option Addr) (n c : Nat) (x : Int) (b' : Bool) (B : Option Addr) (m d : Nat) (y : Int) (w : World) (BX : Hid (b = decide (x < 0))) (HX : Hid (Rd w A n c (dig x.natAbs))) (BY : Hid (b' = decide (y < 0))) (HY : Hid (Rd w B m d (dig y.natAbs))) (hx : Sm x) (hy : Sm y) (hxx : Sm (x * x)) (hyy : Sm (y * y)) (h3 : Sm 3) (h3y : Sm (y * y * 3)) (SX : Hid (∀ w', Q w w' → Calls Tryz.prog 155 #[.agg #[.bool b, .slice A n c]] w' fun e w'' => e = .returned (.int .i64 (-1)) ∧ Q w' w'')) (SY : Hid (∀ w', Q w w' → Calls Tryz.prog 155 #[.agg #[.bool b', .slice B m d]] w' fun e w'' => e = .returned (.int .i64 1) ∧ Q w' w'')) (cv : Int) (EC : Hid (cmpI (x * x) (y * y * 3) = cv)) (hcv : 0 < cv) :
  Calls Tryz.prog 136 #[.agg #[.bool b, .slice A n c], .agg #[.bool b', .slice B m d]] w fun e w' => e = .returned (.int .i64 (-1)) ∧ Q w w' := by
 have O3 := hh (fun w => iof_any 3 w (by decide) (by decide))
 go_enter Tryz.func136, Tryz.ntmps136
 go_wp2
 try simp only [List.append]
 refine wrj (by kernel_rfl) ?_
 repeat (go_big_quiet_step (((go_at_call 155; first | with_reducible exact Calls.jk_of (SX.o _ Q.i) | with_reducible exact Calls.jk_of (SY.o _ Q.i)))))
 refine wq0 fun kq => ?_
 go_wp2_with (go_at_call 156; first | ((with_reducible refine (imul_z _ _ _ _ x _ _ _ _ x _ BX.o (HX.o.q Q.i) hx BX.o (HX.o.q Q.i) hx hxx).mono ?_); rintro e w' ⟨A1, n1, c1, k1, rfl, rfl, hr1, hf1⟩; have HR1 := hh hr1; have HF1 := hh hf1; clear hr1 hf1; obtain ⟨nb1, hnb1⟩ : ∃ nb, decide (x * x < 0) = nb := ⟨_, rfl⟩; rw [hnb1]; have HB1 := hh hnb1; clear hnb1) | ((with_reducible refine (imul_z _ _ _ _ y _ _ _ _ y _ BY.o (HY.o.q Q.i) hy BY.o (HY.o.q Q.i) hy hyy).mono ?_); rintro e w' ⟨A2, n2, c2, k2, rfl, rfl, hr2, hf2⟩; have HR2 := hh hr2; have HF2 := hh hf2; clear hr2 hf2; obtain ⟨nb2, hnb2⟩ : ∃ nb, decide (y * y < 0) = nb := ⟨_, rfl⟩; rw [hnb2]; have HB2 := hh hnb2; clear hnb2))
 go_region_with
  (first | (go_at_call 157; (with_reducible refine (O3.o _).mono ?_); rintro e w' ⟨A3, n3, c3, k3, rfl, rfl, hr3, hf3⟩; (try rw [World.jk_drew] at hr3); have HR3 := hh hr3; clear hr3 hf3; obtain ⟨nb3, hnb3⟩ : ∃ nb, decide ((3 : Int) < 0) = nb := ⟨_, rfl⟩; rw [hnb3]; have HB3 := hh hnb3; clear hnb3) | (go_at_call 156; ((with_reducible refine (imul_z _ _ _ _ (y * y) _ _ _ _ 3 _ HB2.o.symm (HR2.o.q Q.i) hyy HB3.o.symm (HR3.o.q Q.i) h3 h3y).mono ?_); rintro e w' ⟨A4, n4, c4, k4, rfl, rfl, hr4, hf4⟩; have HR4 := hh hr4; have HF4 := hh hf4; clear hr4 hf4; obtain ⟨nb4, hnb4⟩ : ∃ nb, decide (y * y * 3 < 0) = nb := ⟨_, rfl⟩; rw [hnb4]; have HB4 := hh hnb4; clear hnb4)))
 all_goals (go_wp2_with (go_at_call 158; refine (icmp_z _ _ _ _ (x * x) _ _ _ _ (y * y * 3) _ HB1.o.symm (HR1.o.q Q.i) hxx HB4.o.symm (by exact HR4.o.swap2 (by simp) (HF4.o.q Q.i)) h3y).q ?_; intro kj; rw [EC.o]))
 all_goals go_ret
 all_goals
  refine ⟨rfl, ?_⟩
  exact Q.i
theorem wide_mp2 (b : Bool) (A : Option Addr) (n c : Nat) (x : Int) (b' : Bool) (B : Option Addr) (m d : Nat) (y : Int) (w : World) (BX : Hid (b = decide (x < 0))) (HX : Hid (Rd w A n c (dig x.natAbs))) (BY : Hid (b' = decide (y < 0))) (HY : Hid (Rd w B m d (dig y.natAbs))) (hx : Sm x) (hy : Sm y) (hxx : Sm (x * x)) (hyy : Sm (y * y)) (h3 : Sm 3) (h3y : Sm (y * y * 3)) (SX : Hid (∀ w', Q w w' → Calls Tryz.prog 155 #[.agg #[.bool b, .slice A n c]] w' fun e w'' => e = .returned (.int .i64 (-1)) ∧ Q w' w'')) (SY : Hid (∀ w', Q w w' → Calls Tryz.prog 155 #[.agg #[.bool b', .slice B m d]] w' fun e w'' => e = .returned (.int .i64 1) ∧ Q w' w'')) (cv : Int) (EC : Hid (cmpI (x * x) (y * y * 3) = cv)) (hcv : decide (0 < cv) = false) :
  Calls Tryz.prog 136 #[.agg #[.bool b, .slice A n c], .agg #[.bool b', .slice B m d]] w fun e w' => e = .returned (.int .i64 (1)) ∧ Q w w' := by
 have O3 := hh (fun w => iof_any 3 w (by decide) (by decide))
 go_enter Tryz.func136, Tryz.ntmps136
 go_wp2
 try simp only [List.append]
 refine wrj (by kernel_rfl) ?_
 repeat (go_big_quiet_step (((go_at_call 155; first | with_reducible exact Calls.jk_of (SX.o _ Q.i) | with_reducible exact Calls.jk_of (SY.o _ Q.i)))))
 refine wq0 fun kq => ?_
 go_wp2_with (go_at_call 156; first | ((with_reducible refine (imul_z _ _ _ _ x _ _ _ _ x _ BX.o (HX.o.q Q.i) hx BX.o (HX.o.q Q.i) hx hxx).mono ?_); rintro e w' ⟨A1, n1, c1, k1, rfl, rfl, hr1, hf1⟩; have HR1 := hh hr1; have HF1 := hh hf1; clear hr1 hf1; obtain ⟨nb1, hnb1⟩ : ∃ nb, decide (x * x < 0) = nb := ⟨_, rfl⟩; rw [hnb1]; have HB1 := hh hnb1; clear hnb1) | ((with_reducible refine (imul_z _ _ _ _ y _ _ _ _ y _ BY.o (HY.o.q Q.i) hy BY.o (HY.o.q Q.i) hy hyy).mono ?_); rintro e w' ⟨A2, n2, c2, k2, rfl, rfl, hr2, hf2⟩; have HR2 := hh hr2; have HF2 := hh hf2; clear hr2 hf2; obtain ⟨nb2, hnb2⟩ : ∃ nb, decide (y * y < 0) = nb := ⟨_, rfl⟩; rw [hnb2]; have HB2 := hh hnb2; clear hnb2))
 go_region_with
  (first | (go_at_call 157; (with_reducible refine (O3.o _).mono ?_); rintro e w' ⟨A3, n3, c3, k3, rfl, rfl, hr3, hf3⟩; (try rw [World.jk_drew] at hr3); have HR3 := hh hr3; clear hr3 hf3; obtain ⟨nb3, hnb3⟩ : ∃ nb, decide ((3 : Int) < 0) = nb := ⟨_, rfl⟩; rw [hnb3]; have HB3 := hh hnb3; clear hnb3) | (go_at_call 156; ((with_reducible refine (imul_z _ _ _ _ (y * y) _ _ _ _ 3 _ HB2.o.symm (HR2.o.q Q.i) hyy HB3.o.symm (HR3.o.q Q.i) h3 h3y).mono ?_); rintro e w' ⟨A4, n4, c4, k4, rfl, rfl, hr4, hf4⟩; have HR4 := hh hr4; have HF4 := hh hf4; clear hr4 hf4; obtain ⟨nb4, hnb4⟩ : ∃ nb, decide (y * y * 3 < 0) = nb := ⟨_, rfl⟩; rw [hnb4]; have HB4 := hh hnb4; clear hnb4)))
 all_goals (go_wp2_with (go_at_call 158; refine (icmp_z _ _ _ _ (x * x) _ _ _ _ (y * y * 3) _ HB1.o.symm (HR1.o.q Q.i) hxx HB4.o.symm (by exact HR4.o.swap2 (by simp) (HF4.o.q Q.i)) h3y).q ?_; intro kj; rw [EC.o]))
 all_goals go_ret
 all_goals
  refine ⟨rfl, ?_⟩
  exact Q.i
theorem wide_sgn2 (x y : Int) (h1 : sgn x ≠ 0) (h2 : sgn y = -sgn x) : (0 < cmpI (x * x) (y * y * 3) → sgnS ⟨x, y⟩ = sgn x) ∧ (cmpI (x * x) (y * y * 3) ≤ 0 → sgnS ⟨x, y⟩ = sgn y) := by
 rw [Int.mul_comm (y * y) 3, sgnS_eq]
 dsimp only
 rw [if_neg (by omega), if_neg h1]
 unfold cmpI
 constructor
 ·intro h
  rw [if_pos]
  repeat' split at h
  all_goals omega
 intro h
 rw [if_neg]
 repeat' split at h
 all_goals omega
theorem wideSign_z (b : Bool) (A : Option Addr) (n c : Nat) (x : Int) (b' : Bool) (B : Option Addr) (m d : Nat) (y : Int) (w : World) (bx : b = decide (x < 0)) (rx : Rd w A n c (dig x.natAbs)) (by' : b' = decide (y < 0)) (ry : Rd w B m d (dig y.natAbs)) (h0 : -1267650600228229401496703205376 ≤ x) (h1 : x ≤ 1267650600228229401496703205376) (k0 : -1267650600228229401496703205376 ≤ y) (k1 : y ≤ 1267650600228229401496703205376) :
  Calls Tryz.prog 136 #[.agg #[.bool b, .slice A n c], .agg #[.bool b', .slice B m d]] w fun e w' => e = .returned (.int .i64 (sgnS ⟨x, y⟩)) ∧ Q w w' := by
 have hx := Sm.b100 h0 h1
 have hy := Sm.b100 k0 k1
 have h3y : Sm (y * y * 3) := by rw [Int.mul_comm]; exact Sm.sq3 k0 k1
 have sx : ∀ w', Q w w' → Calls Tryz.prog 155 #[.agg #[.bool b, .slice A n c]] w' fun e w'' => e = .returned (.int .i64 (sgn x)) ∧ Q w' w'' := fun w' hq => isign_z b A n c x w' bx (rx.q hq) hx
 have sy : ∀ w', Q w w' → Calls Tryz.prog 155 #[.agg #[.bool b', .slice B m d]] w' fun e w'' => e = .returned (.int .i64 (sgn y)) ∧ Q w' w'' := fun w' hq => isign_z b' B m d y w' by' (ry.q hq) hy
 obtain ⟨r1, r2, r3⟩ := ref_sgn x y
 have r4 := wide_sgn2 x y
 rcases sgn_val x with ⟨_, ex⟩ | ⟨_, ex⟩ | ⟨_, ex⟩ <;> rcases sgn_val y with ⟨_, ey⟩ | ⟨_, ey⟩ | ⟨_, ey⟩ <;> rw [ex] at sx r1 r2 r3 r4 <;> rw [ey] at sy r1 r2 r3 r4
 ·rw [r3 rfl]; exact wide_mm b A n c b' B m d w (hh sx) (hh sy)
 ·rw [r2 rfl]; exact wide_m0 b A n c b' B m d w (hh sx) (hh sy)
 ·obtain ⟨q1, q2⟩ := r4 (by decide) (by decide)
  rcases Int.lt_or_le 0 (cmpI (x * x) (y * y * 3)) with hc | hc
  ·rw [q1 hc]; exact wide_mp1 b A n c x b' B m d y w (hh bx) (hh rx) (hh by') (hh ry) hx hy (Sm.sq h0 h1 h0 h1) (Sm.sq k0 k1 k0 k1) (Sm.of (by decide) (by decide)) h3y (hh sx) (hh sy) _ (hh rfl) hc
  rw [q2 hc]; exact wide_mp2 b A n c x b' B m d y w (hh bx) (hh rx) (hh by') (hh ry) hx hy (Sm.sq h0 h1 h0 h1) (Sm.sq k0 k1 k0 k1) (Sm.of (by decide) (by decide)) h3y (hh sx) (hh sy) _ (hh rfl) (decide_eq_false (by omega))
 ·rw [r1 rfl]; exact wide_0m b A n c b' B m d w (hh sx) (hh sy)
 ·rw [r1 rfl]; exact wide_00 b A n c b' B m d w (hh sx) (hh sy)
 ·rw [r1 rfl]; exact wide_0p b A n c b' B m d w (hh sx) (hh sy)
 ·obtain ⟨q1, q2⟩ := r4 (by decide) (by decide)
  rcases Int.lt_or_le 0 (cmpI (x * x) (y * y * 3)) with hc | hc
  ·rw [q1 hc]; exact wide_pm1 b A n c x b' B m d y w (hh bx) (hh rx) (hh by') (hh ry) hx hy (Sm.sq h0 h1 h0 h1) (Sm.sq k0 k1 k0 k1) (Sm.of (by decide) (by decide)) h3y (hh sx) (hh sy) _ (hh rfl) hc
  rw [q2 hc]; exact wide_pm2 b A n c x b' B m d y w (hh bx) (hh rx) (hh by') (hh ry) hx hy (Sm.sq h0 h1 h0 h1) (Sm.sq k0 k1 k0 k1) (Sm.of (by decide) (by decide)) h3y (hh sx) (hh sy) _ (hh rfl) (decide_eq_false (by omega))
 ·rw [r2 rfl]; exact wide_p0 b A n c b' B m d w (hh sx) (hh sy)
 rw [r3 rfl]; exact wide_pp b A n c b' B m d w (hh sx) (hh sy)
end Go.Proofs.YtcjflafjmdfanaaGreatDoor
