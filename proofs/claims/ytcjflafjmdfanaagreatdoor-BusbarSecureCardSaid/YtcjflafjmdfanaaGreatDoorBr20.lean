
/- What Valid, trim, compareMag and mulMag of package integer return. -/
import Derived.Test.YtcjflafjmdfanaaGreatDoorBr19
import Derived.Test.YtcjflafjmdfanaaGreatDoorBr18
import Derived.WalkMore
set_option linter.unusedSimpArgs false
set_option linter.unusedVariables false
/- What the functions of package differential return for currents in their range. -/
namespace Go.Proofs.YtcjflafjmdfanaaGreatDoor
open Go.RowKit Go.Sub
/-- The list l lies in block g from cell o on. -/
def RdC (w : World) (g o : Nat) (l : List Cur) : Prop := ∀ k c, l[k]? = some c → w.cell? ⟨g, o + k * 6, none⟩ = some (.int .i64 c.i.a) ∧ w.cell? ⟨g, o + k * 6 + 1, none⟩ = some (.int .i64 c.i.b) ∧ w.cell? ⟨g, o + k * 6 + 2, none⟩ = some (.int .i64 c.i.c) ∧ w.cell? ⟨g, o + k * 6 + 3, none⟩ = some (.int .i64 c.i.d) ∧ w.cell? ⟨g, o + k * 6 + 4, none⟩ = some (.int .i64 c.r) ∧ w.cell? ⟨g, o + k * 6 + 5, none⟩ = some (.bool c.v)
theorem RdC.old {w : World} {g o : Nat} {l : List Cur} (h : RdC w g o l) (hl : l ≠ []) : Old g w := by
 cases l with
 | nil => exact absurd rfl hl
 | cons c l => exact ⟨World.block_lt_of_cell? w ⟨g, o + 0 * 6, none⟩ (h 0 c rfl).1⟩
theorem RdC.q {w w' : World} {g o : Nat} {l : List Cur} (h : RdC w g o l) (hq : Q w w') : RdC w' g o l := by
 intro k c hk
 haveI := h.old (by intro e; rw [e] at hk; simp at hk)
 obtain ⟨kk, rfl⟩ := hq
 simp only [World.cell?_jk]
 exact h k c hk
set_option maxHeartbeats 2000000 in
theorem dvalid_c (c : Cur) (w : World) (hc : c.OK) :
  Calls Tryz.prog 150 #[.agg #[.int .i64 c.i.a, .int .i64 c.i.b, .int .i64 c.i.c, .int .i64 c.i.d, .int .i64 c.r, .bool c.v]] w fun e w' => e = .returned (.bool true) ∧ Q w w' := by
 obtain ⟨⟨h1, h2, h3, h4, h5, h6, h7, h8⟩, h9, h10⟩ := hc
 go_enter Tryz.func150, Tryz.ntmps150
 go_wp2
 refine wp_loop_rounds 5 ?_
 repeat (rw [rounds_succ]; go_wp2)
 go_ret
 refine ⟨rfl, ?_⟩
 repeat' (first | exact Q.refl _ | refine Q.alloc ?_ _ | refine Q.jk ?_ _ | refine Q.drew ?_)
set_option maxHeartbeats 1000000 in
theorem dsum1_c (x y : Cy) (w : World) (hx : x.In 1000000000) (hy : y.In 1000000000) :
  Calls Tryz.prog 129 #[.agg #[.int .i64 x.a, .int .i64 x.b, .int .i64 x.c, .int .i64 x.d], .agg #[.int .i64 y.a, .int .i64 y.b, .int .i64 y.c, .int .i64 y.d]] w fun e w' => e = .returned (.tuple #[.agg #[.int .i64 (x.add y).a, .int .i64 (x.add y).b, .int .i64 (x.add y).c, .int .i64 (x.add y).d], .int .i64 0]) ∧ Q w w' := by
 go_enter Tryz.func129, Tryz.ntmps129
 go_wp2_with (go_at_call 121; refine (add_c x y _ (hx.mono (by decide)) (hy.mono (by decide))).mono ?_; rintro e w' ⟨rfl, kj, rfl⟩)
 refine bodyPost_ret (v := .tuple #[.agg #[.int .i64 (x.add y).a, .int .i64 (x.add y).b, .int .i64 (x.add y).c, .int .i64 (x.add y).d], .int .i64 0]) (by simp [results, Tryz.results129, go_sem]) rfl ⟨rfl, ?_⟩
 repeat' (first | exact Q.refl _ | refine Q.alloc ?_ _ | refine Q.jk ?_ _ | refine Q.drew ?_)
set_option maxHeartbeats 1000000 in
theorem drestr1_c (s : Su) (y : Cy) (w : World) (hs : s.In 10000000000000000) (hy : y.In 6553600) :
  Calls Tryz.prog 131 #[.agg #[.int .i64 s.a, .int .i64 s.b], .agg #[.int .i64 y.a, .int .i64 y.b, .int .i64 y.c, .int .i64 y.d]] w fun e w' => e = .returned (.tuple #[.agg #[.int .i64 (s.add y.norm).a, .int .i64 (s.add y.norm).b], .int .i64 0]) ∧ Q w w' := by
 have hn : y.norm.In 100000000000000000 := (norm_in hy).mono (by decide)
 go_enter Tryz.func131, Tryz.ntmps131
 go_wp2_with (first | (go_at_call 103; refine (norm_c y _ (hy.mono (by decide))).mono ?_; rintro e w' ⟨rfl, kj, rfl⟩) | (go_at_call 132; refine (sadd_c s y.norm _ (hs.mono (by decide)) hn).mono ?_; rintro e w' ⟨rfl, kj, rfl⟩))
 refine bodyPost_ret (v := .tuple #[.agg #[.int .i64 (s.add y.norm).a, .int .i64 (s.add y.norm).b], .int .i64 0]) (by simp [results, Tryz.results131, go_sem]) rfl ⟨rfl, ?_⟩
 repeat' (first | exact Q.refl _ | refine Q.alloc ?_ _ | refine Q.jk ?_ _ | refine Q.drew ?_)
set_option maxHeartbeats 4000000 in
theorem dgatherC_c (g o cap : Nat) (l : List Cur) (w : World) (hl : 1 ≤ l.length) (hl' : l.length ≤ 16) (hr : RdC w g o l) (hok : ∀ c ∈ l, c.OK) :
  Calls Tryz.prog 128 #[.slice (some ⟨g, o, none⟩) l.length cap, .func (.func 129) #[] #[]] w fun e w' => e = .returned (.tuple #[.agg #[.int .i64 (sumW l).a, .int .i64 (sumW l).b, .int .i64 (sumW l).c, .int .i64 (sumW l).d], .int .i64 0]) ∧ Q w w' := by
 haveI := hr.old (by intro e; rw [e] at hl; simp at hl)
 obtain ⟨n, hn⟩ : ∃ n, l.length = n := ⟨_, rfl⟩
 rw [hn] at hl hl' ⊢
 have HN := Lib.hid hn
 have HR := Lib.hid hr
 have HOK := Lib.hid hok
 clear hn hr hok
 go_enter Tryz.func128, Tryz.ntmps128
 go_wp2
 go_loopw [26] (fun i wr => ∃ k : Nat, k ≤ n ∧ i = .int .i64 k ∧ Q ((w.alloc (.cells #[.int .i64 0, .int .i64 0, .int .i64 0, .int .i64 0] 141)).alloc (.cells #[.int .i64 0, .int .i64 0, .int .i64 0, .int .i64 0] 141)) wr) (fun i _ => n - (intOf i).toNat)
 case atStart => exact ⟨0, by omega, rfl, Q.refl _⟩
 case round =>
  obtain ⟨k, hk, rfl, kw, rfl⟩ := hrel
  by_cases hlt : k < n
  ·obtain ⟨c, hc⟩ : ∃ c, l[k]? = some c := ⟨_, List.getElem?_eq_getElem (by rw [HN.out]; exact hlt)⟩
   obtain ⟨c1, c2, c3, c4, c5, c6⟩ := HR.out k c hc
   have hcok := HOK.out c (List.mem_of_getElem? hc)
   clear hc
   go_wp2_with (go_at_call 150; refine (dvalid_c c _ hcok).mono ?_; rintro e w' ⟨rfl, kj, rfl⟩)
   go_roundw
   case rel =>
    refine ⟨k + 1, by omega, by go_num, ?_⟩
    repeat' (first | exact Q.refl _ | refine Q.alloc ?_ _ | refine Q.jk ?_ _ | refine Q.drew ?_)
   case measure => simp [intOf]; omega
  ·obtain rfl : k = n := by omega
   clear hlt hk
   go_wp2
   go_loopw [38] (fun i wr => ∃ m : Nat, m ≤ k ∧ i = .int .i64 m ∧ Q ((((w.alloc (.cells #[.int .i64 0, .int .i64 0, .int .i64 0, .int .i64 0] 141)).alloc (.cells #[.int .i64 0, .int .i64 0, .int .i64 0, .int .i64 0] 141)).jk kw).alloc (.cells #[.int .i64 (sumW (l.take m)).a, .int .i64 (sumW (l.take m)).b, .int .i64 (sumW (l.take m)).c, .int .i64 (sumW (l.take m)).d] 141)) wr) (fun i _ => k - (intOf i).toNat)
   case atStart => exact ⟨0, by omega, rfl, Q.refl _⟩
   case round =>
    obtain ⟨m, hm, rfl, kx, rfl⟩ := hrel
    by_cases hlt : m < k
    ·have hml : m < l.length := by rw [HN.out]; exact hlt
     obtain ⟨c, hc⟩ : ∃ c, l[m]? = some c := ⟨_, List.getElem?_eq_getElem hml⟩
     have hce : l[m] = c := by rw [List.getElem?_eq_getElem hml] at hc; exact Option.some.inj hc
     obtain ⟨c1, c2, c3, c4, c5, c6⟩ := HR.out m c hc
     have hcok := HOK.out c (List.mem_of_getElem? hc)
     have hkb := hcok.k_bd
     have EK := Lib.hid (sumW_take hml)
     rw [hce] at EK
     have hs := sumW_bd (ok_take HOK.out m) (by rw [List.length_take]; omega)
     clear hc hce hml
     have SC := Lib.hid fun w => scale_fit c.i c.k 65536 100 w hcok.1 hkb.1 hkb.2 (by decide) (by decide) (by decide)
     have AD := Lib.hid fun w => dsum1_c (sumW (l.take m)) (c.i.sc c.k) w (hs.mono (by decide)) (hcok.wt_in.mono (by decide))
     obtain ⟨ci, cr, cv⟩ := c
     obtain ⟨_, r1, r2⟩ := hcok
     dsimp only at c1 c2 c3 c4 c5 c6 r1 r2
     unfold Cur.k at SC
     dsimp only at SC
     cases cv
     all_goals
      simp only [if_true, if_false, Bool.false_eq_true] at SC
      go_wp2_with (first | (go_at_call 99; (with_reducible refine (SC.out _).mono ?_); rintro e w' ⟨rfl, kj, rfl⟩) | (go_at_call 129; refine (AD.out _).mono ?_; rintro e w' ⟨rfl, kj, rfl⟩))
      go_roundw
      case rel =>
       refine ⟨m + 1, by omega, by go_num, ?_⟩
       rw [EK.out]
       repeat' (first | exact Q.refl _ | refine Q.alloc ?_ _ | refine Q.jk ?_ _ | refine Q.drew ?_)
      case measure => simp [intOf]; omega
    ·obtain rfl : m = k := by omega
     have EL : Hid (l.take m = l) := Lib.hid (List.take_of_length_le (by rw [HN.out]; omega))
     go_wp2
     refine bodyPost_ret (v := .tuple #[.agg #[.int .i64 (sumW l).a, .int .i64 (sumW l).b, .int .i64 (sumW l).c, .int .i64 (sumW l).d], .int .i64 0]) (by rw [EL.out]; simp [results, Tryz.results128, go_sem]) rfl ⟨rfl, ?_⟩
     repeat' (first | exact Q.refl _ | refine Q.alloc ?_ _ | refine Q.jk ?_ _ | refine Q.drew ?_)
set_option maxHeartbeats 4000000 in
theorem dgatherS_c (g o cap : Nat) (l : List Cur) (w : World) (hl : 1 ≤ l.length) (hl' : l.length ≤ 16) (hr : RdC w g o l) (hok : ∀ c ∈ l, c.OK) :
  Calls Tryz.prog 130 #[.slice (some ⟨g, o, none⟩) l.length cap, .func (.func 131) #[] #[]] w fun e w' => e = .returned (.tuple #[.agg #[.int .i64 (resW l).a, .int .i64 (resW l).b], .int .i64 0]) ∧ Q w w' := by
 haveI := hr.old (by intro e; rw [e] at hl; simp at hl)
 obtain ⟨n, hn⟩ : ∃ n, l.length = n := ⟨_, rfl⟩
 rw [hn] at hl hl' ⊢
 have HN := Lib.hid hn
 have HR := Lib.hid hr
 have HOK := Lib.hid hok
 clear hn hr hok
 go_enter Tryz.func130, Tryz.ntmps130
 go_wp2
 go_loopw [26] (fun i wr => ∃ k : Nat, k ≤ n ∧ i = .int .i64 k ∧ Q ((w.alloc (.cells #[.int .i64 0, .int .i64 0] 166)).alloc (.cells #[.int .i64 0, .int .i64 0] 166)) wr) (fun i _ => n - (intOf i).toNat)
 case atStart => exact ⟨0, by omega, rfl, Q.refl _⟩
 case round =>
  obtain ⟨k, hk, rfl, kw, rfl⟩ := hrel
  by_cases hlt : k < n
  ·obtain ⟨c, hc⟩ : ∃ c, l[k]? = some c := ⟨_, List.getElem?_eq_getElem (by rw [HN.out]; exact hlt)⟩
   obtain ⟨c1, c2, c3, c4, c5, c6⟩ := HR.out k c hc
   have hcok := HOK.out c (List.mem_of_getElem? hc)
   clear hc
   go_wp2_with (go_at_call 150; refine (dvalid_c c _ hcok).mono ?_; rintro e w' ⟨rfl, kj, rfl⟩)
   go_roundw
   case rel =>
    refine ⟨k + 1, by omega, by go_num, ?_⟩
    repeat' (first | exact Q.refl _ | refine Q.alloc ?_ _ | refine Q.jk ?_ _ | refine Q.drew ?_)
   case measure => simp [intOf]; omega
  ·obtain rfl : k = n := by omega
   clear hlt hk
   go_wp2
   go_loopw [38] (fun i wr => ∃ m : Nat, m ≤ k ∧ i = .int .i64 m ∧ Q ((((w.alloc (.cells #[.int .i64 0, .int .i64 0] 166)).alloc (.cells #[.int .i64 0, .int .i64 0] 166)).jk kw).alloc (.cells #[.int .i64 (resW (l.take m)).a, .int .i64 (resW (l.take m)).b] 166)) wr) (fun i _ => k - (intOf i).toNat)
   case atStart => exact ⟨0, by omega, rfl, Q.refl _⟩
   case round =>
    obtain ⟨m, hm, rfl, kx, rfl⟩ := hrel
    by_cases hlt : m < k
    ·have hml : m < l.length := by rw [HN.out]; exact hlt
     obtain ⟨c, hc⟩ : ∃ c, l[m]? = some c := ⟨_, List.getElem?_eq_getElem hml⟩
     have hce : l[m] = c := by rw [List.getElem?_eq_getElem hml] at hc; exact Option.some.inj hc
     obtain ⟨c1, c2, c3, c4, c5, c6⟩ := HR.out m c hc
     have hcok := HOK.out c (List.mem_of_getElem? hc)
     have hkb := hcok.k_bd
     have EK := Lib.hid (resW_take hml)
     rw [hce] at EK
     have hs := resW_bd (ok_take HOK.out m) (by rw [List.length_take]; omega)
     clear hc hce hml
     have SC := Lib.hid fun w => scale_fit c.i c.k 65536 100 w hcok.1 hkb.1 hkb.2 (by decide) (by decide) (by decide)
     have AD := Lib.hid fun w => drestr1_c (resW (l.take m)) (c.i.sc c.k) w (hs.mono (by decide)) hcok.wt_in
     obtain ⟨ci, cr, cv⟩ := c
     obtain ⟨_, r1, r2⟩ := hcok
     dsimp only at c1 c2 c3 c4 c5 c6 r1 r2
     unfold Cur.k at SC
     dsimp only at SC
     cases cv
     all_goals
      simp only [if_true, if_false, Bool.false_eq_true] at SC
      go_wp2_with (first | (go_at_call 99; (with_reducible refine (SC.out _).mono ?_); rintro e w' ⟨rfl, kj, rfl⟩) | (go_at_call 131; refine (AD.out _).mono ?_; rintro e w' ⟨rfl, kj, rfl⟩))
      go_roundw
      case rel =>
       refine ⟨m + 1, by omega, by go_num, ?_⟩
       rw [EK.out]
       repeat' (first | exact Q.refl _ | refine Q.alloc ?_ _ | refine Q.jk ?_ _ | refine Q.drew ?_)
      case measure => simp [intOf]; omega
    ·obtain rfl : m = k := by omega
     have EL : Hid (l.take m = l) := Lib.hid (List.take_of_length_le (by rw [HN.out]; omega))
     go_wp2
     refine bodyPost_ret (v := .tuple #[.agg #[.int .i64 (resW l).a, .int .i64 (resW l).b], .int .i64 0]) (by rw [EL.out]; simp [results, Tryz.results130, go_sem]) rfl ⟨rfl, ?_⟩
     repeat' (first | exact Q.refl _ | refine Q.alloc ?_ _ | refine Q.jk ?_ _ | refine Q.drew ?_)
end Go.Proofs.YtcjflafjmdfanaaGreatDoor
/- What apart of package surd returns where the products are not small. -/
namespace Go.Proofs.YtcjflafjmdfanaaGreatDoor
open Go.RowKit Go.Sub
set_option maxHeartbeats 1000000 in
theorem apart_no1 (j a k b : Int) (w : World) (j0 : -1152921504606846976 ≤ j) (j1 : j ≤ 1152921504606846976) (a0 : -1152921504606846976 ≤ a) (a1 : a ≤ 1152921504606846976) (k0 : -1152921504606846976 ≤ k) (k1 : k ≤ 1152921504606846976) (b0 : -1152921504606846976 ≤ b) (b1 : b ≤ 1152921504606846976) (pa : ¬ (-4611686018427387904 ≤ j * a ∧ j * a ≤ 4611686018427387904)) (pb : -4611686018427387904 ≤ k * b ∧ k * b ≤ 4611686018427387904) :
  Calls Tryz.prog 135 #[.int .i64 j, .int .i64 a, .int .i64 k, .int .i64 b] w fun e w' => e = .returned (.tuple #[.int .i64 0, .bool false]) ∧ Q w w' := by
 have HA := Lib.hid (fun w => times_no j a w (by omega) (by omega) (by omega) (by omega) pa)
 have HB := Lib.hid (fun w => times_ok k b w (by omega) (by omega) (by omega) (by omega) pb.1 pb.2)
 clear pa pb
 go_enter Tryz.func135, Tryz.ntmps135
 go_wp2_with (go_at_call 148; first | ((with_reducible refine (HA.out _).mono ?_); rintro e w' ⟨rfl, rfl⟩) | ((with_reducible refine (HB.out _).mono ?_); rintro e w' ⟨rfl, rfl⟩))
 go_ret2
 refine ⟨rfl, ?_⟩
 repeat' (first | exact Q.refl _ | refine Q.alloc ?_ _ | refine Q.jk ?_ _ | refine Q.drew ?_)
set_option maxHeartbeats 1000000 in
theorem apart_no2 (j a k b : Int) (w : World) (j0 : -1152921504606846976 ≤ j) (j1 : j ≤ 1152921504606846976) (a0 : -1152921504606846976 ≤ a) (a1 : a ≤ 1152921504606846976) (k0 : -1152921504606846976 ≤ k) (k1 : k ≤ 1152921504606846976) (b0 : -1152921504606846976 ≤ b) (b1 : b ≤ 1152921504606846976) (pa : ¬ (-4611686018427387904 ≤ j * a ∧ j * a ≤ 4611686018427387904)) (pb : ¬ (-4611686018427387904 ≤ k * b ∧ k * b ≤ 4611686018427387904)) :
  Calls Tryz.prog 135 #[.int .i64 j, .int .i64 a, .int .i64 k, .int .i64 b] w fun e w' => e = .returned (.tuple #[.int .i64 0, .bool false]) ∧ Q w w' := by
 have HA := Lib.hid (fun w => times_no j a w (by omega) (by omega) (by omega) (by omega) pa)
 have HB := Lib.hid (fun w => times_no k b w (by omega) (by omega) (by omega) (by omega) pb)
 clear pa pb
 go_enter Tryz.func135, Tryz.ntmps135
 go_wp2_with (go_at_call 148; first | ((with_reducible refine (HA.out _).mono ?_); rintro e w' ⟨rfl, rfl⟩) | ((with_reducible refine (HB.out _).mono ?_); rintro e w' ⟨rfl, rfl⟩))
 go_ret2
 refine ⟨rfl, ?_⟩
 repeat' (first | exact Q.refl _ | refine Q.alloc ?_ _ | refine Q.jk ?_ _ | refine Q.drew ?_)
set_option maxHeartbeats 1000000 in
theorem apart_no3 (j a k b : Int) (w : World) (j0 : -1152921504606846976 ≤ j) (j1 : j ≤ 1152921504606846976) (a0 : -1152921504606846976 ≤ a) (a1 : a ≤ 1152921504606846976) (k0 : -1152921504606846976 ≤ k) (k1 : k ≤ 1152921504606846976) (b0 : -1152921504606846976 ≤ b) (b1 : b ≤ 1152921504606846976) (pa : -4611686018427387904 ≤ j * a ∧ j * a ≤ 4611686018427387904) (pb : ¬ (-4611686018427387904 ≤ k * b ∧ k * b ≤ 4611686018427387904)) :
  Calls Tryz.prog 135 #[.int .i64 j, .int .i64 a, .int .i64 k, .int .i64 b] w fun e w' => e = .returned (.tuple #[.int .i64 0, .bool false]) ∧ Q w w' := by
 have HA := Lib.hid (fun w => times_ok j a w (by omega) (by omega) (by omega) (by omega) pa.1 pa.2)
 have HB := Lib.hid (fun w => times_no k b w (by omega) (by omega) (by omega) (by omega) pb)
 clear pa pb
 go_enter Tryz.func135, Tryz.ntmps135
 go_wp2_with (go_at_call 148; first | ((with_reducible refine (HA.out _).mono ?_); rintro e w' ⟨rfl, rfl⟩) | ((with_reducible refine (HB.out _).mono ?_); rintro e w' ⟨rfl, rfl⟩))
 go_ret2
 refine ⟨rfl, ?_⟩
 repeat' (first | exact Q.refl _ | refine Q.alloc ?_ _ | refine Q.jk ?_ _ | refine Q.drew ?_)
set_option maxHeartbeats 1000000 in
theorem apart_no4 (j a k b : Int) (w : World) (j0 : -1152921504606846976 ≤ j) (j1 : j ≤ 1152921504606846976) (a0 : -1152921504606846976 ≤ a) (a1 : a ≤ 1152921504606846976) (k0 : -1152921504606846976 ≤ k) (k1 : k ≤ 1152921504606846976) (b0 : -1152921504606846976 ≤ b) (b1 : b ≤ 1152921504606846976) (pa : -4611686018427387904 ≤ j * a ∧ j * a ≤ 4611686018427387904) (pb : -4611686018427387904 ≤ k * b ∧ k * b ≤ 4611686018427387904) (hw : wi2 2305843009213693952 (j * a) (k * b) = false) :
  Calls Tryz.prog 135 #[.int .i64 j, .int .i64 a, .int .i64 k, .int .i64 b] w fun e w' => e = .returned (.tuple #[.int .i64 0, .bool false]) ∧ Q w w' := by
 have HA := Lib.hid (fun w => times_ok j a w (by omega) (by omega) (by omega) (by omega) pa.1 pa.2)
 have HB := Lib.hid (fun w => times_ok k b w (by omega) (by omega) (by omega) (by omega) pb.1 pb.2)
 clear pa pb
 go_enter Tryz.func135, Tryz.ntmps135
 go_wp2_with (first | (go_at_call 148; first | ((with_reducible refine (HA.out _).mono ?_); rintro e w' ⟨rfl, rfl⟩) | ((with_reducible refine (HB.out _).mono ?_); rintro e w' ⟨rfl, rfl⟩)) | (go_at_call 133; (with_reducible show Calls _ _ #[_, .slice _ 2 _] _ _); refine (swithin2 _ (j * a) (k * b) 2305843009213693952 _ (by omega) (by omega) (by simp [go_sem]) (by simp [go_sem])).mono ?_; rintro e w' ⟨rfl, rfl⟩))
 go_ret2
 refine ⟨rfl, ?_⟩
 repeat' (first | exact Q.refl _ | refine Q.alloc ?_ _ | refine Q.jk ?_ _ | refine Q.drew ?_)

theorem apart_bad (j a k b : Int) (w : World) (j0 : -1152921504606846976 ≤ j) (j1 : j ≤ 1152921504606846976) (a0 : -1152921504606846976 ≤ a) (a1 : a ≤ 1152921504606846976) (k0 : -1152921504606846976 ≤ k) (k1 : k ≤ 1152921504606846976) (b0 : -1152921504606846976 ≤ b) (b1 : b ≤ 1152921504606846976) (h : ¬ ((-2305843009213693952 ≤ j * a ∧ j * a ≤ 2305843009213693952) ∧ (-2305843009213693952 ≤ k * b ∧ k * b ≤ 2305843009213693952))) :
  Calls Tryz.prog 135 #[.int .i64 j, .int .i64 a, .int .i64 k, .int .i64 b] w fun e w' => e = .returned (.tuple #[.int .i64 0, .bool false]) ∧ Q w w' := by
 by_cases pa : -4611686018427387904 ≤ j * a ∧ j * a ≤ 4611686018427387904
 ·by_cases pb : -4611686018427387904 ≤ k * b ∧ k * b ≤ 4611686018427387904
  ·refine apart_no4 j a k b w j0 j1 a0 a1 k0 k1 b0 b1 pa pb ?_
   cases e : wi2 2305843009213693952 (j * a) (k * b)
   ·rfl
   ·have := (wi2_iff _ _ _).1 e
    exact absurd ⟨⟨this.1, this.2.1⟩, this.2.2⟩ h
  ·exact apart_no3 j a k b w j0 j1 a0 a1 k0 k1 b0 b1 pa pb
 ·by_cases pb : -4611686018427387904 ≤ k * b ∧ k * b ≤ 4611686018427387904
  ·exact apart_no1 j a k b w j0 j1 a0 a1 k0 k1 b0 b1 pa pb
  ·exact apart_no2 j a k b w j0 j1 a0 a1 k0 k1 b0 b1 pa pb
end Go.Proofs.YtcjflafjmdfanaaGreatDoor
namespace Go
open Go.Sub
/-- trim returned the digits without leading zeros, where they lie. -/
def ITrim (A : Option Addr) (n c : Nat) (l : List Int) (w : World) (e : Ending) (w' : World) : Prop := ∃ A' n', e = .returned (.slice A' n' n') ∧ w = w' ∧ (∀ W, Rd W A n c l → Rd W A' n' n' (trL l)) ∧ ∀ W, Fr W A → Fr W A'
end Go
namespace Go.Proofs.YtcjflafjmdfanaaGreatDoor
open Go.RowKit Go.Sub
set_option maxHeartbeats 1000000 in
theorem itrim_any (A : Option Addr) (n c : Nat) (l : List Int) (w : World) (h : Rd w A n c l) (hd : Dg l) (hn : n < 100000) :
  Calls Tryz.prog 174 #[.slice A n c] w (ITrim A n c l w) := by
 rcases Nat.eq_zero_or_pos n with rfl | hp
 ·obtain rfl : l = [] := List.eq_nil_of_length_eq_zero h.1
  have HT : Hid (trL [] = []) := Lib.hid (by unfold trL; simp [dval, dig_zero])
  clear h
  go_enter Tryz.func174, Tryz.ntmps174
  go_wp2
  refine wp_loop_rounds 1 ?_
  rw [rounds_succ]
  go_wp2
  go_ret
  exact ⟨none, 0, rfl, rfl, fun W _ => by rw [HT.out]; exact Rd.nil W, fun W _ => Fr.none W⟩
 ·obtain ⟨g, rfl, hOld, hc⟩ := h.at_ hp
  have hl := h.1
  have hcap := h.2.1
  have HL := Lib.hid hl
  clear h hl
  go_enter Tryz.func174, Tryz.ntmps174
  go_upto_block 0 with (fail)
  go_cut [3] (fun i wx => ∃ k : Nat, i = .int .i64 k ∧ k ≤ n ∧ Hid (l.take k = trL l) ∧ w = wx)
  case first =>
   go_wp2_with fail
   go_loop [3] (fun i => ∃ k : Nat, i = .int .i64 k ∧ k ≤ n ∧ Hid (∀ j, k ≤ j → l.getD j 0 = 0)) (fun i => (intOf i).toNat)
   case atStart => exact ⟨n, rfl, Nat.le_refl _, Lib.hid fun j hj => getD_ge (by rw [HL.out]; exact hj)⟩
   case round =>
    obtain ⟨k, rfl, hk, HZ⟩ := hrel
    rcases k with _ | j
    ·go_wp2
     go_meet
     exact ⟨0, rfl, by omega, Lib.hid (trL_of hd (by omega) HZ.out (.inl rfl)), rfl⟩
    ·have hcj := hc.out j (by omega)
     have hj : j < n := by omega
     by_cases hz : l.getD j 0 = 0
     ·have HZ0 := Lib.hid hz
      rw [hz] at hcj
      clear hz
      go_wp2
      go_round
      case rel => exact ⟨j, rfl, by omega, Lib.hid fun i hi => by
       rcases Nat.lt_or_ge j i with h1 | h1
       ·exact HZ.out i h1
       ·obtain rfl : i = j := by omega
        exact HZ0.out⟩
      case measure => simp [intOf]
     ·have HZ1 := Lib.hid hz
      obtain ⟨d, ed⟩ : ∃ d, l.getD j 0 = d := ⟨_, rfl⟩
      rw [ed] at hcj hz
      have hz1 : (d == 0) = false := by simpa using hz
      clear ed hz
      go_wp2
      go_meet
      exact ⟨j + 1, rfl, by omega, Lib.hid (trL_of hd (by rw [HL.out]; omega) HZ.out (.inr HZ1.out)), rfl⟩
  case rest =>
   obtain ⟨k, rfl, hk, HT, rfl⟩ := hcut
   rcases Nat.eq_zero_or_pos k with rfl | hkp
   ·go_wp2
    go_ret
    exact ⟨none, 0, rfl, rfl, fun W _ => by rw [← HT.out]; exact Rd.nil W, fun W _ => Fr.none W⟩
   ·have hk1 : ((k : Int) == 0) = false := by simp; omega
    go_wp2
    go_ret
    exact ⟨some ⟨g, 0, none⟩, k, rfl, rfl, fun W hW => by rw [← HT.out]; exact hW.take hk (Nat.le_refl _) (fun h => by cases h), fun W h => h⟩
set_option maxHeartbeats 1000000 in
theorem icmpMag_any (A : Option Addr) (n c : Nat) (l : List Int) (B : Option Addr) (m d : Nat) (r : List Int) (w : World) (h1 : Rd w A n c l) (h2 : Rd w B m d r) (dl : Dg l) (dr : Dg r) (tl : Tr l) (tr : Tr r) (hn : n < 100000) (hm : m < 100000) :
  Calls Tryz.prog 175 #[.slice A n c, .slice B m d] w fun e w' => e = .returned (.int .i64 (cmpI (dval l) (dval r))) ∧ Q w w' := by
 have l1 := h1.1
 have l2 := h2.1
 rcases Nat.lt_trichotomy n m with hlt | heq | hgt
 ·have hv := dval_longer dl dr tr (by omega)
  have e : cmpI (dval l) (dval r) = -1 := by simp [cmpI, hv]
  rw [e]
  clear h1 h2 e l1 l2 hv
  go_enter Tryz.func175, Tryz.ntmps175
  go_wp2
  go_ret
  exact ⟨rfl, Q.refl _⟩
 ·subst heq
  have L1 := Lib.hid l1
  have L2 := Lib.hid l2
  clear l1 l2
  rcases Nat.eq_zero_or_pos n with rfl | hp
  ·have e : cmpI (dval l) (dval r) = 0 := by
    rw [List.eq_nil_of_length_eq_zero L1.out, List.eq_nil_of_length_eq_zero L2.out]
    rfl
   rw [e]
   clear e h1 h2
   go_enter Tryz.func175, Tryz.ntmps175
   go_wp2
   refine wp_loop_rounds 1 ?_
   rw [rounds_succ]
   go_wp2
   go_ret
   exact ⟨rfl, Q.refl _⟩
  ·obtain ⟨g, rfl, hOld, hc⟩ := h1.at_ hp
   obtain ⟨g', rfl, hOld', hc'⟩ := h2.at_ hp
   clear h1 h2
   go_enter Tryz.func175, Tryz.ntmps175
   go_wp2
   go_loopw [5] (fun i wr => ∃ k : Nat, i = .int .i64 ((k : Int) - 1) ∧ k ≤ n ∧ Hid (∀ j, k ≤ j → l.getD j 0 = r.getD j 0) ∧ Q w wr) (fun i _ => (intOf i + 1).toNat)
   case atStart => exact ⟨n, rfl, Nat.le_refl _, Lib.hid fun j hj => by rw [getD_ge (by rw [L1.out]; exact hj), getD_ge (by rw [L2.out]; exact hj)], Q.refl _⟩
   case round =>
    obtain ⟨k, rfl, hk, HZ, kw, rfl⟩ := hrel
    rcases k with _ | j
    ·have e : cmpI (dval l) (dval r) = 0 := by
      have := dval_same l r (fun j => HZ.out j (Nat.zero_le _))
      simp [cmpI, this]
     have E := Lib.hid e
     clear e
     go_wp2
     go_ret
     exact ⟨by rw [E.out]; rfl, (Q.refl _).jk _⟩
    ·rw [show ((j + 1 : Nat) : Int) - 1 = (j : Int) by omega]
     have hcj := hc.out j (by omega)
     have hcj' := hc'.out j (by omega)
     have hj : j < n := by omega
     obtain ⟨x, ex⟩ : ∃ x, l.getD j 0 = x := ⟨_, rfl⟩
     obtain ⟨y, ey⟩ : ∃ y, r.getD j 0 = y := ⟨_, rfl⟩
     rw [ex] at hcj
     rw [ey] at hcj'
     have EX := Lib.hid ex
     have EY := Lib.hid ey
     clear ex ey
     rcases Int.lt_trichotomy x y with hxy | hxy | hxy
     ·have E : Hid (cmpI (dval l) (dval r) = -1) := Lib.hid (by
       have := dval_order dl dr j (by rw [L1.out]; exact hj) (by rw [L2.out]; exact hj) (fun i hi => HZ.out i hi) (by rw [EX.out, EY.out]; exact hxy)
       simp [cmpI, this])
      go_wp2
      try simp only [List.append]
      refine wp_region_jk (by kernel_rfl) (by kernel_rfl) ?_
      repeat (go_big_quiet_step (fail))
      refine wpQuiet_nil ?_
      intro _ hw'
      obtain ⟨kq, rfl⟩ := hw'
      go_wp2
      go_ret
      exact ⟨by rw [E.out]; rfl, ((Q.refl _).jk _).jk _⟩
     ·subst hxy
      go_wp2
      try simp only [List.append]
      refine wp_region_jk (by kernel_rfl) (by kernel_rfl) ?_
      repeat (go_big_quiet_step (fail))
      refine wpQuiet_nil ?_
      intro _ hw'
      obtain ⟨kq, rfl⟩ := hw'
      go_wp2
      try simp only [List.append]
      refine wp_region_jk (by kernel_rfl) (by kernel_rfl) ?_
      repeat (go_big_quiet_step (fail))
      refine wpQuiet_nil ?_
      intro _ hw'
      obtain ⟨kq, rfl⟩ := hw'
      go_wp2
      go_roundw
      case rel => exact ⟨j, rfl, by omega, Lib.hid fun i hi => by
       rcases Nat.lt_or_ge j i with h1 | h1
       ·exact HZ.out i h1
       ·obtain rfl : i = j := by omega
        rw [EX.out, EY.out], (((Q.refl _).jk _).jk _).jk _⟩
      case measure => simp [intOf]
     ·have E : Hid (cmpI (dval l) (dval r) = 1) := Lib.hid (by
       have := dval_order dr dl j (by rw [L2.out]; exact hj) (by rw [L1.out]; exact hj) (fun i hi => (HZ.out i hi).symm) (by rw [EX.out, EY.out]; exact hxy)
       simp [cmpI, this]
       omega)
      go_wp2
      try simp only [List.append]
      refine wp_region_jk (by kernel_rfl) (by kernel_rfl) ?_
      repeat (go_big_quiet_step (fail))
      refine wpQuiet_nil ?_
      intro _ hw'
      obtain ⟨kq, rfl⟩ := hw'
      go_wp2
      try simp only [List.append]
      refine wp_region_jk (by kernel_rfl) (by kernel_rfl) ?_
      repeat (go_big_quiet_step (fail))
      refine wpQuiet_nil ?_
      intro _ hw'
      obtain ⟨kq, rfl⟩ := hw'
      go_wp2
      go_ret
      exact ⟨by rw [E.out]; rfl, (((Q.refl _).jk _).jk _).jk _⟩
 ·have hv := dval_longer dr dl tl (by omega)
  have e : cmpI (dval l) (dval r) = 1 := by simp [cmpI, hv]; omega
  rw [e]
  have q2 : ¬ n < m := by omega
  clear h1 h2 e l1 l2 hv
  go_enter Tryz.func175, Tryz.ntmps175
  go_wp2
  go_ret
  exact ⟨rfl, Q.refl _⟩
set_option maxRecDepth 100000 in
set_option maxHeartbeats 1000000 in
theorem ivalid_z (b : Bool) (A : Option Addr) (n c : Nat) (z : Int) (w : World) (hb : b = decide (z < 0)) (h : Rd w A n c (dig z.natAbs)) (hz : Sm z) :
  Calls Tryz.prog 171 #[.agg #[.bool b, .slice A n c]] w fun e w' => e = .returned (.bool true) ∧ Q w w' := by
 have hl := h.1
 have hs := hz.len
 rcases Nat.decEq n 0 with hn | hn
 ·obtain ⟨j, rfl⟩ : ∃ j, n = j + 1 := ⟨n - 1, by omega⟩
  obtain ⟨g, rfl, hOld, hc⟩ := h.at_ (by omega)
  have ht := (dig_Tr z.natAbs).resolve_left (fun e => by rw [e] at hl; simp at hl)
  rw [hl] at ht
  have hcj := hc.out j (by omega)
  obtain ⟨x, ex⟩ : ∃ x, (dig z.natAbs).getD j 0 = x := ⟨_, rfl⟩
  rw [ex] at hcj
  have hx : (x != 0) = true := by
   have : x ≠ 0 := by rw [← ex]; exact ht
   simpa using this
  have hj : j < 400 := by omega
  clear ht ex hc h hl hs hb hz
  go_enter Tryz.func171, Tryz.ntmps171
  go_wp2
  go_ret
  refine ⟨rfl, ?_⟩
  repeat' (first | exact Q.refl _ | refine Q.alloc ?_ _ | refine Q.jk ?_ _ | refine Q.drew ?_)
 ·subst hn
  have hz0 : z = 0 := by
   have := dig_nil.1 (List.eq_nil_of_length_eq_zero hl)
   omega
  subst hz0
  obtain rfl : b = false := by simpa using hb
  clear h hl hs hb hz
  go_enter Tryz.func171, Tryz.ntmps171
  go_wp2
  go_ret
  refine ⟨rfl, ?_⟩
  repeat' (first | exact Q.refl _ | refine Q.alloc ?_ _ | refine Q.jk ?_ _ | refine Q.drew ?_)
set_option maxHeartbeats 2000000 in
theorem imulMag_pos (A : Option Addr) (n c : Nat) (l : List Int) (B : Option Addr) (m d : Nat) (r : List Int) (w : World) (h1 : Rd w A n c l) (h2 : Rd w B m d r) (dl : Dg l) (dr : Dg r) (hn : n < 10000) (hm : m < 10000) (hn0 : 0 < n) (hm0 : 0 < m) :
  Calls Tryz.prog 173 #[.slice A n c, .slice B m d] w (RetS (dig (dval l * dval r).toNat) w) := by
 have L1 := Lib.hid h1.1
 have L2 := Lib.hid h2.1
 have H1 := Lib.hid h1
 have H2 := Lib.hid h2
 clear h1 h2
 have z1 : ((n : Int) == 0) = false := by simp; omega
 have z2 : ((m : Int) == 0) = false := by simp; omega
 have hmk := make_u32 w (n + m) (n + m) (by omega) (by omega)
 go_enter Tryz.func173, Tryz.ntmps173
 go_wp2
 clear hmk
 go_loopw [26] (fun i wr => ∃ (k : Nat) (o : List Int) (kx : Jk), i = .int .i64 k ∧ k ≤ n ∧ Hid (MulInv l r o k 0 0) ∧ wr = (w.alloc (.cells (cellsU o) 240)).jk kx) (fun i _ => n - (intOf i).toNat)
 case atStart =>
  obtain ⟨k0, hk0⟩ := Q.refl (w.alloc (.cells (cellsU (List.replicate (n + m) 0)) 240))
  exact ⟨0, List.replicate (n + m) 0, k0, rfl, Nat.zero_le _, Lib.hid (by have := MulInv.start l r; rwa [L1.out, L2.out] at this), hk0⟩
 case round =>
  obtain ⟨k, o, kx, rfl, hk, HI, rfl⟩ := hrel
  rcases Nat.lt_or_ge k n with hlt | hge
  ·obtain ⟨g, rfl, hOld, hc⟩ := H1.out.at_ (by omega)
   have hcx := hc.out k hlt
   obtain ⟨x, ex⟩ : ∃ x, l.getD k 0 = x := ⟨_, rfl⟩
   rw [ex] at hcx
   have EX := Lib.hid ex
   have hx : 0 ≤ x ∧ x < 4294967296 := ex ▸ dl.getD k
   obtain ⟨hx0, hx1⟩ := hx
   clear ex hc
   go_upto_block 2 with (fail)
   go_cut [7] (fun s7 wx => ∃ (q : Int) (o : List Int) (kx : Jk), s7 = .int .u64 q ∧ 0 ≤ q ∧ q < 4294967296 ∧ Hid (MulInv l r o k m q) ∧ wx = (w.alloc (.cells (cellsU o) 240)).jk kx)
   case first =>
    go_wp2_with fail
    go_loopw [7, 31] (fun s7 s8 wr => ∃ (q : Int) (j : Nat) (o : List Int) (kx : Jk), s7 = .int .u64 q ∧ s8 = .int .i64 j ∧ j ≤ m ∧ 0 ≤ q ∧ q < 4294967296 ∧ Hid (MulInv l r o k j q) ∧ wr = (w.alloc (.cells (cellsU o) 240)).jk kx) (fun _ s8 _ => m - (intOf s8).toNat)
    case atStart => exact ⟨0, 0, o, kx, rfl, rfl, Nat.zero_le _, by decide, by decide, HI, rfl⟩
    case round =>
     clear HI
     obtain ⟨q, j, o, kx, rfl, rfl, hj, hq0, hq1, HI, rfl⟩ := hrel
     rcases Nat.lt_or_ge j m with hjl | hjg
     ·obtain ⟨g', rfl, hOld', hc'⟩ := H2.out.at_ (by omega)
      have hcy := hc'.out j hjl
      obtain ⟨y, ey⟩ : ∃ y, r.getD j 0 = y := ⟨_, rfl⟩
      rw [ey] at hcy
      have EY := Lib.hid ey
      have hy : 0 ≤ y ∧ y < 4294967296 := ey ▸ dr.getD j
      obtain ⟨hy0, hy1⟩ := hy
      clear ey hc'
      have hol : o.length = n + m := by rw [HI.out.len, L1.out, L2.out]
      have hcz := cellsU_at (o := o) (j := k + j) (by omega)
      obtain ⟨z, ez⟩ : ∃ z, o.getD (k + j) 0 = z := ⟨_, rfl⟩
      rw [ez] at hcz
      have EZ := Lib.hid ez
      have hz : 0 ≤ z ∧ z < 4294967296 := ez ▸ HI.out.dg.getD (k + j)
      obtain ⟨hz0, hz1⟩ := hz
      clear ez hol
      obtain ⟨ST, t0, t1⟩ := HI.out.step (t := x * y + z + q) dl dr (by rw [L1.out]; exact hlt) (by rw [L2.out]; exact hjl) (by rw [EX.out, EY.out, EZ.out])
      have HS := Lib.hid ST
      clear ST
      have hb := mul_bd ⟨hx0, hx1⟩ ⟨hy0, hy1⟩
      have HC := Lib.hid (cellsU_set o (k + j) ((x * y + z + q) % 4294967296))
      have E1 : IntKind.u64.wrap (x * y) = x * y := IntWalk.u64_in _ (by omega)
      have E2 : IntKind.u64.wrap (x * y + z) = x * y + z := IntWalk.u64_in _ (by omega)
      have E3 : IntKind.u64.wrap (x * y + z + q) = x * y + z + q := IntWalk.u64_in _ (by omega)
      have E4 : IntKind.i64.wrap ((k : Int) + (j : Int)) = (k : Int) + (j : Int) := IntWalk.i64_in _ (by omega)
      have E5 : ((k : Int) + (j : Int)).toNat = k + j := by omega
      have hkj : k + j < n + m := by omega
      go_wp2
      refine wp_region_jk (by kernel_rfl) (by kernel_rfl) ?_
      repeat (go_big_quiet_step (fail))
      refine wpQuiet_nil ?_
      intro _ hw'
      obtain ⟨kq, rfl⟩ := hw'
      clear E1 E2 E3 E4 E5
      go_wp2
      go_roundw
      case rel => exact ⟨_, j + 1, _, _, rfl, by go_num, by omega, HS.out.c0, HS.out.c1, HS, by rw [HC.out, World.jk_jk]⟩
      case measure => simp [intOf]; omega
     ·obtain rfl : j = m := by omega
      go_wp2
      go_meet
      exact ⟨q, o, kx, rfl, hq0, hq1, HI, rfl⟩
   case rest =>
    clear HI
    obtain ⟨q, o, kx, rfl, hq0, hq1, HI, rfl⟩ := hcut
    have HR : Hid (MulInv l r (o.set (k + m) q) (k + 1) 0 0) := Lib.hid (by
     have := HI.out
     rw [← L2.out] at this ⊢
     exact this.row (by rw [L1.out]; exact hlt))
    have HC := Lib.hid (cellsU_set o (k + m) q)
    have hkm : k + m < n + m := by omega
    have hcz := cellsU_at (o := o) (j := k + m) (by rw [HI.out.len, L1.out, L2.out]; omega)
    go_wp2
    go_roundw
    case rel => exact ⟨k + 1, _, kx, by go_num, by omega, HR, by rw [HC.out]⟩
    case measure => simp [intOf]; omega
  ·obtain rfl : k = n := by omega
   have HD : Hid (dval o = dval l * dval r) := Lib.hid (by
    have := HI.out
    rw [← L1.out] at this
    exact this.done)
   have hrd : Rd ((w.alloc (.cells (cellsU o) 240)).jk kx) (some ⟨w.heap.size, 0, none⟩) (k + m) (k + m) o := by
    have hol : o.length = k + m := by rw [HI.out.len, L1.out, L2.out]
    refine ⟨hol, Nat.le_refl _, fun _ => ⟨_, rfl, by simp [World.size_jk]; omega, fun i hi => ?_⟩, fun h => by cases h⟩
    rw [World.cell?_jk, cell_of_row _ _ _ (cellsU o) _ (0, 0) (heap_alloc_new w _)]
    exact cellsU_at (by omega)
   have HRD := Lib.hid hrd
   clear hrd
   go_wp2_with (go_at_call 174; refine (itrim_any _ _ _ o _ HRD.out HI.out.dg (by omega)).mono ?_; rintro e w' ⟨A', n', rfl, rfl, hr0, hf'⟩; have hr' := hr0 _ HRD.out; clear hr0)
   go_ret
   refine RetS.of (A := A') (n := n') (c := n') rfl (((Q.refl _).alloc _).jk _) ?_ (hf' w (fun ad e => by cases e; exact Nat.le_refl _))
   rw [← HD.out]
   exact hr'
set_option maxHeartbeats 1000000 in
theorem imulMag_any (A : Option Addr) (n c : Nat) (l : List Int) (B : Option Addr) (m d : Nat) (r : List Int) (w : World) (h1 : Rd w A n c l) (h2 : Rd w B m d r) (dl : Dg l) (dr : Dg r) (hn : n < 10000) (hm : m < 10000) :
  Calls Tryz.prog 173 #[.slice A n c, .slice B m d] w (RetS (dig (dval l * dval r).toNat) w) := by
 rcases Nat.eq_zero_or_pos n with hn0 | hn0
 ·obtain rfl : l = [] := List.eq_nil_of_length_eq_zero (h1.1.trans hn0)
  subst hn0
  have HT : Hid (dig (dval [] * dval r).toNat = []) := Lib.hid (by simp [dval, dig_zero])
  clear h1 h2
  go_enter Tryz.func173, Tryz.ntmps173
  go_wp2
  go_ret
  exact RetS.of (A := none) (n := 0) (c := 0) rfl (Q.refl _) (by rw [HT.out]; exact Rd.nil w) (Fr.none w)
 ·rcases Nat.eq_zero_or_pos m with hm0 | hm0
  ·obtain rfl : r = [] := List.eq_nil_of_length_eq_zero (h2.1.trans hm0)
   subst hm0
   have HT : Hid (dig (dval l * dval []).toNat = []) := Lib.hid (by simp [dval, dig_zero])
   have z1 : ((n : Int) == 0) = false := by simp; omega
   clear h1 h2
   go_enter Tryz.func173, Tryz.ntmps173
   go_wp2
   go_ret
   exact RetS.of (A := none) (n := 0) (c := 0) rfl (Q.refl _) (by rw [HT.out]; exact Rd.nil w) (Fr.none w)
  ·exact imulMag_pos A n c l B m d r w h1 h2 dl dr hn hm hn0 hm0
end Go.Proofs.YtcjflafjmdfanaaGreatDoor
