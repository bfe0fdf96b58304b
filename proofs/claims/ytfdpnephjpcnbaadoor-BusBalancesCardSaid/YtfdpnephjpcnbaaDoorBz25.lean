
/- What the functions of package differential return for currents in their range. -/
import Derived.Test.YtfdpnephjpcnbaaDoorBz11
import Derived.Test.YtfdpnephjpcnbaaDoorBz24
import Derived.WalkMore
set_option linter.unusedSimpArgs false
set_option linter.unusedVariables false
/- What apart and Versus of package surd return where the products are small. -/
namespace Go.Sub
/-- The sign of j*x - k*y. -/
def versS (x : Su) (j : Int) (y : Su) (k : Int) : Int := sgnS ⟨j * x.a - k * y.a, j * x.b - k * y.b⟩
/-- The products are found with small numbers. -/
def VsSmall (x : Su) (j : Int) (y : Su) (k : Int) : Prop := (-2305843009213693952 ≤ j * x.a ∧ j * x.a ≤ 2305843009213693952) ∧ (-2305843009213693952 ≤ k * y.a ∧ k * y.a ≤ 2305843009213693952) ∧ (-2305843009213693952 ≤ j * x.b ∧ j * x.b ≤ 2305843009213693952) ∧ (-2305843009213693952 ≤ k * y.b ∧ k * y.b ≤ 2305843009213693952)
theorem VsSmall.of {x y : Su} {j k l m : Int} (hx : x.In l) (hy : y.In l) (h1 : -m ≤ j) (h2 : j ≤ m) (h3 : -m ≤ k) (h4 : k ≤ m) (hb : m * l ≤ 2305843009213693952) : VsSmall x j y k := by
  obtain ⟨a1, a2, a3, a4⟩ := hx
  obtain ⟨b1, b2, b3, b4⟩ := hy
  have p1 := bd_mul h1 h2 a1 a2
  have p2 := bd_mul h3 h4 b1 b2
  have p3 := bd_mul h1 h2 a3 a4
  have p4 := bd_mul h3 h4 b3 b4
  unfold VsSmall
  omega
end Go.Sub
namespace Go.Proofs.YtfdpnephjpcnbaaDoor
open Go.RowKit Go.Sub
set_option maxHeartbeats 1000000 in
theorem apart_ok (j a k b : Int) (w : World) (j0 : -1152921504606846976 ≤ j) (j1 : j ≤ 1152921504606846976) (a0 : -1152921504606846976 ≤ a) (a1 : a ≤ 1152921504606846976) (k0 : -1152921504606846976 ≤ k) (k1 : k ≤ 1152921504606846976) (b0 : -1152921504606846976 ≤ b) (b1 : b ≤ 1152921504606846976) (p0 : -2305843009213693952 ≤ j * a) (p1 : j * a ≤ 2305843009213693952) (q0 : -2305843009213693952 ≤ k * b) (q1 : k * b ≤ 2305843009213693952) :
    Calls Tryd.prog 63 #[.int .i64 j, .int .i64 a, .int .i64 k, .int .i64 b] w fun e w' => e = .returned (.tuple #[.int .i64 (j * a - k * b), .bool true]) ∧ Q w w' := by
  have hta := fun w => times_ok j a w (by omega) (by omega) (by omega) (by omega) (by omega) (by omega)
  have htb := fun w => times_ok k b w (by omega) (by omega) (by omega) (by omega) (by omega) (by omega)
  have HA := Lib.hid hta
  have HB := Lib.hid htb
  clear hta htb
  have hw : wi2 2305843009213693952 (j * a) (k * b) = true := (wi2_iff _ _ _).2 (by omega)
  go_enter Tryd.func63, Tryd.ntmps63
  go_wp2_with (first | (go_at_call 85; first | ((with_reducible refine (HA.out _).mono ?_); rintro e w' ⟨rfl, rfl⟩) | ((with_reducible refine (HB.out _).mono ?_); rintro e w' ⟨rfl, rfl⟩)) | (go_at_call 61; (with_reducible show Calls _ _ #[_, .slice _ 2 _] _ _); refine (swithin2 _ (j * a) (k * b) 2305843009213693952 _ (by omega) (by omega) (by simp [go_sem]) (by simp [go_sem])).mono ?_; rintro e w' ⟨rfl, rfl⟩))
  go_ret2
  refine ⟨rfl, ?_⟩
  repeat' (first | exact Q.refl _ | refine Q.alloc ?_ _ | refine Q.jk ?_ _ | refine Q.drew ?_)
set_option maxHeartbeats 2000000 in
theorem vers_c (x : Su) (j : Int) (y : Su) (k : Int) (w : World) (hx : x.In 1152921504606846976) (hy : y.In 1152921504606846976) (j0 : -1073741824 ≤ j) (j1 : j ≤ 1073741824) (k0 : -1073741824 ≤ k) (k1 : k ≤ 1073741824) (hs : VsSmall x j y k) :
    Calls Tryd.prog 35 #[.agg #[.int .i64 x.a, .int .i64 x.b], .int .i64 j, .agg #[.int .i64 y.a, .int .i64 y.b], .int .i64 k] w fun e w' => e = .returned (.tuple #[.int .i64 (versS x j y k), .int .i64 0]) ∧ Q w w' := by
  obtain ⟨a1, a2, a3, a4⟩ := hx
  obtain ⟨b1, b2, b3, b4⟩ := hy
  obtain ⟨⟨s1, s2⟩, ⟨s3, s4⟩, ⟨s5, s6⟩, s7, s8⟩ := hs
  have h4 : wi4 1152921504606846976 x.a x.b y.a y.b = true := (wi4_iff _ _ _ _ _).2 (by omega)
  have h2 : wi2 1073741824 j k = true := (wi2_iff _ _ _).2 (by omega)
  have hpa := fun w => apart_ok j x.a k y.a w (by omega) (by omega) (by omega) (by omega) (by omega) (by omega) (by omega) (by omega) s1 s2 s3 s4
  have hpb := fun w => apart_ok j x.b k y.b w (by omega) (by omega) (by omega) (by omega) (by omega) (by omega) (by omega) (by omega) s5 s6 s7 s8
  have HA := Lib.hid hpa
  have HB := Lib.hid hpb
  have HS := Lib.hid (fun w => sgnS_any (j * x.a - k * y.a) (j * x.b - k * y.b) w (by omega) (by omega) (by omega) (by omega))
  clear hpa hpb s1 s2 s3 s4 s5 s6 s7 s8
  unfold versS
  go_enter Tryd.func35, Tryd.ntmps35
  go_wp2_with (first | (go_at_call 61; (with_reducible show Calls _ _ #[_, .slice _ 4 _] _ _); refine (swithin4 _ x.a x.b y.a y.b 1152921504606846976 _ (by omega) (by omega) (by simp [go_sem]) (by simp [go_sem]) (by simp [go_sem]) (by simp [go_sem])).mono ?_; rintro e w' ⟨rfl, rfl⟩) | (go_at_call 61; (with_reducible show Calls _ _ #[_, .slice _ 2 _] _ _); refine (swithin2 _ j k 1073741824 _ (by omega) (by omega) (by simp [go_sem]) (by simp [go_sem])).mono ?_; rintro e w' ⟨rfl, rfl⟩) | (go_at_call 63; first | ((with_reducible refine (HA.out _).mono ?_); rintro e w' ⟨rfl, kj, rfl⟩) | ((with_reducible refine (HB.out _).mono ?_); rintro e w' ⟨rfl, kj, rfl⟩)) | (go_at_call 62; (with_reducible refine (HS.out _).mono ?_); rintro e w' ⟨rfl, kj, rfl⟩))
  go_ret2
  refine ⟨rfl, ?_⟩
  repeat' (first | exact Q.refl _ | refine Q.alloc ?_ _ | refine Q.jk ?_ _ | refine Q.drew ?_)
end Go.Proofs.YtfdpnephjpcnbaaDoor
namespace Go.Proofs.YtfdpnephjpcnbaaDoor
open Go.RowKit Go.Sub
/-- The list l lies in block g from cell o on. -/
def RdC (w : World) (g o : Nat) (l : List Cur) : Prop := ∀ k c, l[k]? = some c → w.cell? ⟨g, o + k * 6, none⟩ = some (.int .i64 c.i.a) ∧ w.cell? ⟨g, o + k * 6 + 1, none⟩ = some (.int .i64 c.i.b) ∧ w.cell? ⟨g, o + k * 6 + 2, none⟩ = some (.int .i64 c.i.c) ∧ w.cell? ⟨g, o + k * 6 + 3, none⟩ = some (.int .i64 c.i.d) ∧ w.cell? ⟨g, o + k * 6 + 4, none⟩ = some (.int .i64 c.r) ∧ w.cell? ⟨g, o + k * 6 + 5, none⟩ = some (.bool c.v)
theorem RdC.old {w : World} {g o : Nat} {l : List Cur} (h : RdC w g o l) (hl : l ≠ []) : Old g w := by
  cases l with
  | nil => exact absurd rfl hl
  | cons c l => exact ⟨World.block_lt_of_cell? w ⟨g, o + 0 * 6, none⟩ (h 0 c rfl).1⟩
theorem RdC.q {w w' : World} {g o : Nat} {l : List Cur} (h : RdC w g o l) (hq : Q w w') : RdC w' g o l := by
  intro k c hk
  haveI := h.old (by intro e; rw [e] at hk; simp at hk)
  obtain ⟨kk, rfl⟩ := hq
  simp only [World.cell?_jk]
  exact h k c hk
set_option maxHeartbeats 2000000 in
theorem dvalid_c (c : Cur) (w : World) (hc : c.OK) :
    Calls Tryd.prog 66 #[.agg #[.int .i64 c.i.a, .int .i64 c.i.b, .int .i64 c.i.c, .int .i64 c.i.d, .int .i64 c.r, .bool c.v]] w fun e w' => e = .returned (.bool true) ∧ Q w w' := by
  obtain ⟨⟨h1, h2, h3, h4, h5, h6, h7, h8⟩, h9, h10⟩ := hc
  go_enter Tryd.func66, Tryd.ntmps66
  go_wp2
  refine wp_loop_rounds 5 ?_
  repeat (rw [rounds_succ]; go_wp2)
  go_ret
  refine ⟨rfl, ?_⟩
  repeat' (first | exact Q.refl _ | refine Q.alloc ?_ _ | refine Q.jk ?_ _ | refine Q.drew ?_)
set_option maxHeartbeats 1000000 in
theorem dsum1_c (x y : Cy) (w : World) (hx : x.In 1000000000) (hy : y.In 1000000000) :
    Calls Tryd.prog 37 #[.agg #[.int .i64 x.a, .int .i64 x.b, .int .i64 x.c, .int .i64 x.d], .agg #[.int .i64 y.a, .int .i64 y.b, .int .i64 y.c, .int .i64 y.d]] w fun e w' => e = .returned (.tuple #[.agg #[.int .i64 (x.add y).a, .int .i64 (x.add y).b, .int .i64 (x.add y).c, .int .i64 (x.add y).d], .int .i64 0]) ∧ Q w w' := by
  go_enter Tryd.func37, Tryd.ntmps37
  go_wp2_with (go_at_call 38; refine (add_c x y _ (hx.mono (by decide)) (hy.mono (by decide))).mono ?_; rintro e w' ⟨rfl, kj, rfl⟩)
  refine bodyPost_ret (v := .tuple #[.agg #[.int .i64 (x.add y).a, .int .i64 (x.add y).b, .int .i64 (x.add y).c, .int .i64 (x.add y).d], .int .i64 0]) (by simp [results, Tryd.results37, go_sem]) rfl ⟨rfl, ?_⟩
  repeat' (first | exact Q.refl _ | refine Q.alloc ?_ _ | refine Q.jk ?_ _ | refine Q.drew ?_)
set_option maxHeartbeats 1000000 in
theorem drestr1_c (s : Su) (y : Cy) (w : World) (hs : s.In 10000000000000000) (hy : y.In 6553600) :
    Calls Tryd.prog 58 #[.agg #[.int .i64 s.a, .int .i64 s.b], .agg #[.int .i64 y.a, .int .i64 y.b, .int .i64 y.c, .int .i64 y.d]] w fun e w' => e = .returned (.tuple #[.agg #[.int .i64 (s.add y.norm).a, .int .i64 (s.add y.norm).b], .int .i64 0]) ∧ Q w w' := by
  have hn : y.norm.In 100000000000000000 := (norm_in hy).mono (by decide)
  go_enter Tryd.func58, Tryd.ntmps58
  go_wp2_with (first | (go_at_call 33; refine (norm_c y _ (hy.mono (by decide))).mono ?_; rintro e w' ⟨rfl, kj, rfl⟩) | (go_at_call 59; refine (sadd_c s y.norm _ (hs.mono (by decide)) hn).mono ?_; rintro e w' ⟨rfl, kj, rfl⟩))
  refine bodyPost_ret (v := .tuple #[.agg #[.int .i64 (s.add y.norm).a, .int .i64 (s.add y.norm).b], .int .i64 0]) (by simp [results, Tryd.results58, go_sem]) rfl ⟨rfl, ?_⟩
  repeat' (first | exact Q.refl _ | refine Q.alloc ?_ _ | refine Q.jk ?_ _ | refine Q.drew ?_)
set_option maxHeartbeats 4000000 in
theorem dgatherC_c (g o cap : Nat) (l : List Cur) (w : World) (hl : 1 ≤ l.length) (hl' : l.length ≤ 16) (hr : RdC w g o l) (hok : ∀ c ∈ l, c.OK) :
    Calls Tryd.prog 36 #[.slice (some ⟨g, o, none⟩) l.length cap, .func (.func 37) #[] #[]] w fun e w' => e = .returned (.tuple #[.agg #[.int .i64 (sumW l).a, .int .i64 (sumW l).b, .int .i64 (sumW l).c, .int .i64 (sumW l).d], .int .i64 0]) ∧ Q w w' := by
  haveI := hr.old (by intro e; rw [e] at hl; simp at hl)
  obtain ⟨n, hn⟩ : ∃ n, l.length = n := ⟨_, rfl⟩
  rw [hn] at hl hl' ⊢
  have HN := Lib.hid hn
  have HR := Lib.hid hr
  have HOK := Lib.hid hok
  clear hn hr hok
  go_enter Tryd.func36, Tryd.ntmps36
  go_wp2
  go_loopw [26] (fun i wr => ∃ k : Nat, k ≤ n ∧ i = .int .i64 k ∧ Q ((w.alloc (.cells #[.int .i64 0, .int .i64 0, .int .i64 0, .int .i64 0] 41)).alloc (.cells #[.int .i64 0, .int .i64 0, .int .i64 0, .int .i64 0] 41)) wr) (fun i _ => n - (intOf i).toNat)
  case atStart => exact ⟨0, by omega, rfl, Q.refl _⟩
  case round =>
    obtain ⟨k, hk, rfl, kw, rfl⟩ := hrel
    by_cases hlt : k < n
    · obtain ⟨c, hc⟩ : ∃ c, l[k]? = some c := ⟨_, List.getElem?_eq_getElem (by rw [HN.out]; exact hlt)⟩
      obtain ⟨c1, c2, c3, c4, c5, c6⟩ := HR.out k c hc
      have hcok := HOK.out c (List.mem_of_getElem? hc)
      clear hc
      go_wp2_with (go_at_call 66; refine (dvalid_c c _ hcok).mono ?_; rintro e w' ⟨rfl, kj, rfl⟩)
      go_roundw
      case rel =>
        refine ⟨k + 1, by omega, by go_num, ?_⟩
        repeat' (first | exact Q.refl _ | refine Q.alloc ?_ _ | refine Q.jk ?_ _ | refine Q.drew ?_)
      case measure => simp [intOf]; omega
    · obtain rfl : k = n := by omega
      clear hlt hk
      go_wp2
      go_loopw [38] (fun i wr => ∃ m : Nat, m ≤ k ∧ i = .int .i64 m ∧ Q ((((w.alloc (.cells #[.int .i64 0, .int .i64 0, .int .i64 0, .int .i64 0] 41)).alloc (.cells #[.int .i64 0, .int .i64 0, .int .i64 0, .int .i64 0] 41)).jk kw).alloc (.cells #[.int .i64 (sumW (l.take m)).a, .int .i64 (sumW (l.take m)).b, .int .i64 (sumW (l.take m)).c, .int .i64 (sumW (l.take m)).d] 41)) wr) (fun i _ => k - (intOf i).toNat)
      case atStart => exact ⟨0, by omega, rfl, Q.refl _⟩
      case round =>
        obtain ⟨m, hm, rfl, kx, rfl⟩ := hrel
        by_cases hlt : m < k
        · have hml : m < l.length := by rw [HN.out]; exact hlt
          obtain ⟨c, hc⟩ : ∃ c, l[m]? = some c := ⟨_, List.getElem?_eq_getElem hml⟩
          have hce : l[m] = c := by rw [List.getElem?_eq_getElem hml] at hc; exact Option.some.inj hc
          obtain ⟨c1, c2, c3, c4, c5, c6⟩ := HR.out m c hc
          have hcok := HOK.out c (List.mem_of_getElem? hc)
          have hkb := hcok.k_bd
          have EK := Lib.hid (sumW_take hml)
          rw [hce] at EK
          have hs := sumW_bd (ok_take HOK.out m) (by rw [List.length_take]; omega)
          clear hc hce hml
          have SC := Lib.hid fun w => scale_fit c.i c.k 65536 100 w hcok.1 hkb.1 hkb.2 (by decide) (by decide) (by decide)
          have AD := Lib.hid fun w => dsum1_c (sumW (l.take m)) (c.i.sc c.k) w (hs.mono (by decide)) (hcok.wt_in.mono (by decide))
          obtain ⟨ci, cr, cv⟩ := c
          obtain ⟨_, r1, r2⟩ := hcok
          dsimp only at c1 c2 c3 c4 c5 c6 r1 r2
          unfold Cur.k at SC
          dsimp only at SC
          cases cv
          all_goals
            simp only [if_true, if_false, Bool.false_eq_true] at SC
            go_wp2_with (first | (go_at_call 42; (with_reducible refine (SC.out _).mono ?_); rintro e w' ⟨rfl, kj, rfl⟩) | (go_at_call 37; refine (AD.out _).mono ?_; rintro e w' ⟨rfl, kj, rfl⟩))
            go_roundw
            case rel =>
              refine ⟨m + 1, by omega, by go_num, ?_⟩
              rw [EK.out]
              repeat' (first | exact Q.refl _ | refine Q.alloc ?_ _ | refine Q.jk ?_ _ | refine Q.drew ?_)
            case measure => simp [intOf]; omega
        · obtain rfl : m = k := by omega
          have EL : Hid (l.take m = l) := Lib.hid (List.take_of_length_le (by rw [HN.out]; omega))
          go_wp2
          refine bodyPost_ret (v := .tuple #[.agg #[.int .i64 (sumW l).a, .int .i64 (sumW l).b, .int .i64 (sumW l).c, .int .i64 (sumW l).d], .int .i64 0]) (by rw [EL.out]; simp [results, Tryd.results36, go_sem]) rfl ⟨rfl, ?_⟩
          repeat' (first | exact Q.refl _ | refine Q.alloc ?_ _ | refine Q.jk ?_ _ | refine Q.drew ?_)
set_option maxHeartbeats 4000000 in
theorem dgatherS_c (g o cap : Nat) (l : List Cur) (w : World) (hl : 1 ≤ l.length) (hl' : l.length ≤ 16) (hr : RdC w g o l) (hok : ∀ c ∈ l, c.OK) :
    Calls Tryd.prog 57 #[.slice (some ⟨g, o, none⟩) l.length cap, .func (.func 58) #[] #[]] w fun e w' => e = .returned (.tuple #[.agg #[.int .i64 (resW l).a, .int .i64 (resW l).b], .int .i64 0]) ∧ Q w w' := by
  haveI := hr.old (by intro e; rw [e] at hl; simp at hl)
  obtain ⟨n, hn⟩ : ∃ n, l.length = n := ⟨_, rfl⟩
  rw [hn] at hl hl' ⊢
  have HN := Lib.hid hn
  have HR := Lib.hid hr
  have HOK := Lib.hid hok
  clear hn hr hok
  go_enter Tryd.func57, Tryd.ntmps57
  go_wp2
  go_loopw [26] (fun i wr => ∃ k : Nat, k ≤ n ∧ i = .int .i64 k ∧ Q ((w.alloc (.cells #[.int .i64 0, .int .i64 0] 99)).alloc (.cells #[.int .i64 0, .int .i64 0] 99)) wr) (fun i _ => n - (intOf i).toNat)
  case atStart => exact ⟨0, by omega, rfl, Q.refl _⟩
  case round =>
    obtain ⟨k, hk, rfl, kw, rfl⟩ := hrel
    by_cases hlt : k < n
    · obtain ⟨c, hc⟩ : ∃ c, l[k]? = some c := ⟨_, List.getElem?_eq_getElem (by rw [HN.out]; exact hlt)⟩
      obtain ⟨c1, c2, c3, c4, c5, c6⟩ := HR.out k c hc
      have hcok := HOK.out c (List.mem_of_getElem? hc)
      clear hc
      go_wp2_with (go_at_call 66; refine (dvalid_c c _ hcok).mono ?_; rintro e w' ⟨rfl, kj, rfl⟩)
      go_roundw
      case rel =>
        refine ⟨k + 1, by omega, by go_num, ?_⟩
        repeat' (first | exact Q.refl _ | refine Q.alloc ?_ _ | refine Q.jk ?_ _ | refine Q.drew ?_)
      case measure => simp [intOf]; omega
    · obtain rfl : k = n := by omega
      clear hlt hk
      go_wp2
      go_loopw [38] (fun i wr => ∃ m : Nat, m ≤ k ∧ i = .int .i64 m ∧ Q ((((w.alloc (.cells #[.int .i64 0, .int .i64 0] 99)).alloc (.cells #[.int .i64 0, .int .i64 0] 99)).jk kw).alloc (.cells #[.int .i64 (resW (l.take m)).a, .int .i64 (resW (l.take m)).b] 99)) wr) (fun i _ => k - (intOf i).toNat)
      case atStart => exact ⟨0, by omega, rfl, Q.refl _⟩
      case round =>
        obtain ⟨m, hm, rfl, kx, rfl⟩ := hrel
        by_cases hlt : m < k
        · have hml : m < l.length := by rw [HN.out]; exact hlt
          obtain ⟨c, hc⟩ : ∃ c, l[m]? = some c := ⟨_, List.getElem?_eq_getElem hml⟩
          have hce : l[m] = c := by rw [List.getElem?_eq_getElem hml] at hc; exact Option.some.inj hc
          obtain ⟨c1, c2, c3, c4, c5, c6⟩ := HR.out m c hc
          have hcok := HOK.out c (List.mem_of_getElem? hc)
          have hkb := hcok.k_bd
          have EK := Lib.hid (resW_take hml)
          rw [hce] at EK
          have hs := resW_bd (ok_take HOK.out m) (by rw [List.length_take]; omega)
          clear hc hce hml
          have SC := Lib.hid fun w => scale_fit c.i c.k 65536 100 w hcok.1 hkb.1 hkb.2 (by decide) (by decide) (by decide)
          have AD := Lib.hid fun w => drestr1_c (resW (l.take m)) (c.i.sc c.k) w (hs.mono (by decide)) hcok.wt_in
          obtain ⟨ci, cr, cv⟩ := c
          obtain ⟨_, r1, r2⟩ := hcok
          dsimp only at c1 c2 c3 c4 c5 c6 r1 r2
          unfold Cur.k at SC
          dsimp only at SC
          cases cv
          all_goals
            simp only [if_true, if_false, Bool.false_eq_true] at SC
            go_wp2_with (first | (go_at_call 42; (with_reducible refine (SC.out _).mono ?_); rintro e w' ⟨rfl, kj, rfl⟩) | (go_at_call 58; refine (AD.out _).mono ?_; rintro e w' ⟨rfl, kj, rfl⟩))
            go_roundw
            case rel =>
              refine ⟨m + 1, by omega, by go_num, ?_⟩
              rw [EK.out]
              repeat' (first | exact Q.refl _ | refine Q.alloc ?_ _ | refine Q.jk ?_ _ | refine Q.drew ?_)
            case measure => simp [intOf]; omega
        · obtain rfl : m = k := by omega
          have EL : Hid (l.take m = l) := Lib.hid (List.take_of_length_le (by rw [HN.out]; omega))
          go_wp2
          refine bodyPost_ret (v := .tuple #[.agg #[.int .i64 (resW l).a, .int .i64 (resW l).b], .int .i64 0]) (by rw [EL.out]; simp [results, Tryd.results57, go_sem]) rfl ⟨rfl, ?_⟩
          repeat' (first | exact Q.refl _ | refine Q.alloc ?_ _ | refine Q.jk ?_ _ | refine Q.drew ?_)
end Go.Proofs.YtfdpnephjpcnbaaDoor
