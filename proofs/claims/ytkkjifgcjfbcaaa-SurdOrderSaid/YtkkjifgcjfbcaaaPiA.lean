
/- What Valid, trim, compareMag and mulMag of package integer return. -/
import Derived.Test.YtkkjifgcjfbcaaaBgC
namespace Go
open Go.Sub
/-- trim returned the digits without leading zeros, where they lie. -/
def ITrim (A : Option Addr) (n c : Nat) (l : List Int) (w : World) (e : Ending) (w' : World) : Prop := ∃ A' n', e = .returned (.slice A' n' n') ∧ w = w' ∧ (∀ W, Rd W A n c l → Rd W A' n' n' (trL l)) ∧ ∀ W, Fr W A → Fr W A'
end Go
namespace Go.Proofs.Ytkkjifgcjfbcaaa
open Go.RowKit Go.Sub
set_option maxHeartbeats 1000000 in
theorem itrim_any (A : Option Addr) (n c : Nat) (l : List Int) (w : World) (h : Rd w A n c l) (hd : Dg l) (hn : n < 100000) :
    Calls Try.prog 115 #[.slice A n c] w (ITrim A n c l w) := by
  rcases Nat.eq_zero_or_pos n with rfl | hp
  · obtain rfl : l = [] := List.eq_nil_of_length_eq_zero h.1
    have HT : Hid (trL [] = []) := Lib.hid (by unfold trL; simp [dval, dig_zero])
    clear h
    go_enter Try.func115, Try.ntmps115
    go_wp2
    refine wp_loop_rounds 1 ?_
    rw [rounds_succ]
    go_wp2
    go_ret
    exact ⟨none, 0, rfl, rfl, fun W _ => by rw [HT.out]; exact Rd.nil W, fun W _ => Fr.none W⟩
  · obtain ⟨g, rfl, hOld, hc⟩ := h.at_ hp
    have hl := h.1
    have hcap := h.2.1
    have HL := Lib.hid hl
    clear h hl
    go_enter Try.func115, Try.ntmps115
    go_upto_block 0 with (fail)
    go_cut [3] (fun i wx => ∃ k : Nat, i = .int .i64 k ∧ k ≤ n ∧ Hid (l.take k = trL l) ∧ w = wx)
    case first =>
      go_wp2_with fail
      go_loop [3] (fun i => ∃ k : Nat, i = .int .i64 k ∧ k ≤ n ∧ Hid (∀ j, k ≤ j → l.getD j 0 = 0)) (fun i => (intOf i).toNat)
      case atStart => exact ⟨n, rfl, Nat.le_refl _, Lib.hid fun j hj => getD_ge (by rw [HL.out]; exact hj)⟩
      case round =>
        obtain ⟨k, rfl, hk, HZ⟩ := hrel
        rcases k with _ | j
        · go_wp2
          go_meet
          exact ⟨0, rfl, by omega, Lib.hid (trL_of hd (by omega) HZ.out (.inl rfl)), rfl⟩
        · have hcj := hc.out j (by omega)
          have hj : j < n := by omega
          by_cases hz : l.getD j 0 = 0
          · have HZ0 := Lib.hid hz
            rw [hz] at hcj
            clear hz
            go_wp2
            go_round
            case rel => exact ⟨j, rfl, by omega, Lib.hid fun i hi => by
              rcases Nat.lt_or_ge j i with h1 | h1
              · exact HZ.out i h1
              · obtain rfl : i = j := by omega
                exact HZ0.out⟩
            case measure => simp [intOf]
          · have HZ1 := Lib.hid hz
            obtain ⟨d, ed⟩ : ∃ d, l.getD j 0 = d := ⟨_, rfl⟩
            rw [ed] at hcj hz
            have hz1 : (d == 0) = false := by simpa using hz
            clear ed hz
            go_wp2
            go_meet
            exact ⟨j + 1, rfl, by omega, Lib.hid (trL_of hd (by rw [HL.out]; omega) HZ.out (.inr HZ1.out)), rfl⟩
    case rest =>
      obtain ⟨k, rfl, hk, HT, rfl⟩ := hcut
      rcases Nat.eq_zero_or_pos k with rfl | hkp
      · go_wp2
        go_ret
        exact ⟨none, 0, rfl, rfl, fun W _ => by rw [← HT.out]; exact Rd.nil W, fun W _ => Fr.none W⟩
      · have hk1 : ((k : Int) == 0) = false := by simp; omega
        go_wp2
        go_ret
        exact ⟨some ⟨g, 0, none⟩, k, rfl, rfl, fun W hW => by rw [← HT.out]; exact hW.take hk (Nat.le_refl _) (fun h => by cases h), fun W h => h⟩
set_option maxHeartbeats 1000000 in
theorem icmpMag_any (A : Option Addr) (n c : Nat) (l : List Int) (B : Option Addr) (m d : Nat) (r : List Int) (w : World) (h1 : Rd w A n c l) (h2 : Rd w B m d r) (dl : Dg l) (dr : Dg r) (tl : Tr l) (tr : Tr r) (hn : n < 100000) (hm : m < 100000) :
    Calls Try.prog 116 #[.slice A n c, .slice B m d] w fun e w' => e = .returned (.int .i64 (cmpI (dval l) (dval r))) ∧ Q w w' := by
  have l1 := h1.1
  have l2 := h2.1
  rcases Nat.lt_trichotomy n m with hlt | heq | hgt
  · have hv := dval_longer dl dr tr (by omega)
    have e : cmpI (dval l) (dval r) = -1 := by simp [cmpI, hv]
    rw [e]
    clear h1 h2 e l1 l2 hv
    go_enter Try.func116, Try.ntmps116
    go_wp2
    go_ret
    exact ⟨rfl, Q.refl _⟩
  · subst heq
    have L1 := Lib.hid l1
    have L2 := Lib.hid l2
    clear l1 l2
    rcases Nat.eq_zero_or_pos n with rfl | hp
    · have e : cmpI (dval l) (dval r) = 0 := by
        rw [List.eq_nil_of_length_eq_zero L1.out, List.eq_nil_of_length_eq_zero L2.out]
        rfl
      rw [e]
      clear e h1 h2
      go_enter Try.func116, Try.ntmps116
      go_wp2
      refine wp_loop_rounds 1 ?_
      rw [rounds_succ]
      go_wp2
      go_ret
      exact ⟨rfl, Q.refl _⟩
    · obtain ⟨g, rfl, hOld, hc⟩ := h1.at_ hp
      obtain ⟨g', rfl, hOld', hc'⟩ := h2.at_ hp
      clear h1 h2
      go_enter Try.func116, Try.ntmps116
      go_wp2
      go_loopw [5] (fun i wr => ∃ k : Nat, i = .int .i64 ((k : Int) - 1) ∧ k ≤ n ∧ Hid (∀ j, k ≤ j → l.getD j 0 = r.getD j 0) ∧ Q w wr) (fun i _ => (intOf i + 1).toNat)
      case atStart => exact ⟨n, rfl, Nat.le_refl _, Lib.hid fun j hj => by rw [getD_ge (by rw [L1.out]; exact hj), getD_ge (by rw [L2.out]; exact hj)], Q.refl _⟩
      case round =>
        obtain ⟨k, rfl, hk, HZ, kw, rfl⟩ := hrel
        rcases k with _ | j
        · have e : cmpI (dval l) (dval r) = 0 := by
            have := dval_same l r (fun j => HZ.out j (Nat.zero_le _))
            simp [cmpI, this]
          have E := Lib.hid e
          clear e
          go_wp2
          go_ret
          exact ⟨by rw [E.out]; rfl, (Q.refl _).jk _⟩
        · rw [show ((j + 1 : Nat) : Int) - 1 = (j : Int) by omega]
          have hcj := hc.out j (by omega)
          have hcj' := hc'.out j (by omega)
          have hj : j < n := by omega
          obtain ⟨x, ex⟩ : ∃ x, l.getD j 0 = x := ⟨_, rfl⟩
          obtain ⟨y, ey⟩ : ∃ y, r.getD j 0 = y := ⟨_, rfl⟩
          rw [ex] at hcj
          rw [ey] at hcj'
          have EX := Lib.hid ex
          have EY := Lib.hid ey
          clear ex ey
          rcases Int.lt_trichotomy x y with hxy | hxy | hxy
          · have E : Hid (cmpI (dval l) (dval r) = -1) := Lib.hid (by
              have := dval_order dl dr j (by rw [L1.out]; exact hj) (by rw [L2.out]; exact hj) (fun i hi => HZ.out i hi) (by rw [EX.out, EY.out]; exact hxy)
              simp [cmpI, this])
            go_wp2
            try simp only [List.append]
            refine wp_region_jk (by kernel_rfl) (by kernel_rfl) ?_
            repeat (go_big_quiet_step (fail))
            refine wpQuiet_nil ?_
            intro _ hw'
            obtain ⟨kq, rfl⟩ := hw'
            go_wp2
            go_ret
            exact ⟨by rw [E.out]; rfl, ((Q.refl _).jk _).jk _⟩
          · subst hxy
            go_wp2
            try simp only [List.append]
            refine wp_region_jk (by kernel_rfl) (by kernel_rfl) ?_
            repeat (go_big_quiet_step (fail))
            refine wpQuiet_nil ?_
            intro _ hw'
            obtain ⟨kq, rfl⟩ := hw'
            go_wp2
            try simp only [List.append]
            refine wp_region_jk (by kernel_rfl) (by kernel_rfl) ?_
            repeat (go_big_quiet_step (fail))
            refine wpQuiet_nil ?_
            intro _ hw'
            obtain ⟨kq, rfl⟩ := hw'
            go_wp2
            go_roundw
            case rel => exact ⟨j, rfl, by omega, Lib.hid fun i hi => by
              rcases Nat.lt_or_ge j i with h1 | h1
              · exact HZ.out i h1
              · obtain rfl : i = j := by omega
                rw [EX.out, EY.out], (((Q.refl _).jk _).jk _).jk _⟩
            case measure => simp [intOf]
          · have E : Hid (cmpI (dval l) (dval r) = 1) := Lib.hid (by
              have := dval_order dr dl j (by rw [L2.out]; exact hj) (by rw [L1.out]; exact hj) (fun i hi => (HZ.out i hi).symm) (by rw [EX.out, EY.out]; exact hxy)
              simp [cmpI, this]
              omega)
            go_wp2
            try simp only [List.append]
            refine wp_region_jk (by kernel_rfl) (by kernel_rfl) ?_
            repeat (go_big_quiet_step (fail))
            refine wpQuiet_nil ?_
            intro _ hw'
            obtain ⟨kq, rfl⟩ := hw'
            go_wp2
            try simp only [List.append]
            refine wp_region_jk (by kernel_rfl) (by kernel_rfl) ?_
            repeat (go_big_quiet_step (fail))
            refine wpQuiet_nil ?_
            intro _ hw'
            obtain ⟨kq, rfl⟩ := hw'
            go_wp2
            go_ret
            exact ⟨by rw [E.out]; rfl, (((Q.refl _).jk _).jk _).jk _⟩
  · have hv := dval_longer dr dl tl (by omega)
    have e : cmpI (dval l) (dval r) = 1 := by simp [cmpI, hv]; omega
    rw [e]
    have q2 : ¬ n < m := by omega
    clear h1 h2 e l1 l2 hv
    go_enter Try.func116, Try.ntmps116
    go_wp2
    go_ret
    exact ⟨rfl, Q.refl _⟩
set_option maxRecDepth 100000 in
set_option maxHeartbeats 1000000 in
theorem ivalid_z (b : Bool) (A : Option Addr) (n c : Nat) (z : Int) (w : World) (hb : b = decide (z < 0)) (h : Rd w A n c (dig z.natAbs)) (hz : Sm z) :
    Calls Try.prog 112 #[.agg #[.bool b, .slice A n c]] w fun e w' => e = .returned (.bool true) ∧ Q w w' := by
  have hl := h.1
  have hs := hz.len
  rcases Nat.decEq n 0 with hn | hn
  · obtain ⟨j, rfl⟩ : ∃ j, n = j + 1 := ⟨n - 1, by omega⟩
    obtain ⟨g, rfl, hOld, hc⟩ := h.at_ (by omega)
    have ht := (dig_Tr z.natAbs).resolve_left (fun e => by rw [e] at hl; simp at hl)
    rw [hl] at ht
    have hcj := hc.out j (by omega)
    obtain ⟨x, ex⟩ : ∃ x, (dig z.natAbs).getD j 0 = x := ⟨_, rfl⟩
    rw [ex] at hcj
    have hx : (x != 0) = true := by
      have : x ≠ 0 := by rw [← ex]; exact ht
      simpa using this
    have hj : j < 400 := by omega
    clear ht ex hc h hl hs hb hz
    go_enter Try.func112, Try.ntmps112
    go_wp2
    go_ret
    refine ⟨rfl, ?_⟩
    repeat' (first | exact Q.refl _ | refine Q.alloc ?_ _ | refine Q.jk ?_ _ | refine Q.drew ?_)
  · subst hn
    have hz0 : z = 0 := by
      have := dig_nil.1 (List.eq_nil_of_length_eq_zero hl)
      omega
    subst hz0
    obtain rfl : b = false := by simpa using hb
    clear h hl hs hb hz
    go_enter Try.func112, Try.ntmps112
    go_wp2
    go_ret
    refine ⟨rfl, ?_⟩
    repeat' (first | exact Q.refl _ | refine Q.alloc ?_ _ | refine Q.jk ?_ _ | refine Q.drew ?_)
set_option maxHeartbeats 2000000 in
theorem imulMag_pos (A : Option Addr) (n c : Nat) (l : List Int) (B : Option Addr) (m d : Nat) (r : List Int) (w : World) (h1 : Rd w A n c l) (h2 : Rd w B m d r) (dl : Dg l) (dr : Dg r) (hn : n < 10000) (hm : m < 10000) (hn0 : 0 < n) (hm0 : 0 < m) :
    Calls Try.prog 114 #[.slice A n c, .slice B m d] w (RetS (dig (dval l * dval r).toNat) w) := by
  have L1 := Lib.hid h1.1
  have L2 := Lib.hid h2.1
  have H1 := Lib.hid h1
  have H2 := Lib.hid h2
  clear h1 h2
  have z1 : ((n : Int) == 0) = false := by simp; omega
  have z2 : ((m : Int) == 0) = false := by simp; omega
  have hmk := make_u32 w (n + m) (n + m) (by omega) (by omega)
  go_enter Try.func114, Try.ntmps114
  go_wp2
  clear hmk
  go_loopw [26] (fun i wr => ∃ (k : Nat) (o : List Int) (kx : Jk), i = .int .i64 k ∧ k ≤ n ∧ Hid (MulInv l r o k 0 0) ∧ wr = (w.alloc (.cells (cellsU o) 105)).jk kx) (fun i _ => n - (intOf i).toNat)
  case atStart =>
    obtain ⟨k0, hk0⟩ := Q.refl (w.alloc (.cells (cellsU (List.replicate (n + m) 0)) 105))
    exact ⟨0, List.replicate (n + m) 0, k0, rfl, Nat.zero_le _, Lib.hid (by have := MulInv.start l r; rwa [L1.out, L2.out] at this), hk0⟩
  case round =>
    obtain ⟨k, o, kx, rfl, hk, HI, rfl⟩ := hrel
    rcases Nat.lt_or_ge k n with hlt | hge
    · obtain ⟨g, rfl, hOld, hc⟩ := H1.out.at_ (by omega)
      have hcx := hc.out k hlt
      obtain ⟨x, ex⟩ : ∃ x, l.getD k 0 = x := ⟨_, rfl⟩
      rw [ex] at hcx
      have EX := Lib.hid ex
      have hx : 0 ≤ x ∧ x < 4294967296 := ex ▸ dl.getD k
      obtain ⟨hx0, hx1⟩ := hx
      clear ex hc
      go_upto_block 2 with (fail)
      go_cut [7] (fun s7 wx => ∃ (q : Int) (o : List Int) (kx : Jk), s7 = .int .u64 q ∧ 0 ≤ q ∧ q < 4294967296 ∧ Hid (MulInv l r o k m q) ∧ wx = (w.alloc (.cells (cellsU o) 105)).jk kx)
      case first =>
        go_wp2_with fail
        go_loopw [7, 31] (fun s7 s8 wr => ∃ (q : Int) (j : Nat) (o : List Int) (kx : Jk), s7 = .int .u64 q ∧ s8 = .int .i64 j ∧ j ≤ m ∧ 0 ≤ q ∧ q < 4294967296 ∧ Hid (MulInv l r o k j q) ∧ wr = (w.alloc (.cells (cellsU o) 105)).jk kx) (fun _ s8 _ => m - (intOf s8).toNat)
        case atStart => exact ⟨0, 0, o, kx, rfl, rfl, Nat.zero_le _, by decide, by decide, HI, rfl⟩
        case round =>
          clear HI
          obtain ⟨q, j, o, kx, rfl, rfl, hj, hq0, hq1, HI, rfl⟩ := hrel
          rcases Nat.lt_or_ge j m with hjl | hjg
          · obtain ⟨g', rfl, hOld', hc'⟩ := H2.out.at_ (by omega)
            have hcy := hc'.out j hjl
            obtain ⟨y, ey⟩ : ∃ y, r.getD j 0 = y := ⟨_, rfl⟩
            rw [ey] at hcy
            have EY := Lib.hid ey
            have hy : 0 ≤ y ∧ y < 4294967296 := ey ▸ dr.getD j
            obtain ⟨hy0, hy1⟩ := hy
            clear ey hc'
            have hol : o.length = n + m := by rw [HI.out.len, L1.out, L2.out]
            have hcz := cellsU_at (o := o) (j := k + j) (by omega)
            obtain ⟨z, ez⟩ : ∃ z, o.getD (k + j) 0 = z := ⟨_, rfl⟩
            rw [ez] at hcz
            have EZ := Lib.hid ez
            have hz : 0 ≤ z ∧ z < 4294967296 := ez ▸ HI.out.dg.getD (k + j)
            obtain ⟨hz0, hz1⟩ := hz
            clear ez hol
            obtain ⟨ST, t0, t1⟩ := HI.out.step (t := x * y + z + q) dl dr (by rw [L1.out]; exact hlt) (by rw [L2.out]; exact hjl) (by rw [EX.out, EY.out, EZ.out])
            have HS := Lib.hid ST
            clear ST
            have hb := mul_bd ⟨hx0, hx1⟩ ⟨hy0, hy1⟩
            have HC := Lib.hid (cellsU_set o (k + j) ((x * y + z + q) % 4294967296))
            have E1 : IntKind.u64.wrap (x * y) = x * y := IntWalk.u64_in _ (by omega)
            have E2 : IntKind.u64.wrap (x * y + z) = x * y + z := IntWalk.u64_in _ (by omega)
            have E3 : IntKind.u64.wrap (x * y + z + q) = x * y + z + q := IntWalk.u64_in _ (by omega)
            have E4 : IntKind.i64.wrap ((k : Int) + (j : Int)) = (k : Int) + (j : Int) := IntWalk.i64_in _ (by omega)
            have E5 : ((k : Int) + (j : Int)).toNat = k + j := by omega
            have hkj : k + j < n + m := by omega
            go_wp2
            refine wp_region_jk (by kernel_rfl) (by kernel_rfl) ?_
            repeat (go_big_quiet_step (fail))
            refine wpQuiet_nil ?_
            intro _ hw'
            obtain ⟨kq, rfl⟩ := hw'
            clear E1 E2 E3 E4 E5
            go_wp2
            go_roundw
            case rel => exact ⟨_, j + 1, _, _, rfl, by go_num, by omega, HS.out.c0, HS.out.c1, HS, by rw [HC.out, World.jk_jk]⟩
            case measure => simp [intOf]; omega
          · obtain rfl : j = m := by omega
            go_wp2
            go_meet
            exact ⟨q, o, kx, rfl, hq0, hq1, HI, rfl⟩
      case rest =>
        clear HI
        obtain ⟨q, o, kx, rfl, hq0, hq1, HI, rfl⟩ := hcut
        have HR : Hid (MulInv l r (o.set (k + m) q) (k + 1) 0 0) := Lib.hid (by
          have := HI.out
          rw [← L2.out] at this ⊢
          exact this.row (by rw [L1.out]; exact hlt))
        have HC := Lib.hid (cellsU_set o (k + m) q)
        have hkm : k + m < n + m := by omega
        have hcz := cellsU_at (o := o) (j := k + m) (by rw [HI.out.len, L1.out, L2.out]; omega)
        go_wp2
        go_roundw
        case rel => exact ⟨k + 1, _, kx, by go_num, by omega, HR, by rw [HC.out]⟩
        case measure => simp [intOf]; omega
    · obtain rfl : k = n := by omega
      have HD : Hid (dval o = dval l * dval r) := Lib.hid (by
        have := HI.out
        rw [← L1.out] at this
        exact this.done)
      have hrd : Rd ((w.alloc (.cells (cellsU o) 105)).jk kx) (some ⟨w.heap.size, 0, none⟩) (k + m) (k + m) o := by
        have hol : o.length = k + m := by rw [HI.out.len, L1.out, L2.out]
        refine ⟨hol, Nat.le_refl _, fun _ => ⟨_, rfl, by simp [World.size_jk]; omega, fun i hi => ?_⟩, fun h => by cases h⟩
        rw [World.cell?_jk, cell_of_row _ _ _ (cellsU o) _ (0, 0) (heap_alloc_new w _)]
        exact cellsU_at (by omega)
      have HRD := Lib.hid hrd
      clear hrd
      go_wp2_with (go_at_call 115; refine (itrim_any _ _ _ o _ HRD.out HI.out.dg (by omega)).mono ?_; rintro e w' ⟨A', n', rfl, rfl, hr0, hf'⟩; have hr' := hr0 _ HRD.out; clear hr0)
      go_ret
      refine RetS.of (A := A') (n := n') (c := n') rfl (((Q.refl _).alloc _).jk _) ?_ (hf' w (fun ad e => by cases e; exact Nat.le_refl _))
      rw [← HD.out]
      exact hr'
set_option maxHeartbeats 1000000 in
theorem imulMag_any (A : Option Addr) (n c : Nat) (l : List Int) (B : Option Addr) (m d : Nat) (r : List Int) (w : World) (h1 : Rd w A n c l) (h2 : Rd w B m d r) (dl : Dg l) (dr : Dg r) (hn : n < 10000) (hm : m < 10000) :
    Calls Try.prog 114 #[.slice A n c, .slice B m d] w (RetS (dig (dval l * dval r).toNat) w) := by
  rcases Nat.eq_zero_or_pos n with hn0 | hn0
  · obtain rfl : l = [] := List.eq_nil_of_length_eq_zero (h1.1.trans hn0)
    subst hn0
    have HT : Hid (dig (dval [] * dval r).toNat = []) := Lib.hid (by simp [dval, dig_zero])
    clear h1 h2
    go_enter Try.func114, Try.ntmps114
    go_wp2
    go_ret
    exact RetS.of (A := none) (n := 0) (c := 0) rfl (Q.refl _) (by rw [HT.out]; exact Rd.nil w) (Fr.none w)
  · rcases Nat.eq_zero_or_pos m with hm0 | hm0
    · obtain rfl : r = [] := List.eq_nil_of_length_eq_zero (h2.1.trans hm0)
      subst hm0
      have HT : Hid (dig (dval l * dval []).toNat = []) := Lib.hid (by simp [dval, dig_zero])
      have z1 : ((n : Int) == 0) = false := by simp; omega
      clear h1 h2
      go_enter Try.func114, Try.ntmps114
      go_wp2
      go_ret
      exact RetS.of (A := none) (n := 0) (c := 0) rfl (Q.refl _) (by rw [HT.out]; exact Rd.nil w) (Fr.none w)
    · exact imulMag_pos A n c l B m d r w h1 h2 dl dr hn hm hn0 hm0
end Go.Proofs.Ytkkjifgcjfbcaaa
