
/- What math/bits.Len64, LeadingZeros64 and Div64 return. -/
import Derived.Test.YtkkjifgcjfbcaaaDvPlain
import Derived.Shelf.Small.Bits
import Derived.Laws.Bits64b
import Derived.Deep.DeepCutAuto
import Derived.Deep.CutBlock
import Derived.Lib.Hide
namespace Go.Sub
theorem bl_spec (f : Nat) : ∀ x : Nat, x < 2 ^ f → f ≤ 64 → x ≠ 0 → ∃ k, Lib.bitLen x = k + 1 ∧ 2 ^ k ≤ x ∧ x < 2 ^ (k + 1) := by
  induction f with
  | zero => intro x h _ h0; simp at h; omega
  | succ f ih =>
    intro x h hf h0
    have hx : x < 2 ^ 64 := Nat.lt_of_lt_of_le h (Nat.pow_le_pow_right (by omega) hf)
    rw [Lib.bitLen_half x h0 hx]
    rcases Nat.decEq (x / 2) 0 with h1 | h1
    · obtain ⟨k, e, h2, h3⟩ := ih (x / 2) (by rw [Nat.pow_succ] at h; omega) (by omega) h1
      refine ⟨k + 1, by omega, ?_, ?_⟩
      · rw [Nat.pow_succ]; omega
      · rw [Nat.pow_succ]; omega
    · refine ⟨0, ?_, by simp; omega, by simp; omega⟩
      rw [h1]
      rfl
set_option maxRecDepth 100000 in
/-- Shifted up to the highest bit. -/
theorem lz_spec {y : Int} (h0 : 0 < y) (h1 : y < 18446744073709551616) : ∃ s : Nat, s < 64 ∧ 64 - (Lib.bitLen y.toNat : Int) = s ∧ 9223372036854775808 ≤ y * 2 ^ s ∧ y * 2 ^ s < 18446744073709551616 := by
  obtain ⟨n, rfl⟩ := Int.eq_ofNat_of_zero_le (Int.le_of_lt h0)
  obtain ⟨k, e, h2, h3⟩ := bl_spec 64 n (by omega) (Nat.le_refl _) (by omega)
  have hk : k < 64 := (Nat.pow_lt_pow_iff_right (a := 2) (by omega)).1 (Nat.lt_of_le_of_lt h2 (show n < 2 ^ 64 by omega))
  refine ⟨63 - k, by omega, ?_, ?_, ?_⟩
  · rw [show ((n : Int)).toNat = n by omega, e]; omega
  · have := Nat.mul_le_mul_right (2 ^ (63 - k)) h2
    rw [← Nat.pow_add, show k + (63 - k) = 63 by omega, show (2 : Nat) ^ 63 = 9223372036854775808 by decide] at this
    have e2 : ((n * 2 ^ (63 - k) : Nat) : Int) = (n : Int) * 2 ^ (63 - k) := by rw [Int.natCast_mul, Int.natCast_pow]; rfl
    rw [← e2]
    omega
  · have := Nat.mul_lt_mul_of_pos_right h3 (show 0 < 2 ^ (63 - k) from Nat.two_pow_pos _)
    rw [← Nat.pow_add, show k + 1 + (63 - k) = 64 by omega, show (2 : Nat) ^ 64 = 18446744073709551616 by decide] at this
    have e2 : ((n * 2 ^ (63 - k) : Nat) : Int) = (n : Int) * 2 ^ (63 - k) := by rw [Int.natCast_mul, Int.natCast_pow]; rfl
    rw [← e2]
    omega
set_option maxRecDepth 100000 in
theorem or_shift {hi lo : Int} {s : Nat} (hs : s < 64) (h0 : 0 ≤ hi) (h1 : hi * 2 ^ s < 18446744073709551616) (l0 : 0 ≤ lo) (l1 : lo < 18446744073709551616) : bits .or .u64 (IntKind.u64.wrap (hi * 2 ^ s)) (lo / 2 ^ (64 - s)) = hi * 2 ^ s + lo / 2 ^ (64 - s) := by
  obtain ⟨a, rfl⟩ := Int.eq_ofNat_of_zero_le h0
  obtain ⟨b, rfl⟩ := Int.eq_ofNat_of_zero_le l0
  have e1 : ((a : Int) * 2 ^ s) = ((a * 2 ^ s : Nat) : Int) := by rw [Int.natCast_mul, Int.natCast_pow]; rfl
  have e2 : ((b : Int) / 2 ^ (64 - s)) = ((b / 2 ^ (64 - s) : Nat) : Int) := by rw [Int.natCast_ediv, Int.natCast_pow]; rfl
  rw [e1] at h1
  have hb : b / 2 ^ (64 - s) < 2 ^ s := by
    rw [Nat.div_lt_iff_lt_mul (Nat.two_pow_pos _), ← Nat.pow_add, show s + (64 - s) = 64 by omega]
    omega
  have hb2 : 2 ^ s ≤ 2 ^ 64 := Nat.pow_le_pow_right (by omega) (by omega)
  rw [e1, e2, IntKind.wrap_u64, show ((a * 2 ^ s : Nat) : Int) % 18446744073709551616 = ((a * 2 ^ s : Nat) : Int) by omega]
  rw [bits_or_u64_nat _ _ (by omega) (by omega)]
  rw [Nat.mul_comm a, ← Nat.two_pow_add_eq_or_of_lt hb]
  omega
set_option maxRecDepth 100000 in
theorem dv_setup {hi lo y : Int} {s : Nat} (hs : s < 64) (h0 : 0 ≤ hi) (h1 : hi < y) (l0 : 0 ≤ lo) (l1 : lo < 18446744073709551616) :
    0 ≤ hi * 2 ^ s + lo / 2 ^ (64 - s) ∧ hi * 2 ^ s + lo / 2 ^ (64 - s) < y * 2 ^ s ∧ (hi * 18446744073709551616 + lo) / y = ((hi * 2 ^ s + lo / 2 ^ (64 - s)) * 18446744073709551616 + lo * 2 ^ s % 18446744073709551616) / (y * 2 ^ s) := by
  have hp : (0 : Int) < 2 ^ s := Int.pow_pos (by omega)
  have hp' : (0 : Int) < 2 ^ (64 - s) := Int.pow_pos (by omega)
  have hpp : (2 : Int) ^ s * 2 ^ (64 - s) = 18446744073709551616 := by
    rw [← Int.pow_add, show s + (64 - s) = 64 by omega]
    decide
  have e1 := dv_shift (hi := hi) (lo := lo) (y := y) hp hpp
  have e2 : lo * 2 ^ s % 18446744073709551616 = lo % 2 ^ (64 - s) * 2 ^ s := by
    rw [← hpp, Int.mul_comm lo, Int.mul_emod_mul_of_pos _ _ hp, Int.mul_comm]
  rw [e2, ← e1]
  generalize (2 : Int) ^ s = p at *
  generalize (2 : Int) ^ (64 - s) = p' at *
  have h3 := Int.mul_nonneg h0 (Int.le_of_lt hp)
  have h4 := Int.ediv_nonneg l0 (Int.le_of_lt hp')
  have h5 : lo / p' < p := by
    rw [Int.ediv_lt_iff_lt_mul hp', hpp]
    exact l1
  have h6 := Int.mul_le_mul_of_nonneg_right (show hi + 1 ≤ y by omega) (Int.le_of_lt hp)
  rw [Int.add_mul] at h6
  exact ⟨by omega, by omega, rfl⟩
end Go.Sub
namespace Go.Proofs.Ytkkjifgcjfbcaaa
open Go.RowKit Go.Sub Go.Shelf
def lays129_ren : Go.Shelf.Ren := ⟨fun | 129 => 129 | n => n, fun | 3 => 3 | 4 => 4 | 5 => 5 | 9 => 9 | 46 => 91 | 53 => 63 | n => n, fun n => n⟩
theorem lays129 : Lays.n129 Try.prog lays129_ren := {
  mixed := by kernel_rfl
  f129 := Try.func129.trans (congrArg some (by kernel_rfl))
  t3 := Try.underlying3
  a3 := Try.isAgg3
  z3 := Try.sizeOf3
  v3 := Try.zeroValue3
  t4 := Try.underlying4
  a4 := Try.isAgg4
  z4 := Try.sizeOf4
  v4 := Try.zeroValue4
  t5 := Try.underlying5
  a5 := Try.isAgg5
  z5 := Try.sizeOf5
  v5 := Try.zeroValue5
  t9 := Try.underlying9
  a9 := Try.isAgg9
  z9 := Try.sizeOf9
  v9 := Try.zeroValue9
  t46 := Try.underlying91
  a46 := Try.isAgg91
  z46 := Try.sizeOf91
  v46 := Try.zeroValue91
  t53 := Try.underlying63
  a53 := Try.isAgg63
  z53 := Try.sizeOf63
  v53 := Try.zeroValue63 }
theorem len64_any (x : Int) (w : World) (h0 : 0 ≤ x) (h1 : x ≤ 18446744073709551615) :
    Calls Try.prog 129 #[.int .u64 x] w fun e w' => e = .returned (.int .i64 (Lib.bitLen x.toNat)) ∧ w' = w := Any.bits_Len64 lays129 x w h0 h1
set_option maxHeartbeats 1000000 in
theorem lz64_any (x : Int) (w : World) (h0 : 0 < x) (h1 : x ≤ 18446744073709551615) :
    Calls Try.prog 128 #[.int .u64 x] w fun e w' => e = .returned (.int .i64 (64 - (Lib.bitLen x.toNat : Int))) ∧ w = w' := by
  have hl : Lib.bitLen x.toNat ≤ 64 := Lib.bitLen_le _ 64 (by omega) (by omega)
  go_enter Try.func128, Try.ntmps128
  go_wp2_with (go_at_call 129; refine (len64_any x _ (by omega) (by omega)).mono ?_; rintro e w' ⟨rfl, rfl⟩)
  go_ret
  exact ⟨rfl, rfl⟩
def Quot64 (hi lo y : Int) (w : World) (e : Ending) (w' : World) : Prop := (∃ r, e = .returned (.tuple #[.int .u64 ((hi * 18446744073709551616 + lo) / y), .int .u64 r])) ∧ Q w w'
set_option maxRecDepth 100000 in
set_option maxHeartbeats 1000000 in
theorem div64_any (hi lo y : Int) (w : World) (a0 : 0 ≤ hi) (a1 : hi < y) (b0 : 0 ≤ lo) (b1 : lo < 18446744073709551616) (c1 : y < 18446744073709551616) :
    Calls Try.prog 120 #[.int .u64 hi, .int .u64 lo, .int .u64 y] w (Quot64 hi lo y w) := by
  by_cases hh : hi = 0
  · subst hh
    go_enter Try.func120, Try.ntmps120
    go_wp2
    try simp only [List.append]
    refine wp_region_jk (by kernel_rfl) (by kernel_rfl) ?_
    repeat (go_big_quiet_step (fail))
    refine wpQuiet_nil ?_
    intro _ hw'
    obtain ⟨kq, rfl⟩ := hw'
    go_wp2
    go_ret2
    exact ⟨⟨lo % y, by rw [Int.zero_mul, Int.zero_add]; rfl⟩, (Q.refl _).jk _⟩
  · obtain ⟨s, hs', hs, hY0, hY1⟩ := lz_spec (show 0 < y by omega) c1
    have HS := Lib.hid hs
    clear hs
    go_enter Try.func120, Try.ntmps120
    go_upto_region 14 with ((go_at_call 128; refine (lz64_any y _ (by omega) (by omega)).mono ?_; rintro e w' ⟨rfl, rfl⟩; rw [HS.out]))
    go_cut [2, 8, 9, 10, 11, 13, 14] (fun s2 s8 s9 s10 s11 s13 s14 wx => ∃ y1 y0 u d1 d0 : Int, 2147483648 ≤ y1 ∧ y1 < 4294967296 ∧ 0 ≤ y0 ∧ y0 < 4294967296 ∧ 0 ≤ u ∧ u < y1 * 4294967296 + y0 ∧ 0 ≤ d1 ∧ d1 < 4294967296 ∧ 0 ≤ d0 ∧ d0 < 4294967296 ∧
      Hid ((hi * 18446744073709551616 + lo) / y = (u * 18446744073709551616 + (d1 * 4294967296 + d0)) / (y1 * 4294967296 + y0)) ∧ s2 = .int .u64 (y1 * 4294967296 + y0) ∧ s8 = .int .u64 s ∧ s9 = .int .u64 y1 ∧ s10 = .int .u64 y0 ∧ s11 = .int .u64 u ∧ s13 = .int .u64 d1 ∧ s14 = .int .u64 d0 ∧ w = wx)
    case first =>
      obtain ⟨k1, k2, k3⟩ := dv_setup hs' a0 a1 b0 b1
      have hor := or_shift (hi := hi) (lo := lo) hs' a0 (by
        have := Int.mul_le_mul_of_nonneg_right (Int.le_of_lt a1) (show (0 : Int) ≤ 2 ^ s from Int.le_of_lt (Int.pow_pos (by omega)))
        omega) b0 b1
      have HO := Lib.hid hor
      have K3 := Lib.hid k3
      clear hor k3
      go_wp2
      go_meet
      refine ⟨y * 2 ^ s / 4294967296, y * 2 ^ s % 4294967296, hi * 2 ^ s + lo / 2 ^ (64 - s), lo * 2 ^ s % 18446744073709551616 / 4294967296, lo * 2 ^ s % 18446744073709551616 % 4294967296, by omega, by omega, by omega, by omega, by omega, by omega, by omega, by omega, by omega, by omega, Lib.hid ?_, ?_, rfl, rfl, ?_, ?_, ?_, ?_, rfl⟩
      · rw [K3.out]
        have ea : ∀ a : Int, a / 4294967296 * 4294967296 + a % 4294967296 = a := by intro a; omega
        rw [ea, ea]
      · have ea : ∀ a : Int, a / 4294967296 * 4294967296 + a % 4294967296 = a := by intro a; omega
        rw [ea]
      · rw [mask32 _ (by omega) hY1]
      · rw [HO.out]
      · rw [IntKind.wrap_u64]
      · rw [IntKind.wrap_u64, mask32w]
    case rest =>
      obtain ⟨y1, y0, u, d1, d0, hy1, hy1', hy0, hy0', hu, hu', hd1, hd1', hd0, hd0', HQ, rfl, rfl, rfl, rfl, rfl, rfl, rfl, rfl⟩ := hcut
      obtain ⟨f1, f2, f3, f4⟩ := dv_first (q := u / y1) hu hu' rfl hy1 hy0 hy0' rfl
      have fg := dv_guess hu hd1 hd1' (show y1 * 4294967296 + y0 = y1 * 4294967296 + y0 from rfl) hy1 hy0
      have E1 : Hid (IntKind.u64.wrap (u - IntKind.u64.wrap (u / y1 * y1)) = u - u / y1 * y1) := Lib.hid (by rw [IntKind.wrap_u64, IntKind.wrap_u64]; omega)
      go_upto_block 0 with fail
      rw [E1.out]
      clear E1 hY0 hY1 HS
      go_cut [15] (fun s15 wx => s15 = .int .u64 ((u * 4294967296 + d1) / (y1 * 4294967296 + y0)) ∧ w = wx)
      case first =>
        go_wp2_with fail
        go_loop [15, 16] (fun q r => ∃ q1 r1 : Int, q = .int .u64 q1 ∧ r = .int .u64 r1 ∧ Hid (q1 * y1 + r1 = u) ∧ 0 ≤ q1 ∧ q1 ≤ 4294967297 ∧ 0 ≤ r1 ∧ r1 < 4294967296 ∧ (u * 4294967296 + d1) / (y1 * 4294967296 + y0) ≤ q1) (fun q _ => (intOf q).toNat)
        case atStart => exact ⟨_, _, rfl, rfl, Lib.hid (by omega), f1, f2, f3, by omega, fg⟩
        case round =>
          obtain ⟨q1, r1, rfl, rfl, HE, hq0, hq1, hr0, hr1, hge⟩ := hrel
          clear f1 f2 f3 f4 fg
          have next : q1 - 1 ≤ 4294967296 → (u * 4294967296 + d1) / (y1 * 4294967296 + y0) ≤ q1 - 1 → 4294967296 ≤ r1 + y1 → q1 - 1 = (u * 4294967296 + d1) / (y1 * 4294967296 + y0) := fun k0 k1 k2 =>
            (dv_digit (q := q1 - 1) (r := r1 + y1) rfl (by omega) (by rw [Int.sub_mul]; have := HE.out; omega) (by have := dv_mul_small k0 hy0 hy0'; omega) k1).symm
          have NX := Lib.hid next
          clear next
          by_cases h1 : 4294967296 ≤ q1
          · have ht := dv_top (u := u) (y := y1 * 4294967296 + y0) (d := d1) (by omega) (by omega) (by omega)
            by_cases h2 : 4294967296 ≤ r1 + y1
            · go_wp2
              go_meet
              exact ⟨by rw [NX.out (by omega) (by omega) h2], rfl⟩
            · go_wp2
              go_round
              case rel => exact ⟨q1 - 1, r1 + y1, rfl, rfl, Lib.hid (by rw [Int.sub_mul]; have := HE.out; omega), by omega, by omega, by omega, by omega, by omega⟩
              case measure => simp [intOf]; omega
          · have p0 : 0 ≤ q1 * y0 := Int.mul_nonneg hq0 hy0
            have p1 := dv_mul_small (q := q1) (by omega) hy0 hy0'
            by_cases h3 : 4294967296 * r1 + d1 < q1 * y0
            · have hl := dv_less (u := u) (y := y1 * 4294967296 + y0) (d := d1) (q := q1) (r := r1) rfl (by omega) HE.out h3
              have hq2 : 0 < q1 := by
                rcases Int.lt_or_le 0 q1 with hx | hx
                · exact hx
                · have e0 : q1 = 0 := by omega
                  rw [e0, Int.zero_mul] at h3
                  omega
              by_cases h2 : 4294967296 ≤ r1 + y1
              · go_wp2
                go_meet
                exact ⟨by rw [NX.out (by omega) (by omega) h2], rfl⟩
              · go_wp2
                go_round
                case rel => exact ⟨q1 - 1, r1 + y1, rfl, rfl, Lib.hid (by rw [Int.sub_mul]; have := HE.out; omega), by omega, by omega, by omega, by omega, by omega⟩
                case measure => simp [intOf]; omega
            · have ED := Lib.hid (dv_digit (u := u) (y := y1 * 4294967296 + y0) (d := d1) (q := q1) (r := r1) rfl (by omega) HE.out (by omega) hge)
              go_wp2
              go_meet
              exact ⟨by rw [ED.out], rfl⟩
      case rest =>
        obtain ⟨rfl, rfl⟩ := hcut
        clear f1 f2 f3 f4 fg
        obtain ⟨Q1, R1, hQ1, g1, g2, g3, g4, HQ2⟩ : ∃ Q1 R1 : Int, (u * 4294967296 + d1) / (y1 * 4294967296 + y0) = Q1 ∧ 0 ≤ Q1 ∧ Q1 < 4294967296 ∧ 0 ≤ R1 ∧ R1 < y1 * 4294967296 + y0 ∧ Hid ((hi * 18446744073709551616 + lo) / y = Q1 * 4294967296 + (R1 * 4294967296 + d0) / (y1 * 4294967296 + y0) ∧ u * 4294967296 + d1 = Q1 * (y1 * 4294967296 + y0) + R1) := by
          refine ⟨_, (u * 4294967296 + d1) % (y1 * 4294967296 + y0), rfl, Int.ediv_nonneg (by omega) (by omega), ?_, Int.emod_nonneg _ (by omega), Int.emod_lt_of_pos _ (by omega), Lib.hid ⟨?_, ?_⟩⟩
          · have := dv_top (u := u) (y := y1 * 4294967296 + y0) (d := d1) (by omega) hu' hd1'
            omega
          · rw [HQ.out, dv_two (by omega) hu hd1]
          · have := Int.mul_ediv_add_emod (u * 4294967296 + d1) (y1 * 4294967296 + y0)
            rw [Int.mul_comm] at this
            omega
        rw [hQ1]
        clear hQ1 HQ
        have E1 : Hid (IntKind.u64.wrap (IntKind.u64.wrap (IntKind.u64.wrap (u * 4294967296) + d1) - IntKind.u64.wrap (Q1 * (y1 * 4294967296 + y0))) = R1) := Lib.hid (by
          have := HQ2.out.2
          simp only [IntKind.wrap_u64]
          omega)
        go_upto_region 22 with fail
        rw [E1.out]
        go_upto_block 2 with fail
        clear E1
        obtain ⟨f1, f2, f3, f4⟩ := dv_first (q := R1 / y1) g3 g4 rfl hy1 hy0 hy0' rfl
        have fg := dv_guess g3 hd0 hd0' (show y1 * 4294967296 + y0 = y1 * 4294967296 + y0 from rfl) hy1 hy0
        have E1 : Hid (IntKind.u64.wrap (R1 - IntKind.u64.wrap (R1 / y1 * y1)) = R1 - R1 / y1 * y1) := Lib.hid (by rw [IntKind.wrap_u64, IntKind.wrap_u64]; omega)
        rw [E1.out]
        clear E1
        go_cut [18] (fun s18 wx => s18 = .int .u64 ((R1 * 4294967296 + d0) / (y1 * 4294967296 + y0)) ∧ w = wx)
        case first =>
          go_wp2_with fail
          go_loop [18, 16] (fun q r => ∃ q1 r1 : Int, q = .int .u64 q1 ∧ r = .int .u64 r1 ∧ Hid (q1 * y1 + r1 = R1) ∧ 0 ≤ q1 ∧ q1 ≤ 4294967297 ∧ 0 ≤ r1 ∧ r1 < 4294967296 ∧ (R1 * 4294967296 + d0) / (y1 * 4294967296 + y0) ≤ q1) (fun q _ => (intOf q).toNat)
          case atStart => exact ⟨_, _, rfl, rfl, Lib.hid (by omega), f1, f2, f3, by omega, fg⟩
          case round =>
            obtain ⟨q1, r1, rfl, rfl, HE, hq0, hq1, hr0, hr1, hge⟩ := hrel
            clear f1 f2 f3 f4 fg
            have next : q1 - 1 ≤ 4294967296 → (R1 * 4294967296 + d0) / (y1 * 4294967296 + y0) ≤ q1 - 1 → 4294967296 ≤ r1 + y1 → q1 - 1 = (R1 * 4294967296 + d0) / (y1 * 4294967296 + y0) := fun k0 k1 k2 =>
              (dv_digit (q := q1 - 1) (r := r1 + y1) rfl (by omega) (by rw [Int.sub_mul]; have := HE.out; omega) (by have := dv_mul_small k0 hy0 hy0'; omega) k1).symm
            have NX := Lib.hid next
            clear next
            by_cases h1 : 4294967296 ≤ q1
            · have ht := dv_top (u := R1) (y := y1 * 4294967296 + y0) (d := d0) (by omega) (by omega) (by omega)
              by_cases h2 : 4294967296 ≤ r1 + y1
              · go_wp2
                go_meet
                exact ⟨by rw [NX.out (by omega) (by omega) h2], rfl⟩
              · go_wp2
                go_round
                case rel => exact ⟨q1 - 1, r1 + y1, rfl, rfl, Lib.hid (by rw [Int.sub_mul]; have := HE.out; omega), by omega, by omega, by omega, by omega, by omega⟩
                case measure => simp [intOf]; omega
            · have p0 : 0 ≤ q1 * y0 := Int.mul_nonneg hq0 hy0
              have p1 := dv_mul_small (q := q1) (by omega) hy0 hy0'
              by_cases h3 : 4294967296 * r1 + d0 < q1 * y0
              · have hl := dv_less (u := R1) (y := y1 * 4294967296 + y0) (d := d0) (q := q1) (r := r1) rfl (by omega) HE.out h3
                have hq2 : 0 < q1 := by
                  rcases Int.lt_or_le 0 q1 with hx | hx
                  · exact hx
                  · have e0 : q1 = 0 := by omega
                    rw [e0, Int.zero_mul] at h3
                    omega
                by_cases h2 : 4294967296 ≤ r1 + y1
                · go_wp2
                  go_meet
                  exact ⟨by rw [NX.out (by omega) (by omega) h2], rfl⟩
                · go_wp2
                  go_round
                  case rel => exact ⟨q1 - 1, r1 + y1, rfl, rfl, Lib.hid (by rw [Int.sub_mul]; have := HE.out; omega), by omega, by omega, by omega, by omega, by omega⟩
                  case measure => simp [intOf]; omega
              · have ED := Lib.hid (dv_digit (u := R1) (y := y1 * 4294967296 + y0) (d := d0) (q := q1) (r := r1) rfl (by omega) HE.out (by omega) hge)
                go_wp2
                go_meet
                exact ⟨by rw [ED.out], rfl⟩
        case rest =>
          obtain ⟨rfl, rfl⟩ := hcut
          clear f1 f2 f3 f4 fg
          have k0 : 0 ≤ (R1 * 4294967296 + d0) / (y1 * 4294967296 + y0) := Int.ediv_nonneg (by omega) (by omega)
          have k1 := dv_top (u := R1) (y := y1 * 4294967296 + y0) (d := d0) (by omega) g4 hd0'
          go_wp2
          go_ret2
          exact ⟨⟨_, by rw [HQ2.out.1]; rfl⟩, Q.refl _⟩
end Go.Proofs.Ytkkjifgcjfbcaaa
