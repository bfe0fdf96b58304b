
/- What Norm, Conj and Sub of package surd, some functions of its reference, and two helpers of its laws return. -/
import Derived.Test.YtkkjifgcjfbcaaaSuC
import Derived.Test.YtkkjifgcjfbcaaaTail
namespace Go.Sub
def snormR (x : Su) : Int × Int := if wi2 268435456 x.a x.b then (x.norm, 0) else (0, 1)
def sconjR (x : Su) : R2 := if wi2 1152921504606846976 x.a x.b then ⟨x.conj, 0⟩ else ⟨zeroS, 1⟩
def smallS (x : Su) : Su := ⟨x.a.tmod 1048576, x.b.tmod 1048576⟩
def modN (n m : Int) : Int := n % m
theorem tmod_in (n : Int) {m : Int} (hm : 0 < m) : -(m - 1) ≤ n.tmod m ∧ n.tmod m ≤ m - 1 := by
  have h1 := Int.tmod_lt_of_pos n hm
  have h2 := Int.tmod_lt_of_pos (-n) hm
  rw [Int.neg_tmod] at h2
  omega
theorem smallS_in (x : Su) : (smallS x).In 1048576 := by
  have h1 := tmod_in x.a (show (0 : Int) < 1048576 by decide)
  have h2 := tmod_in x.b (show (0 : Int) < 1048576 by decide)
  unfold Su.In smallS
  dsimp only
  omega
theorem tmod_mod (n m : Int) (hm : 0 < m) : (n.tmod m < 0 → n.tmod m + m = n % m) ∧ (0 ≤ n.tmod m → n.tmod m = n % m) := by
  have h1 := Int.mul_tdiv_add_tmod n m
  have h2 := tmod_in n hm
  have e : n % m = n.tmod m % m := by
    conv => lhs; rw [← h1]
    rw [Int.add_comm, Int.add_mul_emod_self_left]
  rw [e]
  constructor
  · intro h
    rw [← Int.add_emod_right, Int.emod_eq_of_lt (by omega) (by omega)]
  · intro h
    rw [Int.emod_eq_of_lt h (by omega)]
theorem norm_bd {a b l : Int} (h1 : -l ≤ a) (h2 : a ≤ l) (h3 : -l ≤ b) (h4 : b ≤ l) : (0 ≤ a * a ∧ a * a ≤ l * l) ∧ (0 ≤ b * b ∧ b * b ≤ l * l) := by
  have p1 := bd_mul h1 h2 h1 h2
  have p2 := bd_mul h3 h4 h3 h4
  have q1 : 0 ≤ a * a := by rcases Int.le_total 0 a with h | h; exact Int.mul_nonneg h h; rw [← Int.neg_mul_neg]; exact Int.mul_nonneg (by omega) (by omega)
  have q2 : 0 ≤ b * b := by rcases Int.le_total 0 b with h | h; exact Int.mul_nonneg h h; rw [← Int.neg_mul_neg]; exact Int.mul_nonneg (by omega) (by omega)
  exact ⟨⟨q1, p1.2⟩, q2, p2.2⟩
end Go.Sub
namespace Go.Proofs.Ytkkjifgcjfbcaaa
open Go.RowKit Go.Sub

set_option maxHeartbeats 1000000 in
theorem snorm_any (a b : Int) (w : World) :
    Calls Try.prog 21 #[.agg #[.int .i64 a, .int .i64 b]] w fun e w' => e = .returned (.tuple #[.int .i64 (snormR ⟨a, b⟩).1, .int .i64 (snormR ⟨a, b⟩).2]) ∧ Q w w' := by
  by_cases h : wi2 268435456 a b = true
  · obtain ⟨l1, l2, l3, l4⟩ := (wi2_iff _ _ _).1 h
    have hR : snormR ⟨a, b⟩ = (a * a - 3 * b * b, 0) := by simp [snormR, h, Su.norm]
    rw [hR]
    clear hR
    obtain ⟨⟨p0, p1⟩, p2, p3⟩ := norm_bd l1 l2 l3 l4
    have e3 : 3 * b * b = 3 * (b * b) := Int.mul_assoc 3 b b
    have p8 : 0 ≤ 3 * b * b := by omega
    have p9 : 3 * b * b ≤ 216172782113783808 := by omega
    clear e3
    simp only [Int.reduceMul] at p1 p3
    go_enter Try.func21, Try.ntmps21
    go_wp2_with (go_at_call 61; refine (swithin2 _ a b 268435456 _ (by omega) (by omega) (by simp [go_sem]) (by simp [go_sem])).mono ?_; rintro e w' ⟨rfl, rfl⟩)
    go_ret2
    refine ⟨rfl, ?_⟩
    repeat' (first | exact Q.refl _ | refine Q.alloc ?_ _ | refine Q.jk ?_ _ | refine Q.drew ?_)
  · have h : wi2 268435456 a b = false := by simpa using h
    have hR : snormR ⟨a, b⟩ = (0, 1) := by simp [snormR, h]
    rw [hR]
    clear hR
    go_enter Try.func21, Try.ntmps21
    go_wp2_with (go_at_call 61; refine (swithin2 _ a b 268435456 _ (by omega) (by omega) (by simp [go_sem]) (by simp [go_sem])).mono ?_; rintro e w' ⟨rfl, rfl⟩)
    go_ret2
    refine ⟨rfl, ?_⟩
    repeat' (first | exact Q.refl _ | refine Q.alloc ?_ _ | refine Q.jk ?_ _ | refine Q.drew ?_)

set_option maxHeartbeats 1000000 in
theorem sconj_any (a b : Int) (w : World) :
    Calls Try.prog 26 #[.agg #[.int .i64 a, .int .i64 b]] w fun e w' => e = .returned (.tuple #[.agg #[.int .i64 (sconjR ⟨a, b⟩).v.a, .int .i64 (sconjR ⟨a, b⟩).v.b], .int .i64 (sconjR ⟨a, b⟩).e]) ∧ Q w w' := by
  by_cases h : wi2 1152921504606846976 a b = true
  · obtain ⟨l1, l2, l3, l4⟩ := (wi2_iff _ _ _).1 h
    have hR : sconjR ⟨a, b⟩ = ⟨⟨a, -b⟩, 0⟩ := by simp [sconjR, h, Su.conj]
    rw [hR]
    clear hR
    go_enter Try.func26, Try.ntmps26
    go_wp2_with (go_at_call 61; refine (swithin2 _ a b 1152921504606846976 _ (by omega) (by omega) (by simp [go_sem]) (by simp [go_sem])).mono ?_; rintro e w' ⟨rfl, rfl⟩)
    refine bodyPost_ret (v := .tuple #[.agg #[.int .i64 (R2.mk ⟨a, -b⟩ 0).v.a, .int .i64 (R2.mk ⟨a, -b⟩ 0).v.b], .int .i64 (R2.mk ⟨a, -b⟩ 0).e]) (by simp [results, Try.results26, go_sem]) rfl ⟨rfl, ?_⟩
    repeat' (first | exact Q.refl _ | refine Q.alloc ?_ _ | refine Q.jk ?_ _ | refine Q.drew ?_)
  · have h : wi2 1152921504606846976 a b = false := by simpa using h
    have hR : sconjR ⟨a, b⟩ = ⟨zeroS, 1⟩ := by simp [sconjR, h]
    rw [hR]
    clear hR
    go_enter Try.func26, Try.ntmps26
    go_wp2_with (go_at_call 61; refine (swithin2 _ a b 1152921504606846976 _ (by omega) (by omega) (by simp [go_sem]) (by simp [go_sem])).mono ?_; rintro e w' ⟨rfl, rfl⟩)
    refine bodyPost_ret (v := .tuple #[.agg #[.int .i64 (R2.mk zeroS 1).v.a, .int .i64 (R2.mk zeroS 1).v.b], .int .i64 (R2.mk zeroS 1).e]) (by simp [results, Try.results26, go_sem, zeroS]) rfl ⟨rfl, ?_⟩
    repeat' (first | exact Q.refl _ | refine Q.alloc ?_ _ | refine Q.jk ?_ _ | refine Q.drew ?_)

set_option maxHeartbeats 1000000 in
theorem lsmall_any (x : Su) (w : World) :
    Calls Try.prog 23 #[.agg #[.int .i64 x.a, .int .i64 x.b]] w fun e w' => e = .returned (.agg #[.int .i64 (smallS x).a, .int .i64 (smallS x).b]) ∧ Q w w' := by
  obtain ⟨a, b⟩ := x
  dsimp only
  go_enter Try.func23, Try.ntmps23
  go_wp2
  refine bodyPost_ret (v := .agg #[.int .i64 (a.tmod 1048576), .int .i64 (b.tmod 1048576)]) (by simp [results, Try.results23, go_sem]) rfl ⟨rfl, ?_⟩
  repeat' (first | exact Q.refl _ | refine Q.alloc ?_ _ | refine Q.jk ?_ _ | refine Q.drew ?_)
set_option maxHeartbeats 1000000 in
theorem lwithin_any (n m : Int) (w : World) (h0 : 0 < m) (h1 : m ≤ 1000000000000000000) :
    Calls Try.prog 53 #[.int .i64 n, .int .i64 m] w fun e w' => e = .returned (.int .i64 (n % m)) ∧ w = w' := by
  have hb := tmod_in n h0
  obtain ⟨hb1, hb2⟩ := hb
  obtain ⟨k1, k2⟩ := tmod_mod n m h0
  have K1 := Lib.hid k1
  have K2 := Lib.hid k2
  clear k1 k2
  by_cases hn : n.tmod m < 0
  · go_enter Try.func53, Try.ntmps53
    go_wp2
    go_ret
    exact ⟨by rw [← K1.out hn]; rfl, rfl⟩
  · go_enter Try.func53, Try.ntmps53
    go_wp2
    go_ret
    exact ⟨by rw [← K2.out (by omega)]; rfl, rfl⟩

set_option maxHeartbeats 1000000 in
theorem r2within_any (a b l : Int) (w : World) (h0 : 0 ≤ l) (h1 : l ≤ 4000000000000000000) :
    Calls Try.prog 63 #[.agg #[.int .i64 a, .int .i64 b], .int .i64 l] w fun e w' => e = .returned (.bool (wi2 l a b)) ∧ Q w w' := by
  go_enter Try.func63, Try.ntmps63
  go_wp2
  all_goals go_ret
  all_goals
    refine ⟨?_, (Q.refl _).alloc _⟩
    show Ending.returned (Value.bool _) = _
    refine congrArg (fun x => Ending.returned (Value.bool x)) ?_
    rw [Bool.eq_iff_iff, wi2_iff]
    simp [*]
    try omega

set_option maxHeartbeats 1000000 in
theorem r2result_any (a b : Int) (w : World) :
    Calls Try.prog 64 #[.agg #[.int .i64 a, .int .i64 b]] w fun e w' => e = .returned (.tuple #[.agg #[.int .i64 (limS ⟨a, b⟩).v.a, .int .i64 (limS ⟨a, b⟩).v.b], .int .i64 (limS ⟨a, b⟩).e]) ∧ Q w w' := by
  by_cases h : wi2 1152921504606846976 a b = true
  · go_enter Try.func64, Try.ntmps64
    go_wp2_with (go_at_call 63; refine (r2within_any _ _ 1152921504606846976 _ (by omega) (by omega)).mono ?_; rintro e w' ⟨rfl, kj, rfl⟩)
    refine bodyPost_ret (v := .tuple #[.agg #[.int .i64 a, .int .i64 b], .int .i64 0]) (by simp [results, Try.results64, go_sem]) rfl ⟨by simp [limS, h], ?_⟩
    repeat' (first | exact Q.refl _ | refine Q.alloc ?_ _ | refine Q.jk ?_ _ | refine Q.drew ?_)
  · have h : wi2 1152921504606846976 a b = false := by simpa using h
    go_enter Try.func64, Try.ntmps64
    go_wp2_with (go_at_call 63; refine (r2within_any _ _ 1152921504606846976 _ (by omega) (by omega)).mono ?_; rintro e w' ⟨rfl, kj, rfl⟩)
    refine bodyPost_ret (v := .tuple #[.agg #[.int .i64 0, .int .i64 0], .int .i64 2]) (by simp [results, Try.results64, go_sem]) rfl ⟨by simp [limS, h, zeroS], ?_⟩
    repeat' (first | exact Q.refl _ | refine Q.alloc ?_ _ | refine Q.jk ?_ _ | refine Q.drew ?_)

set_option maxHeartbeats 1000000 in
theorem r2norm_any (a b : Int) (w : World) :
    Calls Try.prog 22 #[.agg #[.int .i64 a, .int .i64 b]] w fun e w' => e = .returned (.tuple #[.int .i64 (snormR ⟨a, b⟩).1, .int .i64 (snormR ⟨a, b⟩).2]) ∧ Q w w' := by
  by_cases h : wi2 268435456 a b = true
  · obtain ⟨l1, l2, l3, l4⟩ := (wi2_iff _ _ _).1 h
    have hR : snormR ⟨a, b⟩ = (a * a - 3 * b * b, 0) := by simp [snormR, h, Su.norm]
    rw [hR]
    clear hR
    obtain ⟨⟨p0, p1⟩, p2, p3⟩ := norm_bd l1 l2 l3 l4
    have e3 : 3 * b * b = 3 * (b * b) := Int.mul_assoc 3 b b
    have p8 : 0 ≤ 3 * b * b := by omega
    have p9 : 3 * b * b ≤ 216172782113783808 := by omega
    clear e3
    simp only [Int.reduceMul] at p1 p3
    go_enter Try.func22, Try.ntmps22
    go_wp2_with (go_at_call 63; refine (r2within_any _ _ 268435456 _ (by omega) (by omega)).mono ?_; rintro e w' ⟨rfl, kj, rfl⟩)
    go_ret2
    refine ⟨rfl, ?_⟩
    repeat' (first | exact Q.refl _ | refine Q.alloc ?_ _ | refine Q.jk ?_ _ | refine Q.drew ?_)
  · have h : wi2 268435456 a b = false := by simpa using h
    have hR : snormR ⟨a, b⟩ = (0, 1) := by simp [snormR, h]
    rw [hR]
    clear hR
    go_enter Try.func22, Try.ntmps22
    go_wp2_with (go_at_call 63; refine (r2within_any _ _ 268435456 _ (by omega) (by omega)).mono ?_; rintro e w' ⟨rfl, kj, rfl⟩)
    go_ret2
    refine ⟨rfl, ?_⟩
    repeat' (first | exact Q.refl _ | refine Q.alloc ?_ _ | refine Q.jk ?_ _ | refine Q.drew ?_)

set_option maxHeartbeats 1000000 in
theorem r2conj_any (a b : Int) (w : World) :
    Calls Try.prog 32 #[.agg #[.int .i64 a, .int .i64 b]] w fun e w' => e = .returned (.tuple #[.agg #[.int .i64 (sconjR ⟨a, b⟩).v.a, .int .i64 (sconjR ⟨a, b⟩).v.b], .int .i64 (sconjR ⟨a, b⟩).e]) ∧ Q w w' := by
  by_cases h : wi2 1152921504606846976 a b = true
  · obtain ⟨l1, l2, l3, l4⟩ := (wi2_iff _ _ _).1 h
    have hR : sconjR ⟨a, b⟩ = ⟨⟨a, -b⟩, 0⟩ := by simp [sconjR, h, Su.conj]
    rw [hR]
    clear hR
    go_enter Try.func32, Try.ntmps32
    go_wp2_with (go_at_call 63; refine (r2within_any _ _ 1152921504606846976 _ (by omega) (by omega)).mono ?_; rintro e w' ⟨rfl, kj, rfl⟩)
    refine bodyPost_ret (v := .tuple #[.agg #[.int .i64 (R2.mk ⟨a, -b⟩ 0).v.a, .int .i64 (R2.mk ⟨a, -b⟩ 0).v.b], .int .i64 (R2.mk ⟨a, -b⟩ 0).e]) (by simp [results, Try.results32, go_sem]) rfl ⟨rfl, ?_⟩
    repeat' (first | exact Q.refl _ | refine Q.alloc ?_ _ | refine Q.jk ?_ _ | refine Q.drew ?_)
  · have h : wi2 1152921504606846976 a b = false := by simpa using h
    have hR : sconjR ⟨a, b⟩ = ⟨zeroS, 1⟩ := by simp [sconjR, h]
    rw [hR]
    clear hR
    go_enter Try.func32, Try.ntmps32
    go_wp2_with (go_at_call 63; refine (r2within_any _ _ 1152921504606846976 _ (by omega) (by omega)).mono ?_; rintro e w' ⟨rfl, kj, rfl⟩)
    refine bodyPost_ret (v := .tuple #[.agg #[.int .i64 (R2.mk zeroS 1).v.a, .int .i64 (R2.mk zeroS 1).v.b], .int .i64 (R2.mk zeroS 1).e]) (by simp [results, Try.results32, go_sem, zeroS]) rfl ⟨rfl, ?_⟩
    repeat' (first | exact Q.refl _ | refine Q.alloc ?_ _ | refine Q.jk ?_ _ | refine Q.drew ?_)

set_option maxHeartbeats 1000000 in
theorem r2mul_any (a b a' b' : Int) (w : World) :
    Calls Try.prog 20 #[.agg #[.int .i64 a, .int .i64 b], .agg #[.int .i64 a', .int .i64 b']] w fun e w' => e = .returned (.tuple #[.agg #[.int .i64 (smulR ⟨a, b⟩ ⟨a', b'⟩).v.a, .int .i64 (smulR ⟨a, b⟩ ⟨a', b'⟩).v.b], .int .i64 (smulR ⟨a, b⟩ ⟨a', b'⟩).e]) ∧ Q w w' := by
  by_cases h : wi4 268435456 a b a' b' = true
  · obtain ⟨l1, l2, l3, l4, m1, m2, m3, m4⟩ := (wi4_iff _ _ _ _ _).1 h
    have hR : smulR ⟨a, b⟩ ⟨a', b'⟩ = limS ⟨a * a' + 3 * b * b', a * b' + b * a'⟩ := by simp [smulR, h, Su.mul]
    rw [hR]
    clear hR
    have h1 : wi2 268435456 a b = true := (wi2_iff _ _ _).2 (by omega)
    have h2 : wi2 268435456 a' b' = true := (wi2_iff _ _ _).2 (by omega)
    obtain ⟨p0, p1⟩ := bd_mul l1 l2 m1 m2
    obtain ⟨p2, p3⟩ := bd_mul l3 l4 m3 m4
    obtain ⟨p4, p5⟩ := bd_mul l1 l2 m3 m4
    obtain ⟨p6, p7⟩ := bd_mul l3 l4 m1 m2
    have e3 : 3 * b * b' = 3 * (b * b') := Int.mul_assoc 3 b b'
    have p8 : -216172782113783808 ≤ 3 * b * b' := by omega
    have p9 : 3 * b * b' ≤ 216172782113783808 := by omega
    clear e3
    simp only [Int.reduceMul, Int.reduceNeg] at p0 p1 p2 p3 p4 p5 p6 p7
    go_enter Try.func20, Try.ntmps20
    go_wp2_with (first | (go_at_call 63; refine (r2within_any _ _ 268435456 _ (by omega) (by omega)).mono ?_; rintro e w' ⟨rfl, kj, rfl⟩) | (go_at_call 64; refine (r2result_any _ _ _).mono ?_; rintro e w' ⟨rfl, kj, rfl⟩))
    refine bodyPost_ret (v := .tuple #[.agg #[.int .i64 (limS ⟨a * a' + 3 * b * b', a * b' + b * a'⟩).v.a, .int .i64 (limS ⟨a * a' + 3 * b * b', a * b' + b * a'⟩).v.b], .int .i64 (limS ⟨a * a' + 3 * b * b', a * b' + b * a'⟩).e]) (by simp [results, Try.results20, go_sem]) rfl ⟨rfl, ?_⟩
    repeat' (first | exact Q.refl _ | refine Q.alloc ?_ _ | refine Q.jk ?_ _ | refine Q.drew ?_)
  · have hR : smulR ⟨a, b⟩ ⟨a', b'⟩ = ⟨zeroS, 1⟩ := by simp [smulR, h]
    rw [hR]
    clear hR
    by_cases h1 : wi2 268435456 a b = true
    · have h2 : wi2 268435456 a' b' = false := by
        cases e : wi2 268435456 a' b'
        · rfl
        · have k1 := (wi2_iff _ _ _).1 h1
          have k2 := (wi2_iff _ _ _).1 e
          exact absurd ((wi4_iff _ _ _ _ _).2 (by omega)) h
      clear h
      go_enter Try.func20, Try.ntmps20
      go_wp2_with (go_at_call 63; refine (r2within_any _ _ 268435456 _ (by omega) (by omega)).mono ?_; rintro e w' ⟨rfl, kj, rfl⟩)
      refine bodyPost_ret (v := .tuple #[.agg #[.int .i64 (R2.mk zeroS 1).v.a, .int .i64 (R2.mk zeroS 1).v.b], .int .i64 (R2.mk zeroS 1).e]) (by simp [results, Try.results20, go_sem, zeroS]) rfl ⟨rfl, ?_⟩
      repeat' (first | exact Q.refl _ | refine Q.alloc ?_ _ | refine Q.jk ?_ _ | refine Q.drew ?_)
    · have h1 : wi2 268435456 a b = false := by simpa using h1
      clear h
      go_enter Try.func20, Try.ntmps20
      go_wp2_with (go_at_call 63; refine (r2within_any _ _ 268435456 _ (by omega) (by omega)).mono ?_; rintro e w' ⟨rfl, kj, rfl⟩)
      refine bodyPost_ret (v := .tuple #[.agg #[.int .i64 (R2.mk zeroS 1).v.a, .int .i64 (R2.mk zeroS 1).v.b], .int .i64 (R2.mk zeroS 1).e]) (by simp [results, Try.results20, go_sem, zeroS]) rfl ⟨rfl, ?_⟩
      repeat' (first | exact Q.refl _ | refine Q.alloc ?_ _ | refine Q.jk ?_ _ | refine Q.drew ?_)

set_option maxHeartbeats 1000000 in
theorem r2add_any (a b a' b' : Int) (w : World) :
    Calls Try.prog 27 #[.agg #[.int .i64 a, .int .i64 b], .agg #[.int .i64 a', .int .i64 b']] w fun e w' => e = .returned (.tuple #[.agg #[.int .i64 (saddR ⟨a, b⟩ ⟨a', b'⟩).v.a, .int .i64 (saddR ⟨a, b⟩ ⟨a', b'⟩).v.b], .int .i64 (saddR ⟨a, b⟩ ⟨a', b'⟩).e]) ∧ Q w w' := by
  by_cases h : wi4 1152921504606846976 a b a' b' = true
  · obtain ⟨l1, l2, l3, l4, m1, m2, m3, m4⟩ := (wi4_iff _ _ _ _ _).1 h
    have hR : saddR ⟨a, b⟩ ⟨a', b'⟩ = limS ⟨a + a', b + b'⟩ := by simp [saddR, h, Su.add]
    rw [hR]
    clear hR
    have h1 : wi2 1152921504606846976 a b = true := (wi2_iff _ _ _).2 (by omega)
    have h2 : wi2 1152921504606846976 a' b' = true := (wi2_iff _ _ _).2 (by omega)
    go_enter Try.func27, Try.ntmps27
    go_wp2_with (first | (go_at_call 63; refine (r2within_any _ _ 1152921504606846976 _ (by omega) (by omega)).mono ?_; rintro e w' ⟨rfl, kj, rfl⟩) | (go_at_call 64; refine (r2result_any _ _ _).mono ?_; rintro e w' ⟨rfl, kj, rfl⟩))
    refine bodyPost_ret (v := .tuple #[.agg #[.int .i64 (limS ⟨a + a', b + b'⟩).v.a, .int .i64 (limS ⟨a + a', b + b'⟩).v.b], .int .i64 (limS ⟨a + a', b + b'⟩).e]) (by simp [results, Try.results27, go_sem]) rfl ⟨rfl, ?_⟩
    repeat' (first | exact Q.refl _ | refine Q.alloc ?_ _ | refine Q.jk ?_ _ | refine Q.drew ?_)
  · have hR : saddR ⟨a, b⟩ ⟨a', b'⟩ = ⟨zeroS, 1⟩ := by simp [saddR, h]
    rw [hR]
    clear hR
    by_cases h1 : wi2 1152921504606846976 a b = true
    · have h2 : wi2 1152921504606846976 a' b' = false := by
        cases e : wi2 1152921504606846976 a' b'
        · rfl
        · have k1 := (wi2_iff _ _ _).1 h1
          have k2 := (wi2_iff _ _ _).1 e
          exact absurd ((wi4_iff _ _ _ _ _).2 (by omega)) h
      clear h
      go_enter Try.func27, Try.ntmps27
      go_wp2_with (go_at_call 63; refine (r2within_any _ _ 1152921504606846976 _ (by omega) (by omega)).mono ?_; rintro e w' ⟨rfl, kj, rfl⟩)
      refine bodyPost_ret (v := .tuple #[.agg #[.int .i64 (R2.mk zeroS 1).v.a, .int .i64 (R2.mk zeroS 1).v.b], .int .i64 (R2.mk zeroS 1).e]) (by simp [results, Try.results27, go_sem, zeroS]) rfl ⟨rfl, ?_⟩
      repeat' (first | exact Q.refl _ | refine Q.alloc ?_ _ | refine Q.jk ?_ _ | refine Q.drew ?_)
    · have h1 : wi2 1152921504606846976 a b = false := by simpa using h1
      clear h
      go_enter Try.func27, Try.ntmps27
      go_wp2_with (go_at_call 63; refine (r2within_any _ _ 1152921504606846976 _ (by omega) (by omega)).mono ?_; rintro e w' ⟨rfl, kj, rfl⟩)
      refine bodyPost_ret (v := .tuple #[.agg #[.int .i64 (R2.mk zeroS 1).v.a, .int .i64 (R2.mk zeroS 1).v.b], .int .i64 (R2.mk zeroS 1).e]) (by simp [results, Try.results27, go_sem, zeroS]) rfl ⟨rfl, ?_⟩
      repeat' (first | exact Q.refl _ | refine Q.alloc ?_ _ | refine Q.jk ?_ _ | refine Q.drew ?_)

set_option maxHeartbeats 1000000 in
theorem r2sub_any (a b a' b' : Int) (w : World) :
    Calls Try.prog 29 #[.agg #[.int .i64 a, .int .i64 b], .agg #[.int .i64 a', .int .i64 b']] w fun e w' => e = .returned (.tuple #[.agg #[.int .i64 (ssubR ⟨a, b⟩ ⟨a', b'⟩).v.a, .int .i64 (ssubR ⟨a, b⟩ ⟨a', b'⟩).v.b], .int .i64 (ssubR ⟨a, b⟩ ⟨a', b'⟩).e]) ∧ Q w w' := by
  by_cases h : wi4 1152921504606846976 a b a' b' = true
  · obtain ⟨l1, l2, l3, l4, m1, m2, m3, m4⟩ := (wi4_iff _ _ _ _ _).1 h
    have hR : ssubR ⟨a, b⟩ ⟨a', b'⟩ = limS ⟨a - a', b - b'⟩ := by simp [ssubR, h, Su.sub]
    rw [hR]
    clear hR
    have h1 : wi2 1152921504606846976 a b = true := (wi2_iff _ _ _).2 (by omega)
    have h2 : wi2 1152921504606846976 a' b' = true := (wi2_iff _ _ _).2 (by omega)
    go_enter Try.func29, Try.ntmps29
    go_wp2_with (first | (go_at_call 63; refine (r2within_any _ _ 1152921504606846976 _ (by omega) (by omega)).mono ?_; rintro e w' ⟨rfl, kj, rfl⟩) | (go_at_call 64; refine (r2result_any _ _ _).mono ?_; rintro e w' ⟨rfl, kj, rfl⟩))
    refine bodyPost_ret (v := .tuple #[.agg #[.int .i64 (limS ⟨a - a', b - b'⟩).v.a, .int .i64 (limS ⟨a - a', b - b'⟩).v.b], .int .i64 (limS ⟨a - a', b - b'⟩).e]) (by simp [results, Try.results29, go_sem]) rfl ⟨rfl, ?_⟩
    repeat' (first | exact Q.refl _ | refine Q.alloc ?_ _ | refine Q.jk ?_ _ | refine Q.drew ?_)
  · have hR : ssubR ⟨a, b⟩ ⟨a', b'⟩ = ⟨zeroS, 1⟩ := by simp [ssubR, h]
    rw [hR]
    clear hR
    by_cases h1 : wi2 1152921504606846976 a b = true
    · have h2 : wi2 1152921504606846976 a' b' = false := by
        cases e : wi2 1152921504606846976 a' b'
        · rfl
        · have k1 := (wi2_iff _ _ _).1 h1
          have k2 := (wi2_iff _ _ _).1 e
          exact absurd ((wi4_iff _ _ _ _ _).2 (by omega)) h
      clear h
      go_enter Try.func29, Try.ntmps29
      go_wp2_with (go_at_call 63; refine (r2within_any _ _ 1152921504606846976 _ (by omega) (by omega)).mono ?_; rintro e w' ⟨rfl, kj, rfl⟩)
      refine bodyPost_ret (v := .tuple #[.agg #[.int .i64 (R2.mk zeroS 1).v.a, .int .i64 (R2.mk zeroS 1).v.b], .int .i64 (R2.mk zeroS 1).e]) (by simp [results, Try.results29, go_sem, zeroS]) rfl ⟨rfl, ?_⟩
      repeat' (first | exact Q.refl _ | refine Q.alloc ?_ _ | refine Q.jk ?_ _ | refine Q.drew ?_)
    · have h1 : wi2 1152921504606846976 a b = false := by simpa using h1
      clear h
      go_enter Try.func29, Try.ntmps29
      go_wp2_with (go_at_call 63; refine (r2within_any _ _ 1152921504606846976 _ (by omega) (by omega)).mono ?_; rintro e w' ⟨rfl, kj, rfl⟩)
      refine bodyPost_ret (v := .tuple #[.agg #[.int .i64 (R2.mk zeroS 1).v.a, .int .i64 (R2.mk zeroS 1).v.b], .int .i64 (R2.mk zeroS 1).e]) (by simp [results, Try.results29, go_sem, zeroS]) rfl ⟨rfl, ?_⟩
      repeat' (first | exact Q.refl _ | refine Q.alloc ?_ _ | refine Q.jk ?_ _ | refine Q.drew ?_)

set_option maxHeartbeats 1000000 in
theorem ssub_any (a b a' b' : Int) (w : World) :
    Calls Try.prog 28 #[.agg #[.int .i64 a, .int .i64 b], .agg #[.int .i64 a', .int .i64 b']] w fun e w' => e = .returned (.tuple #[.agg #[.int .i64 (ssubR ⟨a, b⟩ ⟨a', b'⟩).v.a, .int .i64 (ssubR ⟨a, b⟩ ⟨a', b'⟩).v.b], .int .i64 (ssubR ⟨a, b⟩ ⟨a', b'⟩).e]) ∧ Q w w' := by
  by_cases h : wi4 1152921504606846976 a b a' b' = true
  · obtain ⟨l1, l2, l3, l4, m1, m2, m3, m4⟩ := (wi4_iff _ _ _ _ _).1 h
    have hR : ssubR ⟨a, b⟩ ⟨a', b'⟩ = limS ⟨a - a', b - b'⟩ := by simp [ssubR, h, Su.sub]
    rw [hR]
    clear hR
    have h1 : wi2 1152921504606846976 a b = true := (wi2_iff _ _ _).2 (by omega)
    have h2 : wi2 1152921504606846976 a' b' = true := (wi2_iff _ _ _).2 (by omega)
    go_enter Try.func28, Try.ntmps28
    go_wp2_with (first | (go_at_call 61; refine (swithin4 _ a b a' b' 1152921504606846976 _ (by omega) (by omega) (by simp [go_sem]) (by simp [go_sem]) (by simp [go_sem]) (by simp [go_sem])).mono ?_; rintro e w' ⟨rfl, rfl⟩) | (go_at_call 62; refine (slimited_any _ _ _).mono ?_; rintro e w' ⟨rfl, kj, rfl⟩))
    refine bodyPost_ret (v := .tuple #[.agg #[.int .i64 (limS ⟨a - a', b - b'⟩).v.a, .int .i64 (limS ⟨a - a', b - b'⟩).v.b], .int .i64 (limS ⟨a - a', b - b'⟩).e]) (by simp [results, Try.results28, go_sem]) rfl ⟨rfl, ?_⟩
    repeat' (first | exact Q.refl _ | refine Q.alloc ?_ _ | refine Q.jk ?_ _ | refine Q.drew ?_)
  · have hR : ssubR ⟨a, b⟩ ⟨a', b'⟩ = ⟨zeroS, 1⟩ := by simp [ssubR, h]
    rw [hR]
    clear hR
    have h : wi4 1152921504606846976 a b a' b' = false := by simpa using h
    go_enter Try.func28, Try.ntmps28
    go_wp2_with (go_at_call 61; refine (swithin4 _ a b a' b' 1152921504606846976 _ (by omega) (by omega) (by simp [go_sem]) (by simp [go_sem]) (by simp [go_sem]) (by simp [go_sem])).mono ?_; rintro e w' ⟨rfl, rfl⟩)
    refine bodyPost_ret (v := .tuple #[.agg #[.int .i64 (R2.mk zeroS 1).v.a, .int .i64 (R2.mk zeroS 1).v.b], .int .i64 (R2.mk zeroS 1).e]) (by simp [results, Try.results28, go_sem, zeroS]) rfl ⟨rfl, ?_⟩
    repeat' (first | exact Q.refl _ | refine Q.alloc ?_ _ | refine Q.jk ?_ _ | refine Q.drew ?_)

end Go.Proofs.Ytkkjifgcjfbcaaa
