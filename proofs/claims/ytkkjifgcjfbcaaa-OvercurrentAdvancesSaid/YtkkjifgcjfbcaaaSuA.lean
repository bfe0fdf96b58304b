
/- What within, limited, Add and Mul of package surd return. -/
import Derived.Test.YtkkjifgcjfbcaaaRows
import Derived.Test.YtkkjifgcjfbcaaaJk
import Derived.Test.YtkkjifgcjfbcaaaSuPlain
namespace Go.Proofs.Ytkkjifgcjfbcaaa
open Go.RowKit Go.Sub

set_option maxHeartbeats 1000000 in
theorem swithin4 (bk : Nat) (a b c d l : Int) (w : World) (h0 : 0 ≤ l) (h1 : l ≤ 4000000000000000000) (c0 : w.cell? ⟨bk, 0, none⟩ = some (.int .i64 a)) (c1 : w.cell? ⟨bk, 1, none⟩ = some (.int .i64 b)) (c2 : w.cell? ⟨bk, 2, none⟩ = some (.int .i64 c)) (c3 : w.cell? ⟨bk, 3, none⟩ = some (.int .i64 d)) :
    Calls Try.prog 61 #[.int .i64 l, .slice (some ⟨bk, 0, none⟩) 4 4] w fun e w' => e = .returned (.bool (wi4 l a b c d)) ∧ w = w' := by
  go_enter Try.func61, Try.ntmps61
  go_wp2
  refine wp_loop_rounds 5 ?_
  repeat any_goals (rw [rounds_succ]; go_wp2)
  all_goals go_ret
  all_goals (refine ⟨?_, rfl⟩; simp [wi4, brkB, *] <;> omega)

set_option maxHeartbeats 1000000 in
theorem swithin2 (bk : Nat) (a b l : Int) (w : World) (h0 : 0 ≤ l) (h1 : l ≤ 4000000000000000000) (c0 : w.cell? ⟨bk, 0, none⟩ = some (.int .i64 a)) (c1 : w.cell? ⟨bk, 1, none⟩ = some (.int .i64 b)) :
    Calls Try.prog 61 #[.int .i64 l, .slice (some ⟨bk, 0, none⟩) 2 2] w fun e w' => e = .returned (.bool (wi2 l a b)) ∧ w = w' := by
  go_enter Try.func61, Try.ntmps61
  go_wp2
  refine wp_loop_rounds 3 ?_
  repeat any_goals (rw [rounds_succ]; go_wp2)
  all_goals go_ret
  all_goals (refine ⟨?_, rfl⟩; simp [wi2, brkB, *] <;> omega)

set_option maxHeartbeats 1000000 in
theorem slimited_any (a b : Int) (w : World) :
    Calls Try.prog 62 #[.agg #[.int .i64 a, .int .i64 b]] w fun e w' => e = .returned (.tuple #[.agg #[.int .i64 (limS ⟨a, b⟩).v.a, .int .i64 (limS ⟨a, b⟩).v.b], .int .i64 (limS ⟨a, b⟩).e]) ∧ Q w w' := by
  by_cases h : wi2 1152921504606846976 a b = true
  · go_enter Try.func62, Try.ntmps62
    go_wp2_with (go_at_call 61; refine (swithin2 _ a b 1152921504606846976 _ (by omega) (by omega) (by simp [go_sem]) (by simp [go_sem])).mono ?_; rintro e w' ⟨rfl, rfl⟩)
    refine bodyPost_ret (v := .tuple #[.agg #[.int .i64 a, .int .i64 b], .int .i64 0]) (by simp [results, Try.results62, go_sem]) rfl ⟨by simp [limS, h], ?_⟩
    repeat' (first | exact Q.refl _ | refine Q.alloc ?_ _ | refine Q.jk ?_ _ | refine Q.drew ?_)
  · have h : wi2 1152921504606846976 a b = false := by simpa using h
    go_enter Try.func62, Try.ntmps62
    go_wp2_with (go_at_call 61; refine (swithin2 _ a b 1152921504606846976 _ (by omega) (by omega) (by simp [go_sem]) (by simp [go_sem])).mono ?_; rintro e w' ⟨rfl, rfl⟩)
    refine bodyPost_ret (v := .tuple #[.agg #[.int .i64 0, .int .i64 0], .int .i64 2]) (by simp [results, Try.results62, go_sem]) rfl ⟨by simp [limS, h, zeroS], ?_⟩
    repeat' (first | exact Q.refl _ | refine Q.alloc ?_ _ | refine Q.jk ?_ _ | refine Q.drew ?_)

set_option maxHeartbeats 1000000 in
theorem sadd_any (a b a' b' : Int) (w : World) :
    Calls Try.prog 25 #[.agg #[.int .i64 a, .int .i64 b], .agg #[.int .i64 a', .int .i64 b']] w fun e w' => e = .returned (.tuple #[.agg #[.int .i64 (saddR ⟨a, b⟩ ⟨a', b'⟩).v.a, .int .i64 (saddR ⟨a, b⟩ ⟨a', b'⟩).v.b], .int .i64 (saddR ⟨a, b⟩ ⟨a', b'⟩).e]) ∧ Q w w' := by
  by_cases h : wi4 1152921504606846976 a b a' b' = true
  · obtain ⟨l1, l2, l3, l4, m1, m2, m3, m4⟩ := (wi4_iff _ _ _ _ _).1 h
    have hR : saddR ⟨a, b⟩ ⟨a', b'⟩ = limS ⟨a + a', b + b'⟩ := by simp [saddR, h, Su.add]
    rw [hR]
    clear hR
    go_enter Try.func25, Try.ntmps25
    go_wp2_with (first | (go_at_call 61; refine (swithin4 _ a b a' b' 1152921504606846976 _ (by omega) (by omega) (by simp [go_sem]) (by simp [go_sem]) (by simp [go_sem]) (by simp [go_sem])).mono ?_; rintro e w' ⟨rfl, rfl⟩) | (go_at_call 62; refine (slimited_any _ _ _).mono ?_; rintro e w' ⟨rfl, kj, rfl⟩))
    refine bodyPost_ret (v := .tuple #[.agg #[.int .i64 (limS ⟨a + a', b + b'⟩).v.a, .int .i64 (limS ⟨a + a', b + b'⟩).v.b], .int .i64 (limS ⟨a + a', b + b'⟩).e]) (by simp [results, Try.results25, go_sem]) rfl ⟨rfl, ?_⟩
    repeat' (first | exact Q.refl _ | refine Q.alloc ?_ _ | refine Q.jk ?_ _ | refine Q.drew ?_)
  · have h : wi4 1152921504606846976 a b a' b' = false := by simpa using h
    go_enter Try.func25, Try.ntmps25
    go_wp2_with (go_at_call 61; refine (swithin4 _ a b a' b' 1152921504606846976 _ (by omega) (by omega) (by simp [go_sem]) (by simp [go_sem]) (by simp [go_sem]) (by simp [go_sem])).mono ?_; rintro e w' ⟨rfl, rfl⟩)
    refine bodyPost_ret (v := .tuple #[.agg #[.int .i64 (R2.mk zeroS 1).v.a, .int .i64 (R2.mk zeroS 1).v.b], .int .i64 (R2.mk zeroS 1).e]) (by simp [results, Try.results25, go_sem, zeroS]) rfl ⟨by simp [saddR, h], ?_⟩
    repeat' (first | exact Q.refl _ | refine Q.alloc ?_ _ | refine Q.jk ?_ _ | refine Q.drew ?_)

set_option maxHeartbeats 1000000 in
theorem smul_any (a b a' b' : Int) (w : World) :
    Calls Try.prog 19 #[.agg #[.int .i64 a, .int .i64 b], .agg #[.int .i64 a', .int .i64 b']] w fun e w' => e = .returned (.tuple #[.agg #[.int .i64 (smulR ⟨a, b⟩ ⟨a', b'⟩).v.a, .int .i64 (smulR ⟨a, b⟩ ⟨a', b'⟩).v.b], .int .i64 (smulR ⟨a, b⟩ ⟨a', b'⟩).e]) ∧ Q w w' := by
  by_cases h : wi4 268435456 a b a' b' = true
  · obtain ⟨l1, l2, l3, l4, m1, m2, m3, m4⟩ := (wi4_iff _ _ _ _ _).1 h
    have hR : smulR ⟨a, b⟩ ⟨a', b'⟩ = limS ⟨a * a' + 3 * b * b', a * b' + b * a'⟩ := by simp [smulR, h, Su.mul]
    rw [hR]
    clear hR
    obtain ⟨p0, p1⟩ := bd_mul l1 l2 m1 m2
    obtain ⟨p2, p3⟩ := bd_mul l3 l4 m3 m4
    obtain ⟨p4, p5⟩ := bd_mul l1 l2 m3 m4
    obtain ⟨p6, p7⟩ := bd_mul l3 l4 m1 m2
    have e3 : 3 * b * b' = 3 * (b * b') := Int.mul_assoc 3 b b'
    have p8 : -216172782113783808 ≤ 3 * b * b' := by omega
    have p9 : 3 * b * b' ≤ 216172782113783808 := by omega
    clear e3
    simp only [Int.reduceMul, Int.reduceNeg] at p0 p1 p2 p3 p4 p5 p6 p7
    go_enter Try.func19, Try.ntmps19
    go_wp2_with (first | (go_at_call 61; refine (swithin4 _ a b a' b' 268435456 _ (by omega) (by omega) (by simp [go_sem]) (by simp [go_sem]) (by simp [go_sem]) (by simp [go_sem])).mono ?_; rintro e w' ⟨rfl, rfl⟩) | (go_at_call 62; refine (slimited_any _ _ _).mono ?_; rintro e w' ⟨rfl, kj, rfl⟩))
    refine bodyPost_ret (v := .tuple #[.agg #[.int .i64 (limS ⟨a * a' + 3 * b * b', a * b' + b * a'⟩).v.a, .int .i64 (limS ⟨a * a' + 3 * b * b', a * b' + b * a'⟩).v.b], .int .i64 (limS ⟨a * a' + 3 * b * b', a * b' + b * a'⟩).e]) (by simp [results, Try.results19, go_sem]) rfl ⟨rfl, ?_⟩
    repeat' (first | exact Q.refl _ | refine Q.alloc ?_ _ | refine Q.jk ?_ _ | refine Q.drew ?_)
  · have h : wi4 268435456 a b a' b' = false := by simpa using h
    go_enter Try.func19, Try.ntmps19
    go_wp2_with (go_at_call 61; refine (swithin4 _ a b a' b' 268435456 _ (by omega) (by omega) (by simp [go_sem]) (by simp [go_sem]) (by simp [go_sem]) (by simp [go_sem])).mono ?_; rintro e w' ⟨rfl, rfl⟩)
    refine bodyPost_ret (v := .tuple #[.agg #[.int .i64 (R2.mk zeroS 1).v.a, .int .i64 (R2.mk zeroS 1).v.b], .int .i64 (R2.mk zeroS 1).e]) (by simp [results, Try.results19, go_sem, zeroS]) rfl ⟨by simp [smulR, h], ?_⟩
    repeat' (first | exact Q.refl _ | refine Q.alloc ?_ _ | refine Q.jk ?_ _ | refine Q.drew ?_)

end Go.Proofs.Ytkkjifgcjfbcaaa
