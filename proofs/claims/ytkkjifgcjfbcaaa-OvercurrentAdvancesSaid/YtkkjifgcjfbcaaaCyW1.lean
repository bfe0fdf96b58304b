
/- What the functions of package cyclo that the sums and products are built on return: broken, within, limited, dozen, minus. -/
import Derived.Test.YtkkjifgcjfbcaaaRows
import Derived.Test.YtkkjifgcjfbcaaaJk
import Derived.Test.YtkkjifgcjfbcaaaCyPlain
namespace Go.Proofs.Ytkkjifgcjfbcaaa
open Go.RowKit Go.Sub
theorem wrj {id : Nat} {R : Exit → Act → World → Prop} {a : Act} {w : World} {l : List Oper} (hB : Region.lexB .any l.toArray = true)
  (h : wpQuiet Try.prog l.toArray (fun w' => ∃ k, w' = w.jk k) (fun a' => ∀ w', (∃ k, w' = w.jk k) → R .normal a' w') l a) : (Code.region id l.toArray true).wp Try.prog R a w := wp_region_jk (by kernel_rfl) hB h

set_option maxHeartbeats 400000 in
theorem broken_any (l n : Int) (w : World) (h0 : 0 ≤ l) (h1 : l ≤ 1000000000000000000) :
    Calls Try.prog 80 #[.int .i64 l, .int .i64 n] w fun e w' => e = .returned (.bool (brkB l n)) ∧ w = w' := by
  by_cases h : n < -l
  · go_enter Try.func80, Try.ntmps80
    go_wp2
    go_ret
    simp [brkB, h]
  · by_cases h2 : l < n
    all_goals
      go_enter Try.func80, Try.ntmps80
      go_wp2
      go_ret
      simp [brkB, h, h2]

set_option maxHeartbeats 400000 in
theorem within_any (a b c d l : Int) (w : World) (h0 : 0 ≤ l) (h1 : l ≤ 1000000000000000000) :
    Calls Try.prog 79 #[.agg #[.int .i64 a, .int .i64 b, .int .i64 c, .int .i64 d], .int .i64 l] w fun e w' => e = .returned (.bool (wiB ⟨a, b, c, d⟩ l)) ∧ Q w w' := by
  go_enter Try.func79, Try.ntmps79
  go_wp2
  refine wp_loop_rounds 5 ?_
  repeat any_goals (rw [rounds_succ]; go_wp2_with (go_at_call 80; refine (broken_any _ _ _ h0 h1).mono ?_; rintro e w' ⟨rfl, rfl⟩))
  all_goals go_ret
  all_goals (refine ⟨?_, (Q.refl _).alloc _⟩; simp [wiB, *]; done)

set_option maxHeartbeats 400000 in
theorem limited_any (a b c d : Int) (w : World) :
    Calls Try.prog 81 #[.agg #[.int .i64 a, .int .i64 b, .int .i64 c, .int .i64 d]] w fun e w' => e = .returned (.tuple #[.agg #[.int .i64 (limR ⟨a, b, c, d⟩).v.a, .int .i64 (limR ⟨a, b, c, d⟩).v.b, .int .i64 (limR ⟨a, b, c, d⟩).v.c, .int .i64 (limR ⟨a, b, c, d⟩).v.d], .int .i64 (limR ⟨a, b, c, d⟩).e]) ∧ Q w w' := by
  by_cases h : wiB ⟨a, b, c, d⟩ 576460752303423488 = true
  · go_enter Try.func81, Try.ntmps81
    go_wp2_with (go_at_call 79; refine (within_any _ _ _ _ _ _ (by omega) (by omega)).mono ?_; rintro e w' ⟨rfl, k, rfl⟩)
    refine bodyPost_ret (v := .tuple #[.agg #[.int .i64 a, .int .i64 b, .int .i64 c, .int .i64 d], .int .i64 0]) (by simp [results, Try.results81, go_sem]) rfl ⟨by simp [limR, h], ?_⟩
    repeat' (first | exact Q.refl _ | refine Q.alloc ?_ _ | refine Q.jk ?_ _ | refine Q.drew ?_)
  · have h : wiB ⟨a, b, c, d⟩ 576460752303423488 = false := by simpa using h
    go_enter Try.func81, Try.ntmps81
    go_wp2_with (go_at_call 79; refine (within_any _ _ _ _ _ _ (by omega) (by omega)).mono ?_; rintro e w' ⟨rfl, k, rfl⟩)
    refine bodyPost_ret (v := .tuple #[.agg #[.int .i64 0, .int .i64 0, .int .i64 0, .int .i64 0], .int .i64 2]) (by simp [results, Try.results81, go_sem]) rfl ⟨by simp [limR, h, zeroC], ?_⟩
    repeat' (first | exact Q.refl _ | refine Q.alloc ?_ _ | refine Q.jk ?_ _ | refine Q.drew ?_)

set_option maxHeartbeats 400000 in
theorem dozen_any (k : Int) (w : World) :
    Calls Try.prog 82 #[.int .i64 k] w fun e w' => e = .returned (.int .i64 (k % 12)) ∧ w = w' := by
  have e1 : k.tmod 12 = k % 12 ∨ k.tmod 12 = k % 12 - 12 := by
    rcases Int.le_total 0 k with h | h
    · left; exact Int.tmod_eq_emod_of_nonneg h
    · have := Int.tmod_eq_emod (a := k) (b := 12); split at this <;> omega
  have e2 : 0 ≤ k % 12 := by omega
  have e3 : k % 12 < 12 := by omega
  by_cases h : k.tmod 12 < 0
  · have h3 : k.tmod 12 + 12 = k % 12 := by omega
    have h4 : -12 ≤ k.tmod 12 := by omega
    have H3 := Lib.hid h3
    clear e1 e2 e3 h3
    go_enter Try.func82, Try.ntmps82
    go_wp2
    go_ret
    exact ⟨by rw [← H3.out]; rfl, rfl⟩
  · have h3 : k.tmod 12 = k % 12 := by omega
    have H3 := Lib.hid h3
    clear e1 e2 e3 h3
    go_enter Try.func82, Try.ntmps82
    go_wp2
    go_ret
    exact ⟨by rw [← H3.out]; rfl, rfl⟩

set_option maxHeartbeats 400000 in
theorem minus_any (a b c d : Int) (w : World) (h1 : -9223372036854775807 ≤ a) (h2 : a ≤ 9223372036854775807) (h3 : -9223372036854775807 ≤ b) (h4 : b ≤ 9223372036854775807)
    (h5 : -9223372036854775807 ≤ c) (h6 : c ≤ 9223372036854775807) (h7 : -9223372036854775807 ≤ d) (h8 : d ≤ 9223372036854775807) :
    Calls Try.prog 83 #[.agg #[.int .i64 a, .int .i64 b, .int .i64 c, .int .i64 d]] w fun e w' => e = .returned (.agg #[.int .i64 (-a), .int .i64 (-b), .int .i64 (-c), .int .i64 (-d)]) ∧ Q w w' := by
  go_enter Try.func83, Try.ntmps83
  go_wp2
  go_rounds 5
  refine bodyPost_ret (v := .agg #[.int .i64 (-a), .int .i64 (-b), .int .i64 (-c), .int .i64 (-d)]) (by simp [results, Try.results83, go_sem]) rfl ⟨rfl, ?_⟩
  repeat' (first | exact Q.refl _ | refine Q.alloc ?_ _ | refine Q.jk ?_ _ | refine Q.drew ?_)
end Go.Proofs.Ytkkjifgcjfbcaaa
