
/- Laws of the differential element: plain arithmetic. -/
import Derived.Test.YtlhapbajllpcnaaDfD
namespace Go.Sub
theorem norm_nn (x : Cy) : 0 ≤ sgnS x.norm := by
  by_cases h : x = ⟨0, 0, 0, 0⟩
  · rw [sgn_norm0 x h]; decide
  · rw [sgn_norm x h]; decide
theorem resW_nn (l : List Cur) : 0 ≤ sgnS (resW l) := by
  induction l with
  | nil => decide
  | cons c l ih => exact sgnS_add (norm_nn _) ih
theorem smul_nn {x : Su} {k : Int} (hk : 0 ≤ k) (hx : 0 ≤ sgnS x) : 0 ≤ sgnS ⟨k * x.a, k * x.b⟩ := (nn_iff _).2 (nn_smul hk ((nn_iff x).1 hx))
theorem sq_mono {a b : Int} (h0 : 0 ≤ a) (h : a ≤ b) : a * a ≤ b * b := Int.mul_le_mul h h h0 (by omega)
/-- A smaller restraint, and a smaller slope. -/
theorem vers_mono {N R R' : Su} {d n n' : Int} (hn : 0 ≤ n) (hn' : n ≤ n') (hR : 0 ≤ sgnS R) (hd : 0 ≤ sgnS (R'.sub R)) (h : 0 < versS N (d * d) R' (n' * n')) : 0 < versS N (d * d) R (n * n) := by
  have hsq := sq_mono hn hn'
  have h1 := smul_nn (k := n' * n' - n * n) (by omega) hR
  have h2 := smul_nn (k := n' * n') (sq_nonneg n') hd
  have h3 := sgnS_add_pos (sgnS_add_pos h h1) h2
  have e : versS N (d * d) R (n * n) = sgnS (Su.add (Su.add ⟨d * d * N.a - n' * n' * R'.a, d * d * N.b - n' * n' * R'.b⟩ ⟨(n' * n' - n * n) * R.a, (n' * n' - n * n) * R.b⟩) ⟨n' * n' * (R'.sub R).a, n' * n' * (R'.sub R).b⟩) := by
    unfold versS
    congr 1
    apply Su.ext' <;> simp only [Su.add, Su.sub] <;> grind
  rw [e]
  exact h3
theorem min_mono {N : Su} {m m' : Int} (hm : 0 ≤ m') (h' : m' ≤ m) (h : 0 ≤ sgnS (N.sub (minS m))) : 0 ≤ sgnS (N.sub (minS m')) := by
  refine sgnS_mono ?_ h
  have := sq_mono hm h'
  show N.a - 36 * m * m ≤ N.a - 36 * m' * m'
  rw [Int.mul_assoc, Int.mul_assoc]
  omega
theorem opB_mono {l : List Cur} {m m' n n' d : Int} (hm : 0 ≤ m') (hm' : m' ≤ m) (hn : 0 ≤ n') (hn' : n' ≤ n) (h : opB l m n d = true) : opB l m' n' d = true := by
  unfold opB at h ⊢
  simp only [Bool.and_eq_true, decide_eq_true_eq] at h ⊢
  refine ⟨min_mono hm hm' h.1, vers_mono hn hn' (resW_nn l) ?_ h.2⟩
  have e : (resW l).sub (resW l) = ⟨0, 0⟩ := by apply Su.ext' <;> simp only [Su.sub] <;> omega
  rw [e]
  decide
theorem sumW_rot (l : List Cur) (j : Nat) : sumW (l.drop j ++ l.take j) = sumW l := by
  rw [sumW_append, cadd_comm, ← sumW_append, List.take_append_drop]
theorem resW_rot (l : List Cur) (j : Nat) : resW (l.drop j ++ l.take j) = resW l := by
  rw [resW_append, sadd_comm, ← resW_append, List.take_append_drop]
theorem opB_congr {l l' : List Cur} (m n d : Int) (h1 : sumW l = sumW l') (h2 : resW l = resW l') : opB l m n d = opB l' m n d := by
  unfold opB
  rw [h1, h2]
end Go.Sub
