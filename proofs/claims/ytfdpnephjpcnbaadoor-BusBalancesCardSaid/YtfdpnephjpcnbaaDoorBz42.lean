
/- The plain law of BusBalances: the currents of the feeders and the negative sum add up to nothing. -/
import Derived.Test.YtfdpnephjpcnbaaDoorBz11
import Derived.Test.YtfdpnephjpcnbaaDoorBz24
import Derived.Test.YtfdpnephjpcnbaaDoorBz26
import Derived.Test.YtfdpnephjpcnbaaDoorBz27
import Derived.Test.YtfdpnephjpcnbaaDoorBz41
set_option linter.unusedSimpArgs false
set_option linter.unusedVariables false
/- Plain laws of harmonics. No program in sight. -/
namespace Go.Sub
theorem Cy.add_assoc' (x y z : Cy) : (x.add y).add z = x.add (y.add z) := by apply Cy.ext' <;> simp only [Cy.add] <;> omega
theorem Cy.add_comm' (x y : Cy) : x.add y = y.add x := by apply Cy.ext' <;> simp only [Cy.add] <;> omega
theorem Cy.zero_add' (x : Cy) : Cy.add ⟨0, 0, 0, 0⟩ x = x := by apply Cy.ext' <;> simp only [Cy.add] <;> omega
theorem sumC_add (y z : Nat → Cy) (n : Nat) : sumC (fun k => (y k).add (z k)) n = (sumC y n).add (sumC z n) := by
  induction n with
  | zero => apply Cy.ext' <;> simp [sumC, Cy.add]
  | succ n ih =>
    show (sumC (fun k => (y k).add (z k)) n).add ((y n).add (z n)) = ((sumC y n).add (y n)).add ((sumC z n).add (z n))
    rw [ih]
    apply Cy.ext' <;> simp only [Cy.add] <;> omega
theorem sumC_scl (y : Nat → Cy) (c : Int) (n : Nat) : sumC (fun k => (y k).scl c) n = (sumC y n).scl c := by
  induction n with
  | zero => apply Cy.ext' <;> simp [sumC, Cy.scl]
  | succ n ih =>
    show (sumC (fun k => (y k).scl c) n).add ((y n).scl c) = ((sumC y n).add (y n)).scl c
    rw [ih]
    apply Cy.ext' <;> simp only [Cy.add, Cy.scl] <;> grind
theorem sumC_congr {y z : Nat → Cy} (n : Nat) (h : ∀ k, k < n → y k = z k) : sumC y n = sumC z n := by
  induction n with
  | zero => rfl
  | succ n ih =>
    show (sumC y n).add (y n) = (sumC z n).add (z n)
    rw [ih fun k hk => h k (by omega), h n (by omega)]
theorem sumC_zero (n : Nat) : sumC (fun _ => ⟨0, 0, 0, 0⟩) n = ⟨0, 0, 0, 0⟩ := by
  induction n with
  | zero => rfl
  | succ n ih => show (sumC _ n).add _ = _; rw [ih]; rfl
theorem sumC_swap (f : Nat → Nat → Cy) (n m : Nat) : sumC (fun h => sumC (fun k => f h k) m) n = sumC (fun k => sumC (fun h => f h k) n) m := by
  induction n with
  | zero =>
    show (⟨0, 0, 0, 0⟩ : Cy) = _
    exact (sumC_zero m).symm
  | succ n ih =>
    show (sumC (fun h => sumC (fun k => f h k) m) n).add (sumC (fun k => f n k) m) = sumC (fun k => (sumC (fun h => f h k) n).add (f n k)) m
    rw [ih, sumC_add]
theorem harm_add (x y : Nat → Int) (h : Int) : harm (fun k => x k + y k) h = (harm x h).add (harm y h) := by
  unfold harm
  rw [← sumC_add]
  refine sumC_congr _ fun k _ => ?_
  apply Cy.ext' <;> simp only [hterm, Cy.scl, Cy.add] <;> grind
theorem harm_scl (x : Nat → Int) (c h : Int) : harm (fun k => c * x k) h = (harm x h).scl c := by
  unfold harm
  rw [← sumC_scl]
  refine sumC_congr _ fun k _ => ?_
  apply Cy.ext' <;> simp only [hterm, Cy.scl] <;> grind
-- turning
theorem tn_add (x y : Cy) : ∀ n : Nat, n < 12 → (x.add y).tn n = (x.tn n).add (y.tn n) := by
  intro n hn
  have hn' : n = 0 ∨ n = 1 ∨ n = 2 ∨ n = 3 ∨ n = 4 ∨ n = 5 ∨ n = 6 ∨ n = 7 ∨ n = 8 ∨ n = 9 ∨ n = 10 ∨ n = 11 := by omega
  rcases hn' with rfl | rfl | rfl | rfl | rfl | rfl | rfl | rfl | rfl | rfl | rfl | rfl <;>
    (apply Cy.ext' <;> simp only [Cy.tn, Cy.add] <;> omega)
theorem turn_add (x y : Cy) (k : Int) : (x.add y).turn k = (x.turn k).add (y.turn k) := tn_add x y _ (by omega)
theorem tn_scl (x : Cy) (c : Int) : ∀ n : Nat, n < 12 → (x.scl c).tn n = (x.tn n).scl c := by
  intro n hn
  have hn' : n = 0 ∨ n = 1 ∨ n = 2 ∨ n = 3 ∨ n = 4 ∨ n = 5 ∨ n = 6 ∨ n = 7 ∨ n = 8 ∨ n = 9 ∨ n = 10 ∨ n = 11 := by omega
  rcases hn' with rfl | rfl | rfl | rfl | rfl | rfl | rfl | rfl | rfl | rfl | rfl | rfl <;>
    (apply Cy.ext' <;> simp only [Cy.tn, Cy.scl] <;> grind)
theorem turn_scl (x : Cy) (c k : Int) : (x.scl c).turn k = (x.turn k).scl c := tn_scl x c _ (by omega)
theorem zero_turn (k : Int) : Cy.turn ⟨0, 0, 0, 0⟩ k = ⟨0, 0, 0, 0⟩ := by
  have hn : (k % 12).toNat < 12 := by omega
  unfold Cy.turn
  generalize (k % 12).toNat = n at hn
  have hn' : n = 0 ∨ n = 1 ∨ n = 2 ∨ n = 3 ∨ n = 4 ∨ n = 5 ∨ n = 6 ∨ n = 7 ∨ n = 8 ∨ n = 9 ∨ n = 10 ∨ n = 11 := by omega
  rcases hn' with rfl | rfl | rfl | rfl | rfl | rfl | rfl | rfl | rfl | rfl | rfl | rfl <;> rfl
theorem sumC_turn (y : Nat → Cy) (k : Int) (n : Nat) : (sumC y n).turn k = sumC (fun j => (y j).turn k) n := by
  induction n with
  | zero => exact zero_turn k
  | succ n ih =>
    show ((sumC y n).add (y n)).turn k = (sumC (fun j => (y j).turn k) n).add ((y n).turn k)
    rw [turn_add, ih]
theorem root_turn (j k : Int) : (rootC j).turn k = rootC (j + k) := by
  show ((Cy.mk 1 0 0 0).turn j).turn k = (Cy.mk 1 0 0 0).turn (j + k)
  rw [Cy.turn_turn, Int.add_comm]
theorem hterm_turn (x : Nat → Int) (h k : Int) (m : Nat) : (hterm x h m).turn k = (rootC (-h * m + k)).scl (x m) := by
  unfold hterm
  rw [turn_scl, root_turn]
theorem sumC_rot (f : Nat → Cy) (j : Nat) (hj : j < 12) : sumC (fun k => f ((k + 12 - j) % 12)) 12 = sumC f 12 := by
  have hj' : j = 0 ∨ j = 1 ∨ j = 2 ∨ j = 3 ∨ j = 4 ∨ j = 5 ∨ j = 6 ∨ j = 7 ∨ j = 8 ∨ j = 9 ∨ j = 10 ∨ j = 11 := by omega
  rcases hj' with rfl | rfl | rfl | rfl | rfl | rfl | rfl | rfl | rfl | rfl | rfl | rfl <;>
    (simp only [sumC, Nat.reduceAdd, Nat.reduceSub, Nat.reduceMod]) <;> (apply Cy.ext') <;> (simp only [Cy.add]) <;> omega
theorem harm_delay (x : Nat → Int) (j : Nat) (hj : j < 12) (h : Int) : harm (fun k => x ((k + 12 - j) % 12)) h = (harm x h).turn (-(j * h)) := by
  unfold harm
  rw [sumC_turn, ← sumC_rot (fun m => (hterm x h m).turn (-(j * h))) j hj]
  refine sumC_congr _ fun k hk => ?_
  rw [hterm_turn]
  unfold hterm
  congr 1
  apply rootC_congr
  have e : (((k + 12 - j) % 12 : Nat) : Int) = (k : Int) - j + 12 * (if j ≤ k then 0 else 1) := by split <;> omega
  rw [e]
  have : -h * ((k : Int) - j + 12 * (if j ≤ k then 0 else 1)) + -(j * h) = -h * k + 12 * (-h * (if j ≤ k then 0 else 1)) := by grind
  rw [this, Int.add_mul_emod_self_left]
-- halves
def Cy.ng (x : Cy) : Cy := ⟨-x.a, -x.b, -x.c, -x.d⟩
theorem sumC_half (y : Nat → Cy) (h : ∀ k, k < 6 → y (k + 6) = (y k).ng) : sumC y 12 = ⟨0, 0, 0, 0⟩ := by
  have h0 := h 0 (by omega)
  have h1 := h 1 (by omega)
  have h2 := h 2 (by omega)
  have h3 := h 3 (by omega)
  have h4 := h 4 (by omega)
  have h5 := h 5 (by omega)
  simp only [Nat.reduceAdd] at h0 h1 h2 h3 h4 h5
  simp only [sumC, h0, h1, h2, h3, h4, h5]
  apply Cy.ext' <;> simp only [Cy.add, Cy.ng] <;> omega
theorem root_half (k : Int) : rootC (k + 6) = (rootC k).ng := by
  rw [← root_turn]
  rfl
theorem harm_even (x : Nat → Int) (h : Int) (hx : ∀ k, k < 6 → x (k + 6) = -x k) : harm x (2 * h) = ⟨0, 0, 0, 0⟩ := by
  refine sumC_half _ fun k hk => ?_
  unfold hterm
  rw [hx k hk]
  have : rootC (-(2 * h) * ((k + 6 : Nat) : Int)) = rootC (-(2 * h) * k) := by
    apply rootC_congr
    have : -(2 * h) * ((k + 6 : Nat) : Int) = -(2 * h) * k + 12 * (-h) := by push_cast; grind
    rw [this, Int.add_mul_emod_self_left]
  rw [this]
  apply Cy.ext' <;> simp only [Cy.scl, Cy.ng] <;> grind
theorem harm_odd (x : Nat → Int) (h : Int) (hx : ∀ k, k < 6 → x (k + 6) = x k) : harm x (2 * h + 1) = ⟨0, 0, 0, 0⟩ := by
  refine sumC_half _ fun k hk => ?_
  unfold hterm
  rw [hx k hk]
  have : rootC (-(2 * h + 1) * ((k + 6 : Nat) : Int)) = (rootC (-(2 * h + 1) * k)).ng := by
    rw [← root_half]
    apply rootC_congr
    have : -(2 * h + 1) * ((k + 6 : Nat) : Int) = -(2 * h + 1) * k + 6 + 12 * (-h - 1) := by push_cast; grind
    rw [this, Int.add_mul_emod_self_left]
  rw [this]
  apply Cy.ext' <;> simp only [Cy.scl, Cy.ng] <;> grind
-- back
theorem root_sum (d : Int) : sumC (fun h => rootC ((h : Int) * d)) 12 = if d % 12 = 0 then ⟨12, 0, 0, 0⟩ else ⟨0, 0, 0, 0⟩ := by
  have e : ∀ h : Nat, rootC ((h : Int) * d) = rootC ((h : Int) * (d % 12)) := by
    intro h
    apply rootC_congr
    rw [Int.mul_emod, Int.mul_emod (h : Int) (d % 12), Int.emod_emod]
  rw [sumC_congr 12 fun h _ => e h]
  have hd := dz_cases d
  rcases hd with e | e | e | e | e | e | e | e | e | e | e | e <;> (rw [e]; apply Cy.ext' <;> decide +kernel)
theorem harm_back (x : Nat → Int) (k : Nat) (hk : k < 12) : sumC (fun h => (harm x (h : Int)).turn ((h : Int) * k)) 12 = ⟨12 * x k, 0, 0, 0⟩ := by
  have e1 : ∀ h : Nat, (harm x (h : Int)).turn ((h : Int) * k) = sumC (fun m => (rootC ((h : Int) * ((k : Int) - m))).scl (x m)) 12 := by
    intro h
    unfold harm
    rw [sumC_turn]
    refine sumC_congr _ fun m _ => ?_
    rw [hterm_turn]
    congr 2
    grind
  rw [sumC_congr 12 fun h _ => e1 h, sumC_swap]
  have e2 : ∀ m : Nat, m < 12 → sumC (fun h => (rootC ((h : Int) * ((k : Int) - m))).scl (x m)) 12 = if m = k then ⟨12 * x k, 0, 0, 0⟩ else ⟨0, 0, 0, 0⟩ := by
    intro m hm
    rw [sumC_scl (fun h => rootC ((h : Int) * ((k : Int) - m))), root_sum]
    by_cases hmk : m = k
    · subst hmk
      rw [if_pos (by omega), if_pos rfl]
      simp [Cy.scl]
    · rw [if_neg (by omega), if_neg hmk]
      simp [Cy.scl]
  rw [sumC_congr 12 e2]
  have hk' : k = 0 ∨ k = 1 ∨ k = 2 ∨ k = 3 ∨ k = 4 ∨ k = 5 ∨ k = 6 ∨ k = 7 ∨ k = 8 ∨ k = 9 ∨ k = 10 ∨ k = 11 := by omega
  rcases hk' with rfl | rfl | rfl | rfl | rfl | rfl | rfl | rfl | rfl | rfl | rfl | rfl <;> simp [sumC, Cy.add]
-- conjugates
theorem root_conj (k : Int) : (rootC k).conj = rootC (-k) := by
  have e : rootC (-k) = rootC (-(k % 12)) := rootC_congr (by omega)
  have e2 : rootC k = rootC (k % 12) := rootC_congr (by omega)
  rw [e, e2]
  rcases dz_cases k with e | e | e | e | e | e | e | e | e | e | e | e <;> (rw [e]; apply Cy.ext' <;> decide +kernel)
theorem conj_scl (x : Cy) (c : Int) : (x.scl c).conj = x.conj.scl c := by apply Cy.ext' <;> simp only [Cy.scl, Cy.conj] <;> grind
theorem sumC_conj (y : Nat → Cy) (n : Nat) : (sumC y n).conj = sumC (fun j => (y j).conj) n := by
  induction n with
  | zero => rfl
  | succ n ih =>
    show ((sumC y n).add (y n)).conj = (sumC (fun j => (y j).conj) n).add ((y n).conj)
    rw [Cy.conj_add, ih]
theorem harm_conj (x : Nat → Int) (h j : Int) (hj : (h + j) % 12 = 0) : (harm x j).conj = harm x h := by
  unfold harm
  rw [sumC_conj]
  refine sumC_congr _ fun k _ => ?_
  unfold hterm
  rw [conj_scl, root_conj]
  congr 1
  apply rootC_congr
  obtain ⟨q, hq⟩ : ∃ q, j = -h + 12 * q := ⟨(h + j) / 12, by omega⟩
  subst hq
  have : -(-(-h + 12 * q) * (k : Int)) = -h * k + 12 * (q * k) := by grind
  rw [this, Int.add_mul_emod_self_left]
-- energies
def sumS (y : Nat → Su) : Nat → Su
  | 0 => ⟨0, 0⟩
  | n + 1 => (sumS y n).add (y n)
/-- Six terms: the transform of six numbers. -/
def dft6 (u : Nat → Int) (h : Int) : Cy := sumC (fun m => (rootC (-(2 * h) * m)).scl (u m)) 6
theorem parseval6 (u : Nat → Int) : sumS (fun h => (dft6 u h).norm) 6 = ⟨6 * (u 0 * u 0 + u 1 * u 1 + u 2 * u 2 + u 3 * u 3 + u 4 * u 4 + u 5 * u 5), 0⟩ := by
  have r : ∀ j : Int, rootC j = (Cy.mk 1 0 0 0).tn (j % 12).toNat := fun _ => rfl
  apply Su.ext' <;> simp [sumS, dft6, sumC, Su.add, Cy.norm, Cy.add, Cy.scl, r, Cy.tn] <;> grind
theorem harm_split (x : Nat → Int) (h : Int) : harm x h = (dft6 (fun m => x (2 * m)) h).add ((dft6 (fun m => x (2 * m + 1)) h).turn (-h)) := by
  unfold dft6
  rw [sumC_turn]
  have e0 : ∀ m : Nat, (rootC (-(2 * h) * (m : Int))).scl (x (2 * m)) = hterm x h (2 * m) := by
    intro m
    unfold hterm
    congr 2
    push_cast
    grind
  have e1 : ∀ m : Nat, ((rootC (-(2 * h) * (m : Int))).scl (x (2 * m + 1))).turn (-h) = hterm x h (2 * m + 1) := by
    intro m
    unfold hterm
    rw [turn_scl, root_turn]
    congr 2
    push_cast
    grind
  simp only [e0, e1]
  simp only [harm, sumC, Nat.reduceMul, Nat.reduceAdd]
  apply Cy.ext' <;> simp only [Cy.add] <;> omega
theorem dft6_six (u : Nat → Int) (h : Int) : dft6 u (h + 6) = dft6 u h := by
  refine sumC_congr _ fun m _ => ?_
  congr 1
  apply rootC_congr
  have : -(2 * (h + 6)) * (m : Int) = -(2 * h) * m + 12 * (-m) := by grind
  rw [this, Int.add_mul_emod_self_left]
theorem norm_pair (x : Nat → Int) (h : Int) : (harm x h).norm.add (harm x (h + 6)).norm = ⟨2 * ((dft6 (fun m => x (2 * m)) h).norm.add (dft6 (fun m => x (2 * m + 1)) h).norm).a, 2 * ((dft6 (fun m => x (2 * m)) h).norm.add (dft6 (fun m => x (2 * m + 1)) h).norm).b⟩ := by
  rw [harm_split x h, harm_split x (h + 6), dft6_six, dft6_six]
  have e : (dft6 (fun m => x (2 * m + 1)) h).turn (-(h + 6)) = ((dft6 (fun m => x (2 * m + 1)) h).turn (-h)).ng := by
    have : (-(h + 6) : Int) = -6 + -h := by omega
    rw [this, ← Cy.turn_turn]
    rfl
  have e2 : ∀ a b : Cy, a.add b.ng = a.sub b := by
    intro a b
    apply Cy.ext' <;> simp only [Cy.add, Cy.ng, Cy.sub] <;> omega
  rw [e, e2, parallelogram, norm_turn]
theorem parseval (x : Nat → Int) : sumS (fun h => (harm x (h : Int)).norm) 12 = ⟨12 * enrg x 12, 0⟩ := by
  have p0 := norm_pair x 0
  have p1 := norm_pair x 1
  have p2 := norm_pair x 2
  have p3 := norm_pair x 3
  have p4 := norm_pair x 4
  have p5 := norm_pair x 5
  have a := parseval6 (fun m => x (2 * m))
  have b := parseval6 (fun m => x (2 * m + 1))
  simp only [Int.reduceAdd, Su.add, Su.mk.injEq] at p0 p1 p2 p3 p4 p5
  simp only [sumS, Su.add, Su.mk.injEq] at a b
  apply Su.ext'
  · simp only [sumS, Su.add, enrg]
    simp only [Nat.reduceMul, Nat.reduceAdd] at a b
    have c : ∀ n : Nat, ((n : Nat) : Int) = n := fun _ => rfl
    push_cast at *
    omega
  · simp only [sumS, Su.add]
    push_cast at *
    omega
end Go.Sub
set_option linter.unusedVariables false
set_option linter.unusedSimpArgs false
namespace Go.Sub
open Go
/-- The fundamental of a window. -/
def winH (l : List Int) : Cy := harm (fun j => l.getD j 0) 1
def curL (l : List Int) : Cur := ⟨winH l, 1, false⟩
theorem curs_rows (rows : List Ch) : rows.map curOf = (rows.map Ch.l).map curL := by rw [List.map_map]; rfl
theorem curL_wt (l : List Int) : (curL l).wt = winH l := by
  apply Cy.ext' <;> simp [Cur.wt, Cur.k, Cy.sc, curL]
/-- What the windows add up to at an instant. -/
def tot : List (List Int) → Nat → Int
  | [], _ => 0
  | l :: L, k => l.getD k 0 + tot L k
theorem tot_append (L M : List (List Int)) (k : Nat) : tot (L ++ M) k = tot L k + tot M k := by
  induction L with
  | nil => simp [tot]
  | cons l L ih => rw [List.cons_append, tot, tot, ih]; omega
theorem harm_congr {x y : Nat → Int} (h : Int) (e : ∀ k, k < 12 → x k = y k) : harm x h = harm y h := by
  unfold harm
  exact sumC_congr 12 fun k hk => by unfold hterm; rw [e k hk]
theorem harm_zero (h : Int) : harm (fun _ => 0) h = cz := by
  unfold harm
  rw [sumC_congr (z := fun _ => ⟨0, 0, 0, 0⟩) 12 fun k _ => by apply Cy.ext' <;> simp [hterm, Cy.scl]]
  exact sumC_zero 12
theorem sumW_tot (L : List (List Int)) : sumW (L.map curL) = harm (fun k => tot L k) 1 := by
  induction L with
  | nil => exact (harm_zero 1).symm
  | cons l L ih =>
    rw [List.map_cons, sumW, ih, curL_wt]
    exact (harm_add (fun j => l.getD j 0) (fun k => tot L k) 1).symm
theorem feed_tot (X : Nat → Nat → Int) (N k : Nat) (hk : k < 12) : tot (feedL X N) k = - rsum X N k := by
  induction N with
  | zero => simp [feedL, tot, rsum]
  | succ N ih =>
    have e : feedL X (N + 1) = feedL X N ++ [(List.range 12).map fun k => wv (X N k)] := by unfold feedL; rw [@List.range_succ N, List.map_append]; rfl
    rw [e, tot_append, ih]
    simp only [tot, map12_getD _ _ hk, rsum]
    omega
/-- With the negative sums, nothing is left. -/
theorem bal_zero (X : Nat → Nat → Int) (N : Nat) : sumW ((feedL X N ++ [restL X N]).map curL) = cz := by
  rw [sumW_tot, ← harm_zero 1]
  apply harm_congr
  intro k hk
  rw [tot_append, feed_tot X N k hk]
  simp only [tot, restL, map12_getD _ _ hk]
  omega
/-- The negative sums and the fault's current. -/
def sumM (X : Nat → Nat → Int) (F : Nat → Int) (N k : Nat) : List Int := (List.range 12).map fun j => if j < k then rsum X N j + wv (F j) else 0
theorem sumM_zero (X : Nat → Nat → Int) (F : Nat → Int) (N : Nat) : sumM X F N 0 = List.replicate 12 0 := rfl
theorem sumM_set (X : Nat → Nat → Int) (F : Nat → Int) (N k : Nat) (hk : k < 12) : (sumM X F N k).set k (rsum X N k + wv (F k)) = sumM X F N (k + 1) := by
  unfold sumM
  apply map12_set _ _ _ _ hk
  intro j hj
  by_cases e : k = j
  · subst e; rw [if_pos rfl, if_pos (by omega)]
  · rw [if_neg e]
    by_cases h : j < k
    · rw [if_pos h, if_pos (by omega)]
    · rw [if_neg h, if_neg (by omega)]
theorem bal_fault (X : Nat → Nat → Int) (F : Nat → Int) (N : Nat) : sumW ((feedL X N ++ [sumM X F N 12]).map curL) = winH (faultM F 12) := by
  rw [sumW_tot]
  unfold winH
  apply harm_congr
  intro k hk
  rw [tot_append, feed_tot X N k hk]
  simp only [tot, sumM, faultM, map12_getD _ _ hk, if_pos hk]
  omega
theorem map12_in (g : Nat → Int) (l : Int) (h : ∀ k, k < 12 → -l ≤ g k ∧ g k ≤ l) : InB (-l) l ((List.range 12).map g) := by
  intro k hk
  rw [List.length_map, List.length_range] at hk
  rw [map12_getD _ _ hk]
  exact h k hk
theorem inB_mono {l m : Int} {L : List Int} (h : InB (-l) l L) (hl : l ≤ m) : InB (-m) m L := fun k hk => by have := h k hk; omega
theorem feedL_in (X : Nat → Nat → Int) (N : Nat) : ∀ l ∈ feedL X N, InB (-16383) 16383 l := by
  intro l hl
  unfold feedL at hl
  obtain ⟨i, _, rfl⟩ := List.mem_map.1 hl
  exact inB_mono (map12_in _ 2000 fun k _ => wv_bd _) (by decide)
theorem restL_in (X : Nat → Nat → Int) (N : Nat) (hN : N ≤ 5) : InB (-16383) 16383 (restL X N) := inB_mono (map12_in _ 10000 fun k _ => by have := rsum_bd X N k; omega) (by decide)
theorem sumM_in (X : Nat → Nat → Int) (F : Nat → Int) (N : Nat) (hN : N ≤ 5) : InB (-16383) 16383 (sumM X F N 12) := inB_mono (map12_in _ 12000 fun k hk => by
  have := rsum_bd X N k
  have := wv_bd (F k)
  rw [if_pos hk]
  omega) (by decide)
theorem faultM_in (F : Nat → Int) : InB (-16383) 16383 (faultM F 12) := inB_mono (map12_in _ 2000 fun k hk => by
  have := wv_bd (F k)
  rw [if_pos hk]
  omega) (by decide)
theorem winH_in {l : List Int} (h : InB (-16383) 16383 l) : (winH l).In 65536 := (harm1_in (x := fun j => l.getD j 0) (fun k _ => inB_getD h (by decide) k)).mono (by decide)
theorem curL_ok {l : List Int} (h : InB (-16383) 16383 l) : (curL l).OK := ⟨winH_in h, show (1 : Int) ≤ 1 by decide, show (1 : Int) ≤ 100 by decide⟩
theorem curs_ok {L : List (List Int)} (h : ∀ l ∈ L, InB (-16383) 16383 l) : ∀ c ∈ L.map curL, c.OK := by
  intro c hc
  obtain ⟨l, hl, rfl⟩ := List.mem_map.1 hc
  exact curL_ok (h l hl)
/-- Nothing does not operate. -/
theorem op_none {l : List Cur} {m n d : Int} (hm : 1 ≤ m) (h : sumW l = cz) : opB l m n d = false := by
  unfold opB
  rw [h]
  have hsq := Int.mul_le_mul hm hm (by decide) (by omega)
  have e : Cy.norm cz = ⟨0, 0⟩ := rfl
  have e2 : sgnS (Su.sub ⟨0, 0⟩ (minS m)) = -1 := by
    have : Su.sub ⟨0, 0⟩ (minS m) = ⟨-(36 * m * m), 0⟩ := by apply Su.ext' <;> simp [Su.sub, minS]
    rw [this]
    unfold sgnS
    dsimp only
    rw [sgn_neg (show -(36 * m * m) < 0 by rw [Int.mul_assoc]; omega)]
    simp [sgn_zero]
  rw [e, e2]
  rfl
/-- Without slope, the element operates exactly if the sum has the minimum. -/
theorem op_slope {l : List Cur} {c : Cy} {m d : Int} (hm : 1 ≤ m) (hd : 1 ≤ d) (h : sumW l = c) : opB l m 0 d = aboveB c m := by
  unfold opB aboveB
  rw [h]
  change (decide (0 ≤ sgnS (c.norm.sub (minS m))) && _) = decide (0 ≤ sgnS (c.norm.sub (minS m)))
  rw [Bool.eq_iff_iff]
  simp only [Bool.and_eq_true, decide_eq_true_eq]
  refine ⟨fun h => h.1, fun h1 => ⟨h1, ?_⟩⟩
  have hpos : 0 < sgnS c.norm := by
    have hm' : 0 < sgnS (minS m) := by
      have hsq := Int.mul_le_mul hm hm (by decide) (by omega)
      have : sgnS (minS m) = 1 := by
        unfold minS sgnS
        dsimp only
        rw [sgn_pos (show 0 < 36 * m * m by rw [Int.mul_assoc]; omega)]
        simp [sgn_zero]
      omega
    have h2 := sgnS_add_pos hm' h1
    have ee : (minS m).add (c.norm.sub (minS m)) = c.norm := by apply Su.ext' <;> simp only [Su.add, Su.sub] <;> omega
    rwa [ee] at h2
  have hdd : 0 < d * d := Int.mul_pos (by omega) (by omega)
  have ev : versS c.norm (d * d) (resW l) (0 * 0) = sgnS ⟨d * d * c.norm.a, d * d * c.norm.b⟩ := by
    unfold versS
    simp
  rw [ev, sgnS_smul hdd]
  exact hpos
end Go.Sub
