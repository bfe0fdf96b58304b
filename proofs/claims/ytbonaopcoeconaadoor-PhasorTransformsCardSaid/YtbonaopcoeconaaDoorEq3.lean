
/- '==' between two arrays of numbers of the ring: as their elements are. -/
import Derived.Test.YtbonaopcoeconaaDoorEqsP
namespace Go
open Go.Sub
/-- A number as its four cells. -/
def Sub.Cy.cells (x : Cy) : List Value := [.int .i64 x.a, .int .i64 x.b, .int .i64 x.c, .int .i64 x.d]
def Sub.flat (xs : List Cy) : List Value := xs.flatMap Cy.cells
def Sub.eqAll : List Cy → List Cy → Bool
  | x :: xs, y :: ys => Cy.eqB x y && eqAll xs ys
  | _, _ => true
theorem Sub.eqAll_self : ∀ xs : List Cy, eqAll xs xs = true
  | [] => rfl
  | x :: xs => by simp [eqAll, Cy.eqB_self, eqAll_self xs]
theorem Sub.eqAll_range : ∀ (xs ys : List Cy), xs.length = ys.length → ((List.range xs.length).all fun i => Cy.eqB (xs.getD i ⟨0, 0, 0, 0⟩) (ys.getD i ⟨0, 0, 0, 0⟩)) = eqAll xs ys
  | [], [], _ => rfl
  | x :: xs, y :: ys, h => by
    have ih := eqAll_range xs ys (by simpa using h)
    rw [List.length_cons, List.range_succ_eq_map, List.all_cons, List.all_map]
    simp only [List.getD_cons_zero, Function.comp_def, List.getD_cons_succ, ih, eqAll]
  | [], _ :: _, h => by simp at h
  | _ :: _, [], h => by simp at h
theorem Sub.flat_at : ∀ (xs : List Cy) (i : Nat), i < xs.length → ((flat xs).drop (i * 4)).take 4 = (xs.getD i ⟨0, 0, 0, 0⟩).cells
  | x :: xs, 0, _ => by simp [flat, Cy.cells]
  | x :: xs, i + 1, h => by
    have ih := flat_at xs i (by simpa using h)
    have e : (i + 1) * 4 = i * 4 + 1 + 1 + 1 + 1 := by omega
    rw [e]
    show ((Cy.cells x ++ flat xs).drop (i * 4 + 1 + 1 + 1 + 1)).take 4 = (xs.getD i ⟨0, 0, 0, 0⟩).cells
    rw [← ih]
    rfl
  | [], _, h => by simp at h
theorem Sub.flat_length : ∀ xs : List Cy, (flat xs).length = 4 * xs.length
  | [] => rfl
  | x :: xs => by
    have := flat_length xs
    simp only [flat, List.flatMap_cons, List.length_append, List.length_cons] at this ⊢
    simp only [Cy.cells, List.length_cons, List.length_nil]
    omega
section
variable {P : Program} (w : World)
theorem run_equalIn_cycs (d : Nat) (t e g : TypeId) (n : Nat) (ht : P.underlying t = some (.array n e)) (he : P.underlying e = some (.array 4 g)) (hg : P.underlying g = some (.int .i64))
    (hsz : ∀ w, (sizeOf g).run P w = .ok 1 w) (hse : ∀ w, (sizeOf e).run P w = .ok 4 w) (xs ys : List Cy) (hx : xs.length = n) (hy : ys.length = n) :
    (Op.equalIn (d + 3) t (.agg (flat xs).toArray) (.agg (flat ys).toArray)).run P w = .ok (eqAll xs ys) w := by
  rw [← eqAll_range xs ys (hx.trans hy.symm), hx, List.range_eq_range', Op.equalIn]
  simp only [Sem.run_bind, run_underlying ht, Result.andThen_ok, hse, Std.Legacy.Range.forIn_eq_forIn_range', Std.Legacy.Range.size, Nat.sub_zero, Nat.add_sub_cancel, Nat.div_one]
  have hl : ∀ i ∈ List.range' 0 n 1, i < n := fun i hi => by simpa using (List.mem_range'_1.1 hi).2
  generalize List.range' 0 n 1 = l at hl ⊢
  induction l with
  | nil => simp
  | cons i l ih =>
    have hi : i < n := hl i (by simp)
    have pp : ∀ zs : List Cy, zs.length = n → (part e (flat zs).toArray (i * 4)).run P w = .ok (.agg (zs.getD i ⟨0, 0, 0, 0⟩).cells.toArray) w := by
      intro zs hz
      have h1 := flat_at zs i (by omega)
      rw [← h1]
      simp [part, isAgg, run_underlying he, hse]
    have pe : (Op.equalIn (d + 2) e (.agg (xs.getD i ⟨0, 0, 0, 0⟩).cells.toArray) (.agg (ys.getD i ⟨0, 0, 0, 0⟩).cells.toArray)).run P w = .ok (Cy.eqB (xs.getD i ⟨0, 0, 0, 0⟩) (ys.getD i ⟨0, 0, 0, 0⟩)) w :=
      run_equalIn_ints (P := P) w d e g 4 he hg hsz [(xs.getD i ⟨0, 0, 0, 0⟩).a, (xs.getD i ⟨0, 0, 0, 0⟩).b, (xs.getD i ⟨0, 0, 0, 0⟩).c, (xs.getD i ⟨0, 0, 0, 0⟩).d] [(ys.getD i ⟨0, 0, 0, 0⟩).a, (ys.getD i ⟨0, 0, 0, 0⟩).b, (ys.getD i ⟨0, 0, 0, 0⟩).c, (ys.getD i ⟨0, 0, 0, 0⟩).d] rfl rfl
    simp only [List.forIn_cons, Sem.run_bind, pp xs hx, pp ys hy, pe, Result.andThen_ok, List.all_cons]
    cases hb : Cy.eqB (xs.getD i ⟨0, 0, 0, 0⟩) (ys.getD i ⟨0, 0, 0, 0⟩)
    · simp
    · simp only [Bool.not_true, Bool.false_eq_true, if_false, Sem.run_pure, Result.andThen_ok, Bool.true_and]
      exact ih fun j hj => hl j (by simp [hj])
theorem run_eql_cycs (t e g : TypeId) (n : Nat) (ht : P.underlying t = some (.array n e)) (he : P.underlying e = some (.array 4 g)) (hg : P.underlying g = some (.int .i64))
    (hsz : ∀ w, (sizeOf g).run P w = .ok 1 w) (hse : ∀ w, (sizeOf e).run P w = .ok 4 w) (xs ys : List Cy) (hx : xs.length = n) (hy : ys.length = n) :
    (binOp .eql t (.agg (flat xs).toArray) (.agg (flat ys).toArray)).run P w = .ok (.bool (eqAll xs ys)) w := by
  rw [run_eql_struct, run_equalIn_cycs w 9997 t e g n ht he hg hsz hse xs ys hx hy]
  rfl
end
end Go
