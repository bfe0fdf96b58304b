
/- OvercurrentSteps returns true for every input, and its arguments read behind the call as they read before. -/
import Derived.Test.YtkkjifgcjfbcaaaFrP
import Derived.Test.YtkkjifgcjfbcaaaFrO
import Derived.Test.YtkkjifgcjfbcaaaLwOcSteps
namespace Go.Proofs.Ytkkjifgcjfbcaaa.overcurrentSteps
open Go.ChangeShapes Go.WideShapes Go.ChangeAt Go.RowKit Go.Sub Go.Joins
theorem laidOut : laidOutB Try.prog = true := by kernel_rfl

set_option maxRecDepth 100000 in
theorem contract (H : Type) (enc : TypeId × Value → H) (W : World) (base : Nat) (args : Array Value) (ds gs : List (DataW H)) (before : List MemPlace)
    (hval : ∀ (j : Nat) t v, Try.f10.params[j]? = some t → args[j]? = some v → Value.okWide Try.prog W .any base t v)
    (hW : DataW.Whole enc Try.prog Try.f10.params.toList Rows.overcurrentStepsSpec.vars false W args.toList ds gs before) :
    Calls Try.prog 10 args W fun e W' => ∃ v, e = .returned v ∧ Rows.overcurrentStepsSpec.post enc Try.prog Try.f10 false true false false W args v W' := by
  have hW' := hW
  obtain ⟨p, q, hA0, hV, rfl, hfz, hnd⟩ := hW
  have hA : DataW.TrodAll enc Try.prog W 0 (fun _ => true) true Try.f10.params.toList args.toList ds p := hA0
  rw [Try.params10] at hA hval
  obtain ⟨rfl, rfl⟩ := trodVars_none hV
  obtain ⟨v0, vs0, d0, ds0, p0, q0, hargs, rfl, rfl, h0, r0⟩ := trodAll_cons hA
  obtain ⟨v1, vs1, d1, ds1, p1, q1, rfl, rfl, rfl, h1, r1⟩ := trodAll_cons r0
  obtain ⟨rfl, rfl, rfl⟩ := trodAll_nil r1
  obtain rfl : args = #[v0, v1] := by cases args; simp_all
  obtain ⟨x0n0, x0n1, x0n2, x0n3, x0n4, x0n5, x0n6, x0n7, x0n8, x0n9, x0n10, x0n11, rfl⟩ := open_arr34 Try.underlying41 Try.underlying40 Try.underlying3 cellsInt cellsCyc (by kernel_rfl) (hval 0 41 v0 rfl rfl) h0
  obtain ⟨j1a, j1b, rfl, wj1a, wj1b⟩ := open_arr2 Try.underlying46 Try.underlying3 cellsInt (by kernel_rfl) (hval 1 46 v1 rfl rfl) h1
  refine (ocsteps_true ⟨x0n0, x0n1, x0n2, x0n3⟩ ⟨x0n4, x0n5, x0n6, x0n7⟩ ⟨x0n8, x0n9, x0n10, x0n11⟩ j1a j1b W).mono fun e W' ⟨he, hq⟩ => ?_
  subst he
  refine ⟨_, rfl, law_post laidOut ?_ (by kernel_rfl) Try.underlying4 rfl ?_ hW' hq.below (by rw [Try.params10]; rfl)⟩
  · rw [Try.params10]
    intro t ht
    simp only [List.mem_cons, List.mem_nil_iff, or_false] at ht
    rcases ht with rfl | rfl
    · exact ⟨by kernel_rfl, of_decide_eq_true (by kernel_rfl)⟩
    · exact ⟨by kernel_rfl, of_decide_eq_true (by kernel_rfl)⟩
  · intro ds' hd
    rw [Try.params10] at hd
    match ds', hd with
    | [e0, e1], _ => rfl

set_option maxRecDepth 100000 in
theorem lifted (os : Os) (started : os.Started) (H : Type) (enc : TypeId × Value → H) :
    ReturnsInHanded {} Try.checked os 10 .any (Rows.overcurrentStepsSpec.pre6 enc Try.prog Try.f10 Rows.overcurrentStepsRow.domain false) (Rows.overcurrentStepsSpec.post enc Try.prog Try.f10 false true false false) := by
  refine returnsInHanded_of_change (C := Try.checked) own started (by kernel_rfl) Try.func10
    (ChangeSpec.witness6 (enc := enc) (C := Try.checked) false ⟨#[], #[.agg #[.int .i64 0, .int .i64 0, .int .i64 0, .int .i64 0, .int .i64 0, .int .i64 0, .int .i64 0, .int .i64 0, .int .i64 0, .int .i64 0, .int .i64 0, .int .i64 0], .agg #[.int .i64 0, .int .i64 0]], []⟩ 8 (by kernel_rfl) (by kernel_rfl) (by kernel_rfl) (by kernel_rfl)) ?_
  intro W base args ds gs before hval hW _ _
  exact contract H enc W base args ds gs before hval hW
/-- The statement. -/
theorem said : Rows.OvercurrentStepsSaid :=
  OpenClaim.holds_of_wide 10 Try.f10 rfl rfl rfl rfl rfl rfl rfl ⟨rfl, rfl, rfl, rfl, rfl⟩ rfl rfl rfl rfl rfl (by kernel_rfl) Try.func10 (by kernel_rfl)
    (of_decide_eq_true (by kernel_rfl)) (by unfold Func.isWrapper; first | (rw [if_pos (by decide +kernel)]; kernel_rfl) | (rw [if_neg (by decide +kernel)]; exact ⟨rfl, rfl⟩))
    (fun os started H enc _ => lifted os started H enc)
#print axioms said
end Go.Proofs.Ytkkjifgcjfbcaaa.overcurrentSteps
