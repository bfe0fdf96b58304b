
/- DistanceResidual returns true for every input, and its arguments read behind the call as they read before. -/
import Derived.Test.YtomodppdolfinaaFrP
import Derived.Test.YtomodppdolfinaaLwDsRes
import Derived.Test.YtomodppdolfinaaFlat
namespace Go.Proofs.Ytomodppdolfinaa.distanceResidual
open Go.ChangeShapes Go.WideShapes Go.ChangeAt Go.RowKit Go.Sub Go.Joins
theorem laidOut : laidOutB Try.prog = true := by kernel_rfl

set_option maxRecDepth 100000 in
theorem contract (H : Type) (enc : TypeId × Value → H) (W : World) (base : Nat) (args : Array Value) (ds gs : List (DataW H)) (before : List MemPlace)
    (hval : ∀ (j : Nat) t v, Try.f6.params[j]? = some t → args[j]? = some v → Value.okWide Try.prog W .any base t v)
    (hW : DataW.Whole enc Try.prog Try.f6.params.toList Rows.distanceResidualSpec.vars false W args.toList ds gs before) :
    Calls Try.prog 6 args W fun e W' => ∃ v, e = .returned v ∧ Rows.distanceResidualSpec.post enc Try.prog Try.f6 false true false false W args v W' := by
  have hW' := hW
  obtain ⟨p, q, hA0, hV, rfl, hfz, hnd⟩ := hW
  have hA : DataW.TrodAll enc Try.prog W 0 (fun _ => true) true Try.f6.params.toList args.toList ds p := hA0
  rw [Try.params6] at hA hval
  obtain ⟨rfl, rfl⟩ := trodVars_none hV
  obtain ⟨v0, vs0, d0, ds0, p0, q0, hargs, rfl, rfl, h0, r0⟩ := trodAll_cons hA
  obtain ⟨v1, vs1, d1, ds1, p1, q1, rfl, rfl, rfl, h1, r1⟩ := trodAll_cons r0
  obtain ⟨v2, vs2, d2, ds2, p2, q2, rfl, rfl, rfl, h2, r2⟩ := trodAll_cons r1
  obtain ⟨rfl, rfl, rfl⟩ := trodAll_nil r2
  obtain rfl : args = #[v0, v1, v2] := by cases args; simp_all
  obtain ⟨cs0, rfl, _⟩ := okWide_arr Try.underlying24 (hval 0 24 v0 rfl rfl)
  obtain ⟨fu0, hf0⟩ := h0
  obtain ⟨l0⟩ := cs0
  obtain ⟨x0n0, wx0n0, _, rfl, x0n1, wx0n1, _, rfl, x0n2, wx0n2, _, rfl, x0n3, wx0n3, _, rfl, x0n4, wx0n4, _, rfl, x0n5, wx0n5, _, rfl, x0n6, wx0n6, _, rfl, x0n7, wx0n7, _, rfl, x0n8, wx0n8, _, rfl, x0n9, wx0n9, _, rfl, x0n10, wx0n10, _, rfl, x0n11, wx0n11, _, rfl, rfl⟩ := flat_opens 8 24 [true, true, true, true, true, true, true, true, true, true, true, true] (by kernel_rfl) _ _ _ hf0
  obtain ⟨cs1, rfl, _⟩ := okWide_arr Try.underlying24 (hval 1 24 v1 rfl rfl)
  obtain ⟨fu1, hf1⟩ := h1
  obtain ⟨l1⟩ := cs1
  obtain ⟨x1n0, wx1n0, _, rfl, x1n1, wx1n1, _, rfl, x1n2, wx1n2, _, rfl, x1n3, wx1n3, _, rfl, x1n4, wx1n4, _, rfl, x1n5, wx1n5, _, rfl, x1n6, wx1n6, _, rfl, x1n7, wx1n7, _, rfl, x1n8, wx1n8, _, rfl, x1n9, wx1n9, _, rfl, x1n10, wx1n10, _, rfl, x1n11, wx1n11, _, rfl, rfl⟩ := flat_opens 8 24 [true, true, true, true, true, true, true, true, true, true, true, true] (by kernel_rfl) _ _ _ hf1
  obtain ⟨cs2, rfl, _⟩ := okWide_arr Try.underlying25 (hval 2 25 v2 rfl rfl)
  obtain ⟨fu2, hf2⟩ := h2
  obtain ⟨l2⟩ := cs2
  obtain ⟨x2n0, wx2n0, _, rfl, x2n1, wx2n1, _, rfl, rfl⟩ := flat_opens 8 25 [true, true] (by kernel_rfl) _ _ _ hf2
  refine (res_walk ⟨x0n0, x0n1, x0n2, x0n3⟩ ⟨x0n4, x0n5, x0n6, x0n7⟩ ⟨x0n8, x0n9, x0n10, x0n11⟩ ⟨x1n0, x1n1, x1n2, x1n3⟩ ⟨x1n4, x1n5, x1n6, x1n7⟩ ⟨x1n8, x1n9, x1n10, x1n11⟩ x2n0 x2n1 W).mono fun e W' ⟨he, hq⟩ => ?_
  subst he
  refine ⟨_, rfl, law_post laidOut ?_ (by kernel_rfl) Try.underlying4 rfl ?_ hW' hq.below (by rw [Try.params6]; rfl)⟩
  · rw [Try.params6]
    intro t ht
    simp only [List.mem_cons, List.mem_nil_iff, or_false] at ht
    rcases ht with rfl | rfl | rfl
    · exact ⟨by kernel_rfl, of_decide_eq_true (by kernel_rfl)⟩
    · exact ⟨by kernel_rfl, of_decide_eq_true (by kernel_rfl)⟩
    · exact ⟨by kernel_rfl, of_decide_eq_true (by kernel_rfl)⟩
  · intro ds' hd
    rw [Try.params6] at hd
    match ds', hd with
    | [e0, e1, e2], _ => rfl

set_option maxRecDepth 100000 in
theorem lifted (os : Os) (started : os.Started) (H : Type) (enc : TypeId × Value → H) :
    ReturnsInHanded {} Try.checked os 6 .any (Rows.distanceResidualSpec.pre6 enc Try.prog Try.f6 Rows.distanceResidualRow.domain false) (Rows.distanceResidualSpec.post enc Try.prog Try.f6 false true false false) := by
  refine returnsInHanded_of_change (C := Try.checked) own started (by kernel_rfl) Try.func6
    (ChangeSpec.witness6 (enc := enc) (C := Try.checked) false ⟨#[], #[.agg #[.int .i64 0, .int .i64 0, .int .i64 0, .int .i64 0, .int .i64 0, .int .i64 0, .int .i64 0, .int .i64 0, .int .i64 0, .int .i64 0, .int .i64 0, .int .i64 0], .agg #[.int .i64 0, .int .i64 0, .int .i64 0, .int .i64 0, .int .i64 0, .int .i64 0, .int .i64 0, .int .i64 0, .int .i64 0, .int .i64 0, .int .i64 0, .int .i64 0], .agg #[.int .i64 0, .int .i64 0]], []⟩ 8 (by kernel_rfl) (by kernel_rfl) (by kernel_rfl) (by kernel_rfl)) ?_
  intro W base args ds gs before hval hW _ _
  exact contract H enc W base args ds gs before hval hW
/-- The statement. -/
theorem said : Rows.DistanceResidualSaid :=
  OpenClaim.holds_of_wide 6 Try.f6 rfl rfl rfl rfl rfl rfl rfl ⟨rfl, rfl, rfl, rfl, rfl⟩ rfl rfl rfl rfl rfl (by kernel_rfl) Try.func6 (by kernel_rfl)
    (of_decide_eq_true (by kernel_rfl)) (by unfold Func.isWrapper; first | (rw [if_pos (by decide +kernel)]; kernel_rfl) | (rw [if_neg (by decide +kernel)]; exact ⟨rfl, rfl⟩))
    (fun os started H enc _ => lifted os started H enc)
#print axioms said
end Go.Proofs.Ytomodppdolfinaa.distanceResidual
