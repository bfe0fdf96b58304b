
/- OvercurrentPhases returns true for every input, and its arguments read behind the call as they read before. -/
import Derived.Test.YtkkjifgcjfbcaaaFrP
import Derived.Test.YtkkjifgcjfbcaaaFrO
import Derived.Test.YtkkjifgcjfbcaaaLwOcPhases
namespace Go.Proofs.Ytkkjifgcjfbcaaa.overcurrentPhases
open Go.ChangeShapes Go.WideShapes Go.ChangeAt Go.RowKit Go.Sub Go.Joins
theorem laidOut : laidOutB Try.prog = true := by kernel_rfl

set_option maxRecDepth 100000 in
theorem contract (H : Type) (enc : TypeId × Value → H) (W : World) (base : Nat) (args : Array Value) (ds gs : List (DataW H)) (before : List MemPlace)
    (hval : ∀ (j : Nat) t v, Try.f13.params[j]? = some t → args[j]? = some v → Value.okWide Try.prog W .any base t v)
    (hW : DataW.Whole enc Try.prog Try.f13.params.toList Rows.overcurrentPhasesSpec.vars false W args.toList ds gs before) :
    Calls Try.prog 13 args W fun e W' => ∃ v, e = .returned v ∧ Rows.overcurrentPhasesSpec.post enc Try.prog Try.f13 false true false false W args v W' := by
  have hW' := hW
  obtain ⟨p, q, hA0, hV, rfl, hfz, hnd⟩ := hW
  have hA : DataW.TrodAll enc Try.prog W 0 (fun _ => true) true Try.f13.params.toList args.toList ds p := hA0
  rw [Try.params13] at hA hval
  obtain ⟨rfl, rfl⟩ := trodVars_none hV
  obtain ⟨v0, vs0, d0, ds0, p0, q0, hargs, rfl, rfl, h0, r0⟩ := trodAll_cons hA
  obtain ⟨v1, vs1, d1, ds1, p1, q1, rfl, rfl, rfl, h1, r1⟩ := trodAll_cons r0
  obtain ⟨v2, vs2, d2, ds2, p2, q2, rfl, rfl, rfl, h2, r2⟩ := trodAll_cons r1
  obtain ⟨rfl, rfl, rfl⟩ := trodAll_nil r2
  obtain rfl : args = #[v0, v1, v2] := by cases args; simp_all
  obtain ⟨x0n0, x0n1, x0n2, x0n3, x0n4, x0n5, x0n6, x0n7, x0n8, x0n9, x0n10, x0n11, rfl⟩ := open_arr34 Try.underlying41 Try.underlying40 Try.underlying3 cellsInt cellsCyc (by kernel_rfl) (hval 0 41 v0 rfl rfl) h0
  obtain ⟨n1, rfl, _, _, wf1⟩ := open_int Try.underlying3 (hval 1 3 v1 rfl rfl) h1
  obtain ⟨n2, rfl, _, _, wf2⟩ := open_int Try.underlying3 (hval 2 3 v2 rfl rfl) h2
  refine (ocphases_true ⟨x0n0, x0n1, x0n2, x0n3⟩ ⟨x0n4, x0n5, x0n6, x0n7⟩ ⟨x0n8, x0n9, x0n10, x0n11⟩ n1 n2 W (wf_i64 wf1) (wf_i64 wf2)).mono fun e W' ⟨he, hq⟩ => ?_
  subst he
  refine ⟨_, rfl, law_post laidOut ?_ (by kernel_rfl) Try.underlying4 rfl ?_ hW' hq.below (by rw [Try.params13]; rfl)⟩
  · rw [Try.params13]
    intro t ht
    simp only [List.mem_cons, List.mem_nil_iff, or_false] at ht
    rcases ht with rfl | rfl | rfl
    · exact ⟨by kernel_rfl, of_decide_eq_true (by kernel_rfl)⟩
    · exact ⟨by kernel_rfl, of_decide_eq_true (by kernel_rfl)⟩
    · exact ⟨by kernel_rfl, of_decide_eq_true (by kernel_rfl)⟩
  · intro ds' hd
    rw [Try.params13] at hd
    match ds', hd with
    | [e0, e1, e2], _ => rfl

set_option maxRecDepth 100000 in
theorem lifted (os : Os) (started : os.Started) (H : Type) (enc : TypeId × Value → H) :
    ReturnsInHanded {} Try.checked os 13 .any (Rows.overcurrentPhasesSpec.pre6 enc Try.prog Try.f13 Rows.overcurrentPhasesRow.domain false) (Rows.overcurrentPhasesSpec.post enc Try.prog Try.f13 false true false false) := by
  refine returnsInHanded_of_change (C := Try.checked) own started (by kernel_rfl) Try.func13
    (ChangeSpec.witness6 (enc := enc) (C := Try.checked) false ⟨#[], #[.agg #[.int .i64 0, .int .i64 0, .int .i64 0, .int .i64 0, .int .i64 0, .int .i64 0, .int .i64 0, .int .i64 0, .int .i64 0, .int .i64 0, .int .i64 0, .int .i64 0], .int .i64 0, .int .i64 0], []⟩ 8 (by kernel_rfl) (by kernel_rfl) (by kernel_rfl) (by kernel_rfl)) ?_
  intro W base args ds gs before hval hW _ _
  exact contract H enc W base args ds gs before hval hW
/-- The statement. -/
theorem said : Rows.OvercurrentPhasesSaid :=
  OpenClaim.holds_of_wide 13 Try.f13 rfl rfl rfl rfl rfl rfl rfl ⟨rfl, rfl, rfl, rfl, rfl⟩ rfl rfl rfl rfl rfl (by kernel_rfl) Try.func13 (by kernel_rfl)
    (of_decide_eq_true (by kernel_rfl)) (by unfold Func.isWrapper; first | (rw [if_pos (by decide +kernel)]; kernel_rfl) | (rw [if_neg (by decide +kernel)]; exact ⟨rfl, rfl⟩))
    (fun os started H enc _ => lifted os started H enc)
#print axioms said
end Go.Proofs.Ytkkjifgcjfbcaaa.overcurrentPhases
