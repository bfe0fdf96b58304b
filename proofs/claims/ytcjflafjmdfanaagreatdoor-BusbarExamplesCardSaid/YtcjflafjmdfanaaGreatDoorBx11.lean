
/- BusbarExamples returns true for every input, and its arguments read behind the call as they read before. -/
import Derived.Test.YtcjflafjmdfanaaGreatDoorBx01
import Derived.Test.YtcjflafjmdfanaaGreatDoorBx09
import Derived.Test.YtcjflafjmdfanaaGreatDoorBx04
import Derived.Test.YtcjflafjmdfanaaGreatDoorBx10
import Derived.Test.YtcjflafjmdfanaaGreatDoorCards
import Derived.Test.YtcjflafjmdfanaaGreatDoorTie
import Derived.Test.YtcjflafjmdfanaaGreatDoorBv10
set_option maxRecDepth 100000
set_option linter.unusedSimpArgs false
set_option linter.unusedVariables false
namespace Go.Proofs.YtcjflafjmdfanaaGreatDoor.busbarExamples
open Go.ChangeShapes Go.WideShapes Go.ChangeAt Go.RowKit Go.Sub
theorem contract (H : Type) (enc : TypeId × Value → H) (W : World) (base : Nat) (args : Array Value) (ds gs : List (DataW H)) (before : List MemPlace)
  (hval : ∀ (j : Nat) t v, Tryz.f6.params[j]? = some t → args[j]? = some v → Value.okWide Tryz.prog W .any base t v)
  (hW : DataW.Whole enc Tryz.prog Tryz.f6.params.toList Rows.busbarExamplesSpec.vars false W args.toList ds gs before) (hL : laidMetH Tryz.prog Rows.busbarExamplesRow.laid W) :
  Calls Tryz.prog 6 args W fun e W' => ∃ v, e = .returned v ∧ Rows.busbarExamplesSpec.post enc Tryz.prog Tryz.f6 false true false false W args v W' := by
 have hW' := hW
 obtain ⟨p, q, hA0, hV, rfl, hfz, hnd⟩ := hW
 have hA : DataW.TrodAll enc Tryz.prog W 0 (fun _ => true) true Tryz.f6.params.toList args.toList ds p := hA0
 rw [Tryz.params6] at hA hval
 obtain ⟨rfl, rfl⟩ := trodVars_none hV
 obtain ⟨hargs, rfl, rfl⟩ := trodAll_nil hA
 obtain rfl : args = #[] := by cases args; simp_all
 refine (examples_walk W (roots_of_laid hL)).mono fun e W' ⟨he, hq⟩ => ?_
 subst he
 refine ⟨_, rfl, law_post laidOut ?_ (by kernel_rfl) Tryz.underlying4 rfl ?_ hW' hq.below (by rw [Tryz.params6]; rfl)⟩
 ·rw [Tryz.params6]
  intro t ht
  exact absurd ht (by simp)
 intro ds' hd
 rw [Tryz.params6] at hd
 match ds', hd with
 | [], _ => rfl
theorem laid_met (os : Os) : laidMet Tryz.prog Rows.busbarExamplesRow.laid ((laidWorld os).forCall (fun _ _ => 0) ⟨#[], #[], []⟩).memory :=
 laidMet_of_run' 8 (by kernel_rfl) (by kernel_rfl)
theorem reads (os : Os) {H : Type} (enc : TypeId × Value → H) : ∃ places, DataW.whole enc Tryz.prog ((laidWorld os).forCall (fun _ _ => 0) ⟨#[], #[], []⟩).memory Tryz.f6.params.toList Rows.busbarExamplesSpec.vars false (#[] : Array Value).toList 8 = some ([], [], places) :=
 ⟨[], by kernel_rfl⟩
theorem lifted (os : Os) (started : os.Started) (H : Type) (enc : TypeId × Value → H) (F : Stop.Interp) :
  ReturnsInHanded {} Tryz.checked os 6 .any ((OpenSpec.ofChange Rows.busbarExamplesSpec).preRow enc Tryz.prog Tryz.f6 Rows.busbarExamplesRow.domain false Rows.busbarExamplesRow.laid) (((OpenSpec.ofChange Rows.busbarExamplesSpec).at F).post enc Tryz.prog Tryz.f6 false true false false) := by
 obtain ⟨places, hx⟩ := reads os enc
 refine returnsInHanded_of_row (C := Tryz.checked) (s := OpenSpec.ofChange Rows.busbarExamplesSpec) own started (by kernel_rfl) Tryz.func6
  (witness_row_at (enc := enc) (C := Tryz.checked) false (laidWorld os) #[] rfl (by kernel_rfl) (by kernel_rfl) (by kernel_rfl)
   (OpenSpec.preRow_of_cond 8 hx (by kernel_rfl) (fun k hk => by cases hk) (by kernel_rfl) (laid_met os))) ?_
 intro W base args ds gs before hval hW _ _ _ hL _ _
 exact contract H enc W base args ds gs before hval hW hL
theorem said : Rows.BusbarExamplesSaid :=
 OpenClaim.holds_of_cond 6 Tryz.f6 rfl rfl rfl rfl rfl rfl rfl ⟨rfl, rfl, rfl, rfl, rfl⟩ rfl rfl rfl rfl rfl (by kernel_rfl) Tryz.func6 (by kernel_rfl)
  (of_decide_eq_true (by kernel_rfl)) (by unfold Func.isWrapper; first | (rw [if_pos (by decide +kernel)]; kernel_rfl) | (rw [if_neg (by decide +kernel)]; exact ⟨rfl, rfl⟩))
  (fun os started H enc _ F => by rw [OpenClaim.pre_eq_preRow]; exact lifted os started H enc F)
theorem plain (f : FuncId) (fn : Func) (hf : Tryz.pinned.checked.prog.funcNamed "substation/substationlaw34.BusbarExamples" = some f) (hfn : Tryz.pinned.checked.prog.funcs[f]? = some fn) :
  false = Tryz.pinned.checked.prog.looks [] ∧ ∀ (j : Nat) t, fn.params[j]? = some t → Tryz.pinned.checked.prog.wantsStandIn t = false := by
 obtain rfl : f = 6 := Option.some.inj ((show Tryz.prog.funcNamed "substation/substationlaw34.BusbarExamples" = some 6 by kernel_rfl).symm.trans hf) |>.symm
 obtain rfl : fn = Tryz.f6 := (Option.some.inj (Tryz.func6.symm.trans hfn)).symm
 refine ⟨by kernel_rfl, fun j t ht => ?_⟩
 rw [Tryz.params6] at ht
 simp at ht
theorem card : Rows.BusbarExamplesCardSaid :=
 Claim7.holds_tied_plain_at .later [] _ _ _ _ said (fun _ h => by cases h) (by kernel_rfl) (fun _ h => by cases h) busbarExamples_row_tie rfl ⟨rfl, rfl⟩ (by kernel_rfl) rfl plain (by kernel_rfl)
#print axioms card
end Go.Proofs.YtcjflafjmdfanaaGreatDoor.busbarExamples
