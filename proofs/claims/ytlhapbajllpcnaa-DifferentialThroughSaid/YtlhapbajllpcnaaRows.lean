/-
  No cell of these rows narrows 'for every input' (looked for: loops, veiled, ifaces, maps, wideKeys, modest, calm, conditions, laid).
  DERIVED. THE GIVEN ROWS OF THIS SEAT. 11 by the template 'for every input the law returns true; each argument reads behind the call as it read before'; 0 by the template 'total and deterministic' (their statements: YtlhapbajllpcnaaTotals.lean).
  GIVEN WITH THE SEED: the statements are not yours to turn. If you find one false, say at which input.
  Laid BY PROGRAM, IN A SANDBOX (cutbox-rows.mjs): the forced cells as the released guide's own fill.sh prints them over the translation ad7b3674d5bd1023… (all of the seat's roots in one cut). By AI agents, Wed Nov 11 2026. No macro, syntax, notation, axiom, sorry.
-/
import Derived.Test.YtlhapbajllpcnaaChecked
import GoSem.Claim
import GoSem.ClaimJoined
import GoSem.ClaimMapViews
import Derived.JoinedTies
import Derived.KernelRfl
namespace Go.Proofs.Ytlhapbajllpcnaa
/- THE CELL 'sum', in the pinned program and in every row, IS THE sha256 OF THE DUMP (.gsa) THAT YtlhapbajllpcnaaProg.lean LOADS. Nothing in Lean hashes anything: it is a label: what it is worth is what the hold of that sum in a sandbox is worth. -/
noncomputable def Try.pinned : Pinned := { name := "ytlhapbajllpcnaa", sum := "ad7b3674d5bd1023162aabaf5bd126b594881c03bbb537d202feb057787ed9a0", checked := Try.checked }
namespace Rows
def none {H : Type} : Left H := { results := [], args := [] }

/-- 'substationlaw24.OvercurrentElements': WHATEVER THE INPUT: true; the input reads as it did. -/
def overcurrentElementsSpec : ChangeSpec := { name := "overcurrentElements", fn := fun _ => fun
  | [d1, d2] => { results := [.lit (.bool true)], args := [d1, d2] }
  | _ => none }
def overcurrentElementsRow : OpenClaim := { program := "ytlhapbajllpcnaa", sum := "ad7b3674d5bd1023162aabaf5bd126b594881c03bbb537d202feb057787ed9a0", func := "substation/substationlaw24.OvercurrentElements", spec := "overcurrentElements", unfollowed := true, recurses := true, named := ["math/bits.divideError", "math/bits.overflowError"], apart := false }
def OvercurrentElementsSaid : Prop := overcurrentElementsRow.holds Try.pinned (OpenSpec.ofChange overcurrentElementsSpec)

/-- ITS FALSE NEIGHBOUR: 'it returns false'. Refute it at one input. -/
def overcurrentElementsWrong : ChangeSpec := { name := "overcurrentElements", fn := fun _ => fun
  | [d1, d2] => { results := [.lit (.bool false)], args := [d1, d2] }
  | _ => none }
def OvercurrentElementsWrongFalsely : Prop := overcurrentElementsRow.holds Try.pinned (OpenSpec.ofChange overcurrentElementsWrong)

/-- 'substationlaw24.OvercurrentAdvances': WHATEVER THE INPUT: true; the input reads as it did. -/
def overcurrentAdvancesSpec : ChangeSpec := { name := "overcurrentAdvances", fn := fun _ => fun
  | [d1, d2, d3] => { results := [.lit (.bool true)], args := [d1, d2, d3] }
  | _ => none }
def overcurrentAdvancesRow : OpenClaim := { program := "ytlhapbajllpcnaa", sum := "ad7b3674d5bd1023162aabaf5bd126b594881c03bbb537d202feb057787ed9a0", func := "substation/substationlaw24.OvercurrentAdvances", spec := "overcurrentAdvances", unfollowed := true, recurses := true, named := ["math/bits.divideError", "math/bits.overflowError"], apart := false }
def OvercurrentAdvancesSaid : Prop := overcurrentAdvancesRow.holds Try.pinned (OpenSpec.ofChange overcurrentAdvancesSpec)

/-- ITS FALSE NEIGHBOUR: 'it returns false'. Refute it at one input. -/
def overcurrentAdvancesWrong : ChangeSpec := { name := "overcurrentAdvances", fn := fun _ => fun
  | [d1, d2, d3] => { results := [.lit (.bool false)], args := [d1, d2, d3] }
  | _ => none }
def OvercurrentAdvancesWrongFalsely : Prop := overcurrentAdvancesRow.holds Try.pinned (OpenSpec.ofChange overcurrentAdvancesWrong)

/-- 'substationlaw24.OvercurrentSteps': WHATEVER THE INPUT: true; the input reads as it did. -/
def overcurrentStepsSpec : ChangeSpec := { name := "overcurrentSteps", fn := fun _ => fun
  | [d1, d2] => { results := [.lit (.bool true)], args := [d1, d2] }
  | _ => none }
def overcurrentStepsRow : OpenClaim := { program := "ytlhapbajllpcnaa", sum := "ad7b3674d5bd1023162aabaf5bd126b594881c03bbb537d202feb057787ed9a0", func := "substation/substationlaw24.OvercurrentSteps", spec := "overcurrentSteps", unfollowed := true, recurses := true, named := ["math/bits.divideError", "math/bits.overflowError"], apart := false }
def OvercurrentStepsSaid : Prop := overcurrentStepsRow.holds Try.pinned (OpenSpec.ofChange overcurrentStepsSpec)

/-- ITS FALSE NEIGHBOUR: 'it returns false'. Refute it at one input. -/
def overcurrentStepsWrong : ChangeSpec := { name := "overcurrentSteps", fn := fun _ => fun
  | [d1, d2] => { results := [.lit (.bool false)], args := [d1, d2] }
  | _ => none }
def OvercurrentStepsWrongFalsely : Prop := overcurrentStepsRow.holds Try.pinned (OpenSpec.ofChange overcurrentStepsWrong)

/-- 'substationlaw24.OvercurrentProgress': WHATEVER THE INPUT: true; the input reads as it did. -/
def overcurrentProgressSpec : ChangeSpec := { name := "overcurrentProgress", fn := fun _ => fun
  | [d1, d2, d3] => { results := [.lit (.bool true)], args := [d1, d2, d3] }
  | _ => none }
def overcurrentProgressRow : OpenClaim := { program := "ytlhapbajllpcnaa", sum := "ad7b3674d5bd1023162aabaf5bd126b594881c03bbb537d202feb057787ed9a0", func := "substation/substationlaw24.OvercurrentProgress", spec := "overcurrentProgress", unfollowed := true, recurses := true, named := ["math/bits.divideError", "math/bits.overflowError"], apart := false }
def OvercurrentProgressSaid : Prop := overcurrentProgressRow.holds Try.pinned (OpenSpec.ofChange overcurrentProgressSpec)

/-- ITS FALSE NEIGHBOUR: 'it returns false'. Refute it at one input. -/
def overcurrentProgressWrong : ChangeSpec := { name := "overcurrentProgress", fn := fun _ => fun
  | [d1, d2, d3] => { results := [.lit (.bool false)], args := [d1, d2, d3] }
  | _ => none }
def OvercurrentProgressWrongFalsely : Prop := overcurrentProgressRow.holds Try.pinned (OpenSpec.ofChange overcurrentProgressWrong)

/-- 'substationlaw24.OvercurrentMonotone': WHATEVER THE INPUT: true; the input reads as it did. -/
def overcurrentMonotoneSpec : ChangeSpec := { name := "overcurrentMonotone", fn := fun _ => fun
  | [d1, d2] => { results := [.lit (.bool true)], args := [d1, d2] }
  | _ => none }
def overcurrentMonotoneRow : OpenClaim := { program := "ytlhapbajllpcnaa", sum := "ad7b3674d5bd1023162aabaf5bd126b594881c03bbb537d202feb057787ed9a0", func := "substation/substationlaw24.OvercurrentMonotone", spec := "overcurrentMonotone", unfollowed := true, recurses := true, named := ["math/bits.divideError", "math/bits.overflowError"], apart := false }
def OvercurrentMonotoneSaid : Prop := overcurrentMonotoneRow.holds Try.pinned (OpenSpec.ofChange overcurrentMonotoneSpec)

/-- ITS FALSE NEIGHBOUR: 'it returns false'. Refute it at one input. -/
def overcurrentMonotoneWrong : ChangeSpec := { name := "overcurrentMonotone", fn := fun _ => fun
  | [d1, d2] => { results := [.lit (.bool false)], args := [d1, d2] }
  | _ => none }
def OvercurrentMonotoneWrongFalsely : Prop := overcurrentMonotoneRow.holds Try.pinned (OpenSpec.ofChange overcurrentMonotoneWrong)

/-- 'substationlaw24.OvercurrentPhases': WHATEVER THE INPUT: true; the input reads as it did. -/
def overcurrentPhasesSpec : ChangeSpec := { name := "overcurrentPhases", fn := fun _ => fun
  | [d1, d2, d3] => { results := [.lit (.bool true)], args := [d1, d2, d3] }
  | _ => none }
def overcurrentPhasesRow : OpenClaim := { program := "ytlhapbajllpcnaa", sum := "ad7b3674d5bd1023162aabaf5bd126b594881c03bbb537d202feb057787ed9a0", func := "substation/substationlaw24.OvercurrentPhases", spec := "overcurrentPhases", unfollowed := true, recurses := true, named := ["math/bits.divideError", "math/bits.overflowError"], apart := false }
def OvercurrentPhasesSaid : Prop := overcurrentPhasesRow.holds Try.pinned (OpenSpec.ofChange overcurrentPhasesSpec)

/-- ITS FALSE NEIGHBOUR: 'it returns false'. Refute it at one input. -/
def overcurrentPhasesWrong : ChangeSpec := { name := "overcurrentPhases", fn := fun _ => fun
  | [d1, d2, d3] => { results := [.lit (.bool false)], args := [d1, d2, d3] }
  | _ => none }
def OvercurrentPhasesWrongFalsely : Prop := overcurrentPhasesRow.holds Try.pinned (OpenSpec.ofChange overcurrentPhasesWrong)

/-- 'substationlaw23.DifferentialOrder': WHATEVER THE INPUT: true; the input reads as it did. -/
def differentialOrderSpec : ChangeSpec := { name := "differentialOrder", fn := fun _ => fun
  | [d1, d2, d3] => { results := [.lit (.bool true)], args := [d1, d2, d3] }
  | _ => none }
def differentialOrderRow : OpenClaim := { program := "ytlhapbajllpcnaa", sum := "ad7b3674d5bd1023162aabaf5bd126b594881c03bbb537d202feb057787ed9a0", func := "substation/substationlaw23.DifferentialOrder", spec := "differentialOrder", unfollowed := true, recurses := true, apart := false }
def DifferentialOrderSaid : Prop := differentialOrderRow.holds Try.pinned (OpenSpec.ofChange differentialOrderSpec)

/-- ITS FALSE NEIGHBOUR: 'it returns false'. Refute it at one input. -/
def differentialOrderWrong : ChangeSpec := { name := "differentialOrder", fn := fun _ => fun
  | [d1, d2, d3] => { results := [.lit (.bool false)], args := [d1, d2, d3] }
  | _ => none }
def DifferentialOrderWrongFalsely : Prop := differentialOrderRow.holds Try.pinned (OpenSpec.ofChange differentialOrderWrong)

/-- 'substationlaw23.DifferentialThrough': WHATEVER THE INPUT: true; the input reads as it did. -/
def differentialThroughSpec : ChangeSpec := { name := "differentialThrough", fn := fun _ => fun
  | [d1, d2, d3] => { results := [.lit (.bool true)], args := [d1, d2, d3] }
  | _ => none }
def differentialThroughRow : OpenClaim := { program := "ytlhapbajllpcnaa", sum := "ad7b3674d5bd1023162aabaf5bd126b594881c03bbb537d202feb057787ed9a0", func := "substation/substationlaw23.DifferentialThrough", spec := "differentialThrough", unfollowed := true, recurses := true, apart := false }
def DifferentialThroughSaid : Prop := differentialThroughRow.holds Try.pinned (OpenSpec.ofChange differentialThroughSpec)

/-- ITS FALSE NEIGHBOUR: 'it returns false'. Refute it at one input. -/
def differentialThroughWrong : ChangeSpec := { name := "differentialThrough", fn := fun _ => fun
  | [d1, d2, d3] => { results := [.lit (.bool false)], args := [d1, d2, d3] }
  | _ => none }
def DifferentialThroughWrongFalsely : Prop := differentialThroughRow.holds Try.pinned (OpenSpec.ofChange differentialThroughWrong)

/-- 'substationlaw23.DifferentialMonotone': WHATEVER THE INPUT: true; the input reads as it did. -/
def differentialMonotoneSpec : ChangeSpec := { name := "differentialMonotone", fn := fun _ => fun
  | [d1, d2, d3] => { results := [.lit (.bool true)], args := [d1, d2, d3] }
  | _ => none }
def differentialMonotoneRow : OpenClaim := { program := "ytlhapbajllpcnaa", sum := "ad7b3674d5bd1023162aabaf5bd126b594881c03bbb537d202feb057787ed9a0", func := "substation/substationlaw23.DifferentialMonotone", spec := "differentialMonotone", unfollowed := true, recurses := true, apart := false }
def DifferentialMonotoneSaid : Prop := differentialMonotoneRow.holds Try.pinned (OpenSpec.ofChange differentialMonotoneSpec)

/-- ITS FALSE NEIGHBOUR: 'it returns false'. Refute it at one input. -/
def differentialMonotoneWrong : ChangeSpec := { name := "differentialMonotone", fn := fun _ => fun
  | [d1, d2, d3] => { results := [.lit (.bool false)], args := [d1, d2, d3] }
  | _ => none }
def DifferentialMonotoneWrongFalsely : Prop := differentialMonotoneRow.holds Try.pinned (OpenSpec.ofChange differentialMonotoneWrong)

/-- 'substationlaw23.DifferentialBalance': WHATEVER THE INPUT: true; the input reads as it did. -/
def differentialBalanceSpec : ChangeSpec := { name := "differentialBalance", fn := fun _ => fun
  | [d1, d2] => { results := [.lit (.bool true)], args := [d1, d2] }
  | _ => none }
def differentialBalanceRow : OpenClaim := { program := "ytlhapbajllpcnaa", sum := "ad7b3674d5bd1023162aabaf5bd126b594881c03bbb537d202feb057787ed9a0", func := "substation/substationlaw23.DifferentialBalance", spec := "differentialBalance", unfollowed := true, recurses := true, apart := false }
def DifferentialBalanceSaid : Prop := differentialBalanceRow.holds Try.pinned (OpenSpec.ofChange differentialBalanceSpec)

/-- ITS FALSE NEIGHBOUR: 'it returns false'. Refute it at one input. -/
def differentialBalanceWrong : ChangeSpec := { name := "differentialBalance", fn := fun _ => fun
  | [d1, d2] => { results := [.lit (.bool false)], args := [d1, d2] }
  | _ => none }
def DifferentialBalanceWrongFalsely : Prop := differentialBalanceRow.holds Try.pinned (OpenSpec.ofChange differentialBalanceWrong)

/-- 'substationlaw23.DifferentialSingle': WHATEVER THE INPUT: true; the input reads as it did. -/
def differentialSingleSpec : ChangeSpec := { name := "differentialSingle", fn := fun _ => fun
  | [d1, d2, d3] => { results := [.lit (.bool true)], args := [d1, d2, d3] }
  | _ => none }
def differentialSingleRow : OpenClaim := { program := "ytlhapbajllpcnaa", sum := "ad7b3674d5bd1023162aabaf5bd126b594881c03bbb537d202feb057787ed9a0", func := "substation/substationlaw23.DifferentialSingle", spec := "differentialSingle", unfollowed := true, recurses := true, apart := false }
def DifferentialSingleSaid : Prop := differentialSingleRow.holds Try.pinned (OpenSpec.ofChange differentialSingleSpec)

/-- ITS FALSE NEIGHBOUR: 'it returns false'. Refute it at one input. -/
def differentialSingleWrong : ChangeSpec := { name := "differentialSingle", fn := fun _ => fun
  | [d1, d2, d3] => { results := [.lit (.bool false)], args := [d1, d2, d3] }
  | _ => none }
def DifferentialSingleWrongFalsely : Prop := differentialSingleRow.holds Try.pinned (OpenSpec.ofChange differentialSingleWrong)

/- THE SECOND FORM. 'bulk': how many values and letters a reading holds, each counted each time it is reached (what is shared counts as often as it is met; a slice's spare places count too). A statement '..UptoSaid' is the law's where the arguments, and the package variables that the reading takes, are together of bulk at most 1048576: NARROWER than '..Said'. Prove '..Said' where nothing that the law and all that it calls make is longer than what came in: it says more and counts as full. Else prove '..UptoSaid'. A law counts once. -/
mutual
def uptoBulk {H : Type} : DataW H → Nat
  | .lit (.string bytes) => bytes.length + 1
  | .lit _ => 1
  | .nil => 1
  | .ptr d => uptoBulk d + 1
  | .slice elems spare => uptoBulkAll elems + uptoBulkAll spare + 1
  | .agg parts => uptoBulkAll parts + 1
  | .iface _ d => uptoBulk d + 1
  | .map entries => uptoBulkEntries entries + 1
  | .held _ => 1
def uptoBulkAll {H : Type} : List (DataW H) → Nat
  | [] => 0
  | d :: r => uptoBulk d + uptoBulkAll r
def uptoBulkEntries {H : Type} : List (Lit × DataW H) → Nat
  | [] => 0
  | x :: r => uptoBulkEntry x + uptoBulkEntries r
def uptoBulkEntry {H : Type} : Lit × DataW H → Nat
  | (.string bytes, d) => bytes.length + uptoBulk d + 1
  | (_, d) => uptoBulk d + 1
 end
def uptoSmall : (H : Type) → List (DataW H) → Bool := fun _ ds => decide (uptoBulkAll ds ≤ 1048576)
def OpenSpec.upto (s : _root_.Go.ChangeSpec) : _root_.Go.OpenSpec := { _root_.Go.OpenSpec.ofChange s with cond := some uptoSmall }

/-- 'substationlaw24.OvercurrentElements', WHERE WHAT IT READS IS OF BULK AT MOST 1048576: true; the input reads as it did. -/
def overcurrentElementsUptoRow : OpenClaim := { program := "ytlhapbajllpcnaa", sum := "ad7b3674d5bd1023162aabaf5bd126b594881c03bbb537d202feb057787ed9a0", func := "substation/substationlaw24.OvercurrentElements", spec := "overcurrentElements", unfollowed := true, recurses := true, named := ["math/bits.divideError", "math/bits.overflowError"], apart := false, narrowed := true }
def OvercurrentElementsUptoSaid : Prop := overcurrentElementsUptoRow.holds Try.pinned (OpenSpec.upto overcurrentElementsSpec)

/-- 'substationlaw24.OvercurrentAdvances', WHERE WHAT IT READS IS OF BULK AT MOST 1048576: true; the input reads as it did. -/
def overcurrentAdvancesUptoRow : OpenClaim := { program := "ytlhapbajllpcnaa", sum := "ad7b3674d5bd1023162aabaf5bd126b594881c03bbb537d202feb057787ed9a0", func := "substation/substationlaw24.OvercurrentAdvances", spec := "overcurrentAdvances", unfollowed := true, recurses := true, named := ["math/bits.divideError", "math/bits.overflowError"], apart := false, narrowed := true }
def OvercurrentAdvancesUptoSaid : Prop := overcurrentAdvancesUptoRow.holds Try.pinned (OpenSpec.upto overcurrentAdvancesSpec)

/-- 'substationlaw24.OvercurrentSteps', WHERE WHAT IT READS IS OF BULK AT MOST 1048576: true; the input reads as it did. -/
def overcurrentStepsUptoRow : OpenClaim := { program := "ytlhapbajllpcnaa", sum := "ad7b3674d5bd1023162aabaf5bd126b594881c03bbb537d202feb057787ed9a0", func := "substation/substationlaw24.OvercurrentSteps", spec := "overcurrentSteps", unfollowed := true, recurses := true, named := ["math/bits.divideError", "math/bits.overflowError"], apart := false, narrowed := true }
def OvercurrentStepsUptoSaid : Prop := overcurrentStepsUptoRow.holds Try.pinned (OpenSpec.upto overcurrentStepsSpec)

/-- 'substationlaw24.OvercurrentProgress', WHERE WHAT IT READS IS OF BULK AT MOST 1048576: true; the input reads as it did. -/
def overcurrentProgressUptoRow : OpenClaim := { program := "ytlhapbajllpcnaa", sum := "ad7b3674d5bd1023162aabaf5bd126b594881c03bbb537d202feb057787ed9a0", func := "substation/substationlaw24.OvercurrentProgress", spec := "overcurrentProgress", unfollowed := true, recurses := true, named := ["math/bits.divideError", "math/bits.overflowError"], apart := false, narrowed := true }
def OvercurrentProgressUptoSaid : Prop := overcurrentProgressUptoRow.holds Try.pinned (OpenSpec.upto overcurrentProgressSpec)

/-- 'substationlaw24.OvercurrentMonotone', WHERE WHAT IT READS IS OF BULK AT MOST 1048576: true; the input reads as it did. -/
def overcurrentMonotoneUptoRow : OpenClaim := { program := "ytlhapbajllpcnaa", sum := "ad7b3674d5bd1023162aabaf5bd126b594881c03bbb537d202feb057787ed9a0", func := "substation/substationlaw24.OvercurrentMonotone", spec := "overcurrentMonotone", unfollowed := true, recurses := true, named := ["math/bits.divideError", "math/bits.overflowError"], apart := false, narrowed := true }
def OvercurrentMonotoneUptoSaid : Prop := overcurrentMonotoneUptoRow.holds Try.pinned (OpenSpec.upto overcurrentMonotoneSpec)

/-- 'substationlaw24.OvercurrentPhases', WHERE WHAT IT READS IS OF BULK AT MOST 1048576: true; the input reads as it did. -/
def overcurrentPhasesUptoRow : OpenClaim := { program := "ytlhapbajllpcnaa", sum := "ad7b3674d5bd1023162aabaf5bd126b594881c03bbb537d202feb057787ed9a0", func := "substation/substationlaw24.OvercurrentPhases", spec := "overcurrentPhases", unfollowed := true, recurses := true, named := ["math/bits.divideError", "math/bits.overflowError"], apart := false, narrowed := true }
def OvercurrentPhasesUptoSaid : Prop := overcurrentPhasesUptoRow.holds Try.pinned (OpenSpec.upto overcurrentPhasesSpec)

/-- 'substationlaw23.DifferentialOrder', WHERE WHAT IT READS IS OF BULK AT MOST 1048576: true; the input reads as it did. -/
def differentialOrderUptoRow : OpenClaim := { program := "ytlhapbajllpcnaa", sum := "ad7b3674d5bd1023162aabaf5bd126b594881c03bbb537d202feb057787ed9a0", func := "substation/substationlaw23.DifferentialOrder", spec := "differentialOrder", unfollowed := true, recurses := true, apart := false, narrowed := true }
def DifferentialOrderUptoSaid : Prop := differentialOrderUptoRow.holds Try.pinned (OpenSpec.upto differentialOrderSpec)

/-- 'substationlaw23.DifferentialThrough', WHERE WHAT IT READS IS OF BULK AT MOST 1048576: true; the input reads as it did. -/
def differentialThroughUptoRow : OpenClaim := { program := "ytlhapbajllpcnaa", sum := "ad7b3674d5bd1023162aabaf5bd126b594881c03bbb537d202feb057787ed9a0", func := "substation/substationlaw23.DifferentialThrough", spec := "differentialThrough", unfollowed := true, recurses := true, apart := false, narrowed := true }
def DifferentialThroughUptoSaid : Prop := differentialThroughUptoRow.holds Try.pinned (OpenSpec.upto differentialThroughSpec)

/-- 'substationlaw23.DifferentialMonotone', WHERE WHAT IT READS IS OF BULK AT MOST 1048576: true; the input reads as it did. -/
def differentialMonotoneUptoRow : OpenClaim := { program := "ytlhapbajllpcnaa", sum := "ad7b3674d5bd1023162aabaf5bd126b594881c03bbb537d202feb057787ed9a0", func := "substation/substationlaw23.DifferentialMonotone", spec := "differentialMonotone", unfollowed := true, recurses := true, apart := false, narrowed := true }
def DifferentialMonotoneUptoSaid : Prop := differentialMonotoneUptoRow.holds Try.pinned (OpenSpec.upto differentialMonotoneSpec)

/-- 'substationlaw23.DifferentialBalance', WHERE WHAT IT READS IS OF BULK AT MOST 1048576: true; the input reads as it did. -/
def differentialBalanceUptoRow : OpenClaim := { program := "ytlhapbajllpcnaa", sum := "ad7b3674d5bd1023162aabaf5bd126b594881c03bbb537d202feb057787ed9a0", func := "substation/substationlaw23.DifferentialBalance", spec := "differentialBalance", unfollowed := true, recurses := true, apart := false, narrowed := true }
def DifferentialBalanceUptoSaid : Prop := differentialBalanceUptoRow.holds Try.pinned (OpenSpec.upto differentialBalanceSpec)

/-- 'substationlaw23.DifferentialSingle', WHERE WHAT IT READS IS OF BULK AT MOST 1048576: true; the input reads as it did. -/
def differentialSingleUptoRow : OpenClaim := { program := "ytlhapbajllpcnaa", sum := "ad7b3674d5bd1023162aabaf5bd126b594881c03bbb537d202feb057787ed9a0", func := "substation/substationlaw23.DifferentialSingle", spec := "differentialSingle", unfollowed := true, recurses := true, apart := false, narrowed := true }
def DifferentialSingleUptoSaid : Prop := differentialSingleUptoRow.holds Try.pinned (OpenSpec.upto differentialSingleSpec)

end Rows
end Go.Proofs.Ytlhapbajllpcnaa
