/-
  No cell of these rows narrows 'for every input' (looked for: loops, veiled, ifaces, maps, wideKeys, modest, calm, conditions, laid).
  DERIVED. THE GIVEN ROWS OF THIS SEAT. 13 by the template 'for every input the law returns true; each argument reads behind the call as it read before'; 0 by the template 'total and deterministic' (their statements: YtkkjifgcjfbcaaaTotals.lean).
  GIVEN WITH THE SEED: the statements are not yours to turn. If you find one false, say at which input.
  Laid BY PROGRAM, IN A SANDBOX (cutbox-rows.mjs): the forced cells as the released guide's own fill.sh prints them over the translation bca39f9dc319f4bd… (all of the seat's roots in one cut). By AI agents, Wed Nov 11 2026. No macro, syntax, notation, axiom, sorry.
-/
import Derived.Test.YtkkjifgcjfbcaaaChecked
import GoSem.Claim
import GoSem.ClaimJoined
import GoSem.ClaimMapViews
import Derived.JoinedTies
import Derived.KernelRfl
namespace Go.Proofs.Ytkkjifgcjfbcaaa
/- THE CELL 'sum', in the pinned program and in every row, IS THE sha256 OF THE DUMP (.gsa) THAT YtkkjifgcjfbcaaaProg.lean LOADS. Nothing in Lean hashes anything: it is a label: what it is worth is what the hold of that sum in a sandbox is worth. -/
noncomputable def Try.pinned : Pinned := { name := "ytkkjifgcjfbcaaa", sum := "bca39f9dc319f4bd26089c91d3ea4908351ed8430783e7767e24267fd252baca", checked := Try.checked }
namespace Rows
def none {H : Type} : Left H := { results := [], args := [] }

/-- 'substationlaw02.SurdSigns': WHATEVER THE INPUT: true; the input reads as it did. -/
def surdSignsSpec : ChangeSpec := { name := "surdSigns", fn := fun _ => fun
  | [d] => { results := [.lit (.bool true)], args := [d] }
  | _ => none }
def surdSignsRow : OpenClaim := { program := "ytkkjifgcjfbcaaa", sum := "bca39f9dc319f4bd26089c91d3ea4908351ed8430783e7767e24267fd252baca", func := "substation/substationlaw02.SurdSigns", spec := "surdSigns", named := ["math/bits.divideError", "math/bits.overflowError"], apart := false }
def SurdSignsSaid : Prop := surdSignsRow.holds Try.pinned (OpenSpec.ofChange surdSignsSpec)

/-- ITS FALSE NEIGHBOUR: 'it returns false'. Refute it at one input. -/
def surdSignsWrong : ChangeSpec := { name := "surdSigns", fn := fun _ => fun
  | [d] => { results := [.lit (.bool false)], args := [d] }
  | _ => none }
def SurdSignsWrongFalsely : Prop := surdSignsRow.holds Try.pinned (OpenSpec.ofChange surdSignsWrong)

/-- 'substationlaw02.SurdProducts': WHATEVER THE INPUT: true; the input reads as it did. -/
def surdProductsSpec : ChangeSpec := { name := "surdProducts", fn := fun _ => fun
  | [d1, d2] => { results := [.lit (.bool true)], args := [d1, d2] }
  | _ => none }
def surdProductsRow : OpenClaim := { program := "ytkkjifgcjfbcaaa", sum := "bca39f9dc319f4bd26089c91d3ea4908351ed8430783e7767e24267fd252baca", func := "substation/substationlaw02.SurdProducts", spec := "surdProducts", named := ["math/bits.divideError", "math/bits.overflowError"], apart := false }
def SurdProductsSaid : Prop := surdProductsRow.holds Try.pinned (OpenSpec.ofChange surdProductsSpec)

/-- ITS FALSE NEIGHBOUR: 'it returns false'. Refute it at one input. -/
def surdProductsWrong : ChangeSpec := { name := "surdProducts", fn := fun _ => fun
  | [d1, d2] => { results := [.lit (.bool false)], args := [d1, d2] }
  | _ => none }
def SurdProductsWrongFalsely : Prop := surdProductsRow.holds Try.pinned (OpenSpec.ofChange surdProductsWrong)

/-- 'substationlaw02.SurdTotal': WHATEVER THE INPUT: true; the input reads as it did. -/
def surdTotalSpec : ChangeSpec := { name := "surdTotal", fn := fun _ => fun
  | [d1, d2, d3] => { results := [.lit (.bool true)], args := [d1, d2, d3] }
  | _ => none }
def surdTotalRow : OpenClaim := { program := "ytkkjifgcjfbcaaa", sum := "bca39f9dc319f4bd26089c91d3ea4908351ed8430783e7767e24267fd252baca", func := "substation/substationlaw02.SurdTotal", spec := "surdTotal", named := ["math/bits.divideError", "math/bits.overflowError"], apart := false }
def SurdTotalSaid : Prop := surdTotalRow.holds Try.pinned (OpenSpec.ofChange surdTotalSpec)

/-- ITS FALSE NEIGHBOUR: 'it returns false'. Refute it at one input. -/
def surdTotalWrong : ChangeSpec := { name := "surdTotal", fn := fun _ => fun
  | [d1, d2, d3] => { results := [.lit (.bool false)], args := [d1, d2, d3] }
  | _ => none }
def SurdTotalWrongFalsely : Prop := surdTotalRow.holds Try.pinned (OpenSpec.ofChange surdTotalWrong)

/-- 'substationlaw02.SurdMultiplicative': WHATEVER THE INPUT: true; the input reads as it did. -/
def surdMultiplicativeSpec : ChangeSpec := { name := "surdMultiplicative", fn := fun _ => fun
  | [d1, d2] => { results := [.lit (.bool true)], args := [d1, d2] }
  | _ => none }
def surdMultiplicativeRow : OpenClaim := { program := "ytkkjifgcjfbcaaa", sum := "bca39f9dc319f4bd26089c91d3ea4908351ed8430783e7767e24267fd252baca", func := "substation/substationlaw02.SurdMultiplicative", spec := "surdMultiplicative", named := ["math/bits.divideError", "math/bits.overflowError"], apart := false }
def SurdMultiplicativeSaid : Prop := surdMultiplicativeRow.holds Try.pinned (OpenSpec.ofChange surdMultiplicativeSpec)

/-- ITS FALSE NEIGHBOUR: 'it returns false'. Refute it at one input. -/
def surdMultiplicativeWrong : ChangeSpec := { name := "surdMultiplicative", fn := fun _ => fun
  | [d1, d2] => { results := [.lit (.bool false)], args := [d1, d2] }
  | _ => none }
def SurdMultiplicativeWrongFalsely : Prop := surdMultiplicativeRow.holds Try.pinned (OpenSpec.ofChange surdMultiplicativeWrong)

/-- 'substationlaw02.SurdSums': WHATEVER THE INPUT: true; the input reads as it did. -/
def surdSumsSpec : ChangeSpec := { name := "surdSums", fn := fun _ => fun
  | [d1, d2, d3] => { results := [.lit (.bool true)], args := [d1, d2, d3] }
  | _ => none }
def surdSumsRow : OpenClaim := { program := "ytkkjifgcjfbcaaa", sum := "bca39f9dc319f4bd26089c91d3ea4908351ed8430783e7767e24267fd252baca", func := "substation/substationlaw02.SurdSums", spec := "surdSums", named := ["math/bits.divideError", "math/bits.overflowError"], apart := false }
def SurdSumsSaid : Prop := surdSumsRow.holds Try.pinned (OpenSpec.ofChange surdSumsSpec)

/-- ITS FALSE NEIGHBOUR: 'it returns false'. Refute it at one input. -/
def surdSumsWrong : ChangeSpec := { name := "surdSums", fn := fun _ => fun
  | [d1, d2, d3] => { results := [.lit (.bool false)], args := [d1, d2, d3] }
  | _ => none }
def SurdSumsWrongFalsely : Prop := surdSumsRow.holds Try.pinned (OpenSpec.ofChange surdSumsWrong)

/-- 'substationlaw24.OvercurrentElements': WHATEVER THE INPUT: true; the input reads as it did. -/
def overcurrentElementsSpec : ChangeSpec := { name := "overcurrentElements", fn := fun _ => fun
  | [d1, d2] => { results := [.lit (.bool true)], args := [d1, d2] }
  | _ => none }
def overcurrentElementsRow : OpenClaim := { program := "ytkkjifgcjfbcaaa", sum := "bca39f9dc319f4bd26089c91d3ea4908351ed8430783e7767e24267fd252baca", func := "substation/substationlaw24.OvercurrentElements", spec := "overcurrentElements", unfollowed := true, recurses := true, named := ["math/bits.divideError", "math/bits.overflowError"], apart := false }
def OvercurrentElementsSaid : Prop := overcurrentElementsRow.holds Try.pinned (OpenSpec.ofChange overcurrentElementsSpec)

/-- ITS FALSE NEIGHBOUR: 'it returns false'. Refute it at one input. -/
def overcurrentElementsWrong : ChangeSpec := { name := "overcurrentElements", fn := fun _ => fun
  | [d1, d2] => { results := [.lit (.bool false)], args := [d1, d2] }
  | _ => none }
def OvercurrentElementsWrongFalsely : Prop := overcurrentElementsRow.holds Try.pinned (OpenSpec.ofChange overcurrentElementsWrong)

/-- 'substationlaw24.OvercurrentAdvances': WHATEVER THE INPUT: true; the input reads as it did. -/
def overcurrentAdvancesSpec : ChangeSpec := { name := "overcurrentAdvances", fn := fun _ => fun
  | [d1, d2, d3] => { results := [.lit (.bool true)], args := [d1, d2, d3] }
  | _ => none }
def overcurrentAdvancesRow : OpenClaim := { program := "ytkkjifgcjfbcaaa", sum := "bca39f9dc319f4bd26089c91d3ea4908351ed8430783e7767e24267fd252baca", func := "substation/substationlaw24.OvercurrentAdvances", spec := "overcurrentAdvances", unfollowed := true, recurses := true, named := ["math/bits.divideError", "math/bits.overflowError"], apart := false }
def OvercurrentAdvancesSaid : Prop := overcurrentAdvancesRow.holds Try.pinned (OpenSpec.ofChange overcurrentAdvancesSpec)

/-- ITS FALSE NEIGHBOUR: 'it returns false'. Refute it at one input. -/
def overcurrentAdvancesWrong : ChangeSpec := { name := "overcurrentAdvances", fn := fun _ => fun
  | [d1, d2, d3] => { results := [.lit (.bool false)], args := [d1, d2, d3] }
  | _ => none }
def OvercurrentAdvancesWrongFalsely : Prop := overcurrentAdvancesRow.holds Try.pinned (OpenSpec.ofChange overcurrentAdvancesWrong)

/-- 'substationlaw24.OvercurrentSteps': WHATEVER THE INPUT: true; the input reads as it did. -/
def overcurrentStepsSpec : ChangeSpec := { name := "overcurrentSteps", fn := fun _ => fun
  | [d1, d2] => { results := [.lit (.bool true)], args := [d1, d2] }
  | _ => none }
def overcurrentStepsRow : OpenClaim := { program := "ytkkjifgcjfbcaaa", sum := "bca39f9dc319f4bd26089c91d3ea4908351ed8430783e7767e24267fd252baca", func := "substation/substationlaw24.OvercurrentSteps", spec := "overcurrentSteps", unfollowed := true, recurses := true, named := ["math/bits.divideError", "math/bits.overflowError"], apart := false }
def OvercurrentStepsSaid : Prop := overcurrentStepsRow.holds Try.pinned (OpenSpec.ofChange overcurrentStepsSpec)

/-- ITS FALSE NEIGHBOUR: 'it returns false'. Refute it at one input. -/
def overcurrentStepsWrong : ChangeSpec := { name := "overcurrentSteps", fn := fun _ => fun
  | [d1, d2] => { results := [.lit (.bool false)], args := [d1, d2] }
  | _ => none }
def OvercurrentStepsWrongFalsely : Prop := overcurrentStepsRow.holds Try.pinned (OpenSpec.ofChange overcurrentStepsWrong)

/-- 'substationlaw24.OvercurrentProgress': WHATEVER THE INPUT: true; the input reads as it did. -/
def overcurrentProgressSpec : ChangeSpec := { name := "overcurrentProgress", fn := fun _ => fun
  | [d1, d2, d3] => { results := [.lit (.bool true)], args := [d1, d2, d3] }
  | _ => none }
def overcurrentProgressRow : OpenClaim := { program := "ytkkjifgcjfbcaaa", sum := "bca39f9dc319f4bd26089c91d3ea4908351ed8430783e7767e24267fd252baca", func := "substation/substationlaw24.OvercurrentProgress", spec := "overcurrentProgress", unfollowed := true, recurses := true, named := ["math/bits.divideError", "math/bits.overflowError"], apart := false }
def OvercurrentProgressSaid : Prop := overcurrentProgressRow.holds Try.pinned (OpenSpec.ofChange overcurrentProgressSpec)

/-- ITS FALSE NEIGHBOUR: 'it returns false'. Refute it at one input. -/
def overcurrentProgressWrong : ChangeSpec := { name := "overcurrentProgress", fn := fun _ => fun
  | [d1, d2, d3] => { results := [.lit (.bool false)], args := [d1, d2, d3] }
  | _ => none }
def OvercurrentProgressWrongFalsely : Prop := overcurrentProgressRow.holds Try.pinned (OpenSpec.ofChange overcurrentProgressWrong)

/-- 'substationlaw24.OvercurrentMonotone': WHATEVER THE INPUT: true; the input reads as it did. -/
def overcurrentMonotoneSpec : ChangeSpec := { name := "overcurrentMonotone", fn := fun _ => fun
  | [d1, d2] => { results := [.lit (.bool true)], args := [d1, d2] }
  | _ => none }
def overcurrentMonotoneRow : OpenClaim := { program := "ytkkjifgcjfbcaaa", sum := "bca39f9dc319f4bd26089c91d3ea4908351ed8430783e7767e24267fd252baca", func := "substation/substationlaw24.OvercurrentMonotone", spec := "overcurrentMonotone", unfollowed := true, recurses := true, named := ["math/bits.divideError", "math/bits.overflowError"], apart := false }
def OvercurrentMonotoneSaid : Prop := overcurrentMonotoneRow.holds Try.pinned (OpenSpec.ofChange overcurrentMonotoneSpec)

/-- ITS FALSE NEIGHBOUR: 'it returns false'. Refute it at one input. -/
def overcurrentMonotoneWrong : ChangeSpec := { name := "overcurrentMonotone", fn := fun _ => fun
  | [d1, d2] => { results := [.lit (.bool false)], args := [d1, d2] }
  | _ => none }
def OvercurrentMonotoneWrongFalsely : Prop := overcurrentMonotoneRow.holds Try.pinned (OpenSpec.ofChange overcurrentMonotoneWrong)

/-- 'substationlaw24.OvercurrentPhases': WHATEVER THE INPUT: true; the input reads as it did. -/
def overcurrentPhasesSpec : ChangeSpec := { name := "overcurrentPhases", fn := fun _ => fun
  | [d1, d2, d3] => { results := [.lit (.bool true)], args := [d1, d2, d3] }
  | _ => none }
def overcurrentPhasesRow : OpenClaim := { program := "ytkkjifgcjfbcaaa", sum := "bca39f9dc319f4bd26089c91d3ea4908351ed8430783e7767e24267fd252baca", func := "substation/substationlaw24.OvercurrentPhases", spec := "overcurrentPhases", unfollowed := true, recurses := true, named := ["math/bits.divideError", "math/bits.overflowError"], apart := false }
def OvercurrentPhasesSaid : Prop := overcurrentPhasesRow.holds Try.pinned (OpenSpec.ofChange overcurrentPhasesSpec)

/-- ITS FALSE NEIGHBOUR: 'it returns false'. Refute it at one input. -/
def overcurrentPhasesWrong : ChangeSpec := { name := "overcurrentPhases", fn := fun _ => fun
  | [d1, d2, d3] => { results := [.lit (.bool false)], args := [d1, d2, d3] }
  | _ => none }
def OvercurrentPhasesWrongFalsely : Prop := overcurrentPhasesRow.holds Try.pinned (OpenSpec.ofChange overcurrentPhasesWrong)

/-- 'substationlaw02.SurdOrder': WHATEVER THE INPUT: true; the input reads as it did. -/
def surdOrderSpec : ChangeSpec := { name := "surdOrder", fn := fun _ => fun
  | [d1, d2, d3] => { results := [.lit (.bool true)], args := [d1, d2, d3] }
  | _ => none }
def surdOrderRow : OpenClaim := { program := "ytkkjifgcjfbcaaa", sum := "bca39f9dc319f4bd26089c91d3ea4908351ed8430783e7767e24267fd252baca", func := "substation/substationlaw02.SurdOrder", spec := "surdOrder", named := ["math/bits.divideError", "math/bits.overflowError"], apart := false }
def SurdOrderSaid : Prop := surdOrderRow.holds Try.pinned (OpenSpec.ofChange surdOrderSpec)

/-- ITS FALSE NEIGHBOUR: 'it returns false'. Refute it at one input. -/
def surdOrderWrong : ChangeSpec := { name := "surdOrder", fn := fun _ => fun
  | [d1, d2, d3] => { results := [.lit (.bool false)], args := [d1, d2, d3] }
  | _ => none }
def SurdOrderWrongFalsely : Prop := surdOrderRow.holds Try.pinned (OpenSpec.ofChange surdOrderWrong)

/-- 'substationlaw02.SurdVersus': WHATEVER THE INPUT: true; the input reads as it did. -/
def surdVersusSpec : ChangeSpec := { name := "surdVersus", fn := fun _ => fun
  | [d1, d2, d3] => { results := [.lit (.bool true)], args := [d1, d2, d3] }
  | _ => none }
def surdVersusRow : OpenClaim := { program := "ytkkjifgcjfbcaaa", sum := "bca39f9dc319f4bd26089c91d3ea4908351ed8430783e7767e24267fd252baca", func := "substation/substationlaw02.SurdVersus", spec := "surdVersus", named := ["math/bits.divideError", "math/bits.overflowError"], apart := false }
def SurdVersusSaid : Prop := surdVersusRow.holds Try.pinned (OpenSpec.ofChange surdVersusSpec)

/-- ITS FALSE NEIGHBOUR: 'it returns false'. Refute it at one input. -/
def surdVersusWrong : ChangeSpec := { name := "surdVersus", fn := fun _ => fun
  | [d1, d2, d3] => { results := [.lit (.bool false)], args := [d1, d2, d3] }
  | _ => none }
def SurdVersusWrongFalsely : Prop := surdVersusRow.holds Try.pinned (OpenSpec.ofChange surdVersusWrong)

/- THE SECOND FORM. 'bulk': how many values and letters a reading holds, each counted each time it is reached (what is shared counts as often as it is met; a slice's spare places count too). A statement '..UptoSaid' is the law's where the arguments, and the package variables that the reading takes, are together of bulk at most 1048576: NARROWER than '..Said'. Prove '..Said' where nothing that the law and all that it calls make is longer than what came in: it says more and counts as full. Else prove '..UptoSaid'. A law counts once. -/
mutual
def uptoBulk {H : Type} : DataW H → Nat
  | .lit (.string bytes) => bytes.length + 1
  | .lit _ => 1
  | .nil => 1
  | .ptr d => uptoBulk d + 1
  | .slice elems spare => uptoBulkAll elems + uptoBulkAll spare + 1
  | .agg parts => uptoBulkAll parts + 1
  | .iface _ d => uptoBulk d + 1
  | .map entries => uptoBulkEntries entries + 1
  | .held _ => 1
def uptoBulkAll {H : Type} : List (DataW H) → Nat
  | [] => 0
  | d :: r => uptoBulk d + uptoBulkAll r
def uptoBulkEntries {H : Type} : List (Lit × DataW H) → Nat
  | [] => 0
  | x :: r => uptoBulkEntry x + uptoBulkEntries r
def uptoBulkEntry {H : Type} : Lit × DataW H → Nat
  | (.string bytes, d) => bytes.length + uptoBulk d + 1
  | (_, d) => uptoBulk d + 1
 end
def uptoSmall : (H : Type) → List (DataW H) → Bool := fun _ ds => decide (uptoBulkAll ds ≤ 1048576)
def OpenSpec.upto (s : _root_.Go.ChangeSpec) : _root_.Go.OpenSpec := { _root_.Go.OpenSpec.ofChange s with cond := some uptoSmall }

/-- 'substationlaw02.SurdSigns', WHERE WHAT IT READS IS OF BULK AT MOST 1048576: true; the input reads as it did. -/
def surdSignsUptoRow : OpenClaim := { program := "ytkkjifgcjfbcaaa", sum := "bca39f9dc319f4bd26089c91d3ea4908351ed8430783e7767e24267fd252baca", func := "substation/substationlaw02.SurdSigns", spec := "surdSigns", named := ["math/bits.divideError", "math/bits.overflowError"], apart := false, narrowed := true }
def SurdSignsUptoSaid : Prop := surdSignsUptoRow.holds Try.pinned (OpenSpec.upto surdSignsSpec)

/-- 'substationlaw02.SurdProducts', WHERE WHAT IT READS IS OF BULK AT MOST 1048576: true; the input reads as it did. -/
def surdProductsUptoRow : OpenClaim := { program := "ytkkjifgcjfbcaaa", sum := "bca39f9dc319f4bd26089c91d3ea4908351ed8430783e7767e24267fd252baca", func := "substation/substationlaw02.SurdProducts", spec := "surdProducts", named := ["math/bits.divideError", "math/bits.overflowError"], apart := false, narrowed := true }
def SurdProductsUptoSaid : Prop := surdProductsUptoRow.holds Try.pinned (OpenSpec.upto surdProductsSpec)

/-- 'substationlaw02.SurdTotal', WHERE WHAT IT READS IS OF BULK AT MOST 1048576: true; the input reads as it did. -/
def surdTotalUptoRow : OpenClaim := { program := "ytkkjifgcjfbcaaa", sum := "bca39f9dc319f4bd26089c91d3ea4908351ed8430783e7767e24267fd252baca", func := "substation/substationlaw02.SurdTotal", spec := "surdTotal", named := ["math/bits.divideError", "math/bits.overflowError"], apart := false, narrowed := true }
def SurdTotalUptoSaid : Prop := surdTotalUptoRow.holds Try.pinned (OpenSpec.upto surdTotalSpec)

/-- 'substationlaw02.SurdMultiplicative', WHERE WHAT IT READS IS OF BULK AT MOST 1048576: true; the input reads as it did. -/
def surdMultiplicativeUptoRow : OpenClaim := { program := "ytkkjifgcjfbcaaa", sum := "bca39f9dc319f4bd26089c91d3ea4908351ed8430783e7767e24267fd252baca", func := "substation/substationlaw02.SurdMultiplicative", spec := "surdMultiplicative", named := ["math/bits.divideError", "math/bits.overflowError"], apart := false, narrowed := true }
def SurdMultiplicativeUptoSaid : Prop := surdMultiplicativeUptoRow.holds Try.pinned (OpenSpec.upto surdMultiplicativeSpec)

/-- 'substationlaw02.SurdSums', WHERE WHAT IT READS IS OF BULK AT MOST 1048576: true; the input reads as it did. -/
def surdSumsUptoRow : OpenClaim := { program := "ytkkjifgcjfbcaaa", sum := "bca39f9dc319f4bd26089c91d3ea4908351ed8430783e7767e24267fd252baca", func := "substation/substationlaw02.SurdSums", spec := "surdSums", named := ["math/bits.divideError", "math/bits.overflowError"], apart := false, narrowed := true }
def SurdSumsUptoSaid : Prop := surdSumsUptoRow.holds Try.pinned (OpenSpec.upto surdSumsSpec)

/-- 'substationlaw24.OvercurrentElements', WHERE WHAT IT READS IS OF BULK AT MOST 1048576: true; the input reads as it did. -/
def overcurrentElementsUptoRow : OpenClaim := { program := "ytkkjifgcjfbcaaa", sum := "bca39f9dc319f4bd26089c91d3ea4908351ed8430783e7767e24267fd252baca", func := "substation/substationlaw24.OvercurrentElements", spec := "overcurrentElements", unfollowed := true, recurses := true, named := ["math/bits.divideError", "math/bits.overflowError"], apart := false, narrowed := true }
def OvercurrentElementsUptoSaid : Prop := overcurrentElementsUptoRow.holds Try.pinned (OpenSpec.upto overcurrentElementsSpec)

/-- 'substationlaw24.OvercurrentAdvances', WHERE WHAT IT READS IS OF BULK AT MOST 1048576: true; the input reads as it did. -/
def overcurrentAdvancesUptoRow : OpenClaim := { program := "ytkkjifgcjfbcaaa", sum := "bca39f9dc319f4bd26089c91d3ea4908351ed8430783e7767e24267fd252baca", func := "substation/substationlaw24.OvercurrentAdvances", spec := "overcurrentAdvances", unfollowed := true, recurses := true, named := ["math/bits.divideError", "math/bits.overflowError"], apart := false, narrowed := true }
def OvercurrentAdvancesUptoSaid : Prop := overcurrentAdvancesUptoRow.holds Try.pinned (OpenSpec.upto overcurrentAdvancesSpec)

/-- 'substationlaw24.OvercurrentSteps', WHERE WHAT IT READS IS OF BULK AT MOST 1048576: true; the input reads as it did. -/
def overcurrentStepsUptoRow : OpenClaim := { program := "ytkkjifgcjfbcaaa", sum := "bca39f9dc319f4bd26089c91d3ea4908351ed8430783e7767e24267fd252baca", func := "substation/substationlaw24.OvercurrentSteps", spec := "overcurrentSteps", unfollowed := true, recurses := true, named := ["math/bits.divideError", "math/bits.overflowError"], apart := false, narrowed := true }
def OvercurrentStepsUptoSaid : Prop := overcurrentStepsUptoRow.holds Try.pinned (OpenSpec.upto overcurrentStepsSpec)

/-- 'substationlaw24.OvercurrentProgress', WHERE WHAT IT READS IS OF BULK AT MOST 1048576: true; the input reads as it did. -/
def overcurrentProgressUptoRow : OpenClaim := { program := "ytkkjifgcjfbcaaa", sum := "bca39f9dc319f4bd26089c91d3ea4908351ed8430783e7767e24267fd252baca", func := "substation/substationlaw24.OvercurrentProgress", spec := "overcurrentProgress", unfollowed := true, recurses := true, named := ["math/bits.divideError", "math/bits.overflowError"], apart := false, narrowed := true }
def OvercurrentProgressUptoSaid : Prop := overcurrentProgressUptoRow.holds Try.pinned (OpenSpec.upto overcurrentProgressSpec)

/-- 'substationlaw24.OvercurrentMonotone', WHERE WHAT IT READS IS OF BULK AT MOST 1048576: true; the input reads as it did. -/
def overcurrentMonotoneUptoRow : OpenClaim := { program := "ytkkjifgcjfbcaaa", sum := "bca39f9dc319f4bd26089c91d3ea4908351ed8430783e7767e24267fd252baca", func := "substation/substationlaw24.OvercurrentMonotone", spec := "overcurrentMonotone", unfollowed := true, recurses := true, named := ["math/bits.divideError", "math/bits.overflowError"], apart := false, narrowed := true }
def OvercurrentMonotoneUptoSaid : Prop := overcurrentMonotoneUptoRow.holds Try.pinned (OpenSpec.upto overcurrentMonotoneSpec)

/-- 'substationlaw24.OvercurrentPhases', WHERE WHAT IT READS IS OF BULK AT MOST 1048576: true; the input reads as it did. -/
def overcurrentPhasesUptoRow : OpenClaim := { program := "ytkkjifgcjfbcaaa", sum := "bca39f9dc319f4bd26089c91d3ea4908351ed8430783e7767e24267fd252baca", func := "substation/substationlaw24.OvercurrentPhases", spec := "overcurrentPhases", unfollowed := true, recurses := true, named := ["math/bits.divideError", "math/bits.overflowError"], apart := false, narrowed := true }
def OvercurrentPhasesUptoSaid : Prop := overcurrentPhasesUptoRow.holds Try.pinned (OpenSpec.upto overcurrentPhasesSpec)

/-- 'substationlaw02.SurdOrder', WHERE WHAT IT READS IS OF BULK AT MOST 1048576: true; the input reads as it did. -/
def surdOrderUptoRow : OpenClaim := { program := "ytkkjifgcjfbcaaa", sum := "bca39f9dc319f4bd26089c91d3ea4908351ed8430783e7767e24267fd252baca", func := "substation/substationlaw02.SurdOrder", spec := "surdOrder", named := ["math/bits.divideError", "math/bits.overflowError"], apart := false, narrowed := true }
def SurdOrderUptoSaid : Prop := surdOrderUptoRow.holds Try.pinned (OpenSpec.upto surdOrderSpec)

/-- 'substationlaw02.SurdVersus', WHERE WHAT IT READS IS OF BULK AT MOST 1048576: true; the input reads as it did. -/
def surdVersusUptoRow : OpenClaim := { program := "ytkkjifgcjfbcaaa", sum := "bca39f9dc319f4bd26089c91d3ea4908351ed8430783e7767e24267fd252baca", func := "substation/substationlaw02.SurdVersus", spec := "surdVersus", named := ["math/bits.divideError", "math/bits.overflowError"], apart := false, narrowed := true }
def SurdVersusUptoSaid : Prop := surdVersusUptoRow.holds Try.pinned (OpenSpec.upto surdVersusSpec)

end Rows
end Go.Proofs.Ytkkjifgcjfbcaaa
