/-
  No cell of these rows narrows 'for every input' (looked for: loops, veiled, ifaces, maps, wideKeys, modest, calm, conditions, laid).
  DERIVED. THE GIVEN ROWS OF THIS SEAT. 7 by the template 'for every input the law returns true; each argument reads behind the call as it read before'; 0 by the template 'total and deterministic' (their statements: YtomodppdolfinaaTotals.lean).
  GIVEN WITH THE SEED: the statements are not yours to turn. If you find one false, say at which input.
  Laid BY PROGRAM, IN A SANDBOX (cutbox-rows.mjs): the forced cells as the released guide's own fill.sh prints them over the translation 1f1b78ac60e92228… (all of the seat's roots in one cut). By AI agents, Wed Nov 11 2026. No macro, syntax, notation, axiom, sorry.
-/
import Derived.Test.YtomodppdolfinaaChecked
import GoSem.Claim
import GoSem.ClaimJoined
import GoSem.ClaimMapViews
import Derived.JoinedTies
import Derived.KernelRfl
namespace Go.Proofs.Ytomodppdolfinaa
/- THE CELL 'sum', in the pinned program and in every row, IS THE sha256 OF THE DUMP (.gsa) THAT YtomodppdolfinaaProg.lean LOADS. Nothing in Lean hashes anything: it is a label: what it is worth is what the hold of that sum in a sandbox is worth. -/
noncomputable def Try.pinned : Pinned := { name := "ytomodppdolfinaa", sum := "1f1b78ac60e92228feb77e229aca9e5dbbfa3134c918cc4cc5dc0b673cb3cbb0", checked := Try.checked }
namespace Rows
def none {H : Type} : Left H := { results := [], args := [] }

/-- 'substationlaw24.OvercurrentAdvances': WHATEVER THE INPUT: true; the input reads as it did. -/
def overcurrentAdvancesSpec : ChangeSpec := { name := "overcurrentAdvances", fn := fun _ => fun
  | [d1, d2, d3] => { results := [.lit (.bool true)], args := [d1, d2, d3] }
  | _ => none }
def overcurrentAdvancesRow : OpenClaim := { program := "ytomodppdolfinaa", sum := "1f1b78ac60e92228feb77e229aca9e5dbbfa3134c918cc4cc5dc0b673cb3cbb0", func := "substation/substationlaw24.OvercurrentAdvances", spec := "overcurrentAdvances", unfollowed := true, recurses := true, named := ["math/bits.divideError", "math/bits.overflowError"], apart := false }
def OvercurrentAdvancesSaid : Prop := overcurrentAdvancesRow.holds Try.pinned (OpenSpec.ofChange overcurrentAdvancesSpec)

/-- ITS FALSE NEIGHBOUR: 'it returns false'. Refute it at one input. -/
def overcurrentAdvancesWrong : ChangeSpec := { name := "overcurrentAdvances", fn := fun _ => fun
  | [d1, d2, d3] => { results := [.lit (.bool false)], args := [d1, d2, d3] }
  | _ => none }
def OvercurrentAdvancesWrongFalsely : Prop := overcurrentAdvancesRow.holds Try.pinned (OpenSpec.ofChange overcurrentAdvancesWrong)

/-- 'substationlaw22.DistanceImpedance': WHATEVER THE INPUT: true; the input reads as it did. -/
def distanceImpedanceSpec : ChangeSpec := { name := "distanceImpedance", fn := fun _ => fun
  | [d] => { results := [.lit (.bool true)], args := [d] }
  | _ => none }
def distanceImpedanceRow : OpenClaim := { program := "ytomodppdolfinaa", sum := "1f1b78ac60e92228feb77e229aca9e5dbbfa3134c918cc4cc5dc0b673cb3cbb0", func := "substation/substationlaw22.DistanceImpedance", spec := "distanceImpedance", unfollowed := true, recurses := true, apart := false }
def DistanceImpedanceSaid : Prop := distanceImpedanceRow.holds Try.pinned (OpenSpec.ofChange distanceImpedanceSpec)

/-- ITS FALSE NEIGHBOUR: 'it returns false'. Refute it at one input. -/
def distanceImpedanceWrong : ChangeSpec := { name := "distanceImpedance", fn := fun _ => fun
  | [d] => { results := [.lit (.bool false)], args := [d] }
  | _ => none }
def DistanceImpedanceWrongFalsely : Prop := distanceImpedanceRow.holds Try.pinned (OpenSpec.ofChange distanceImpedanceWrong)

/-- 'substationlaw22.DistanceDirections': WHATEVER THE INPUT: true; the input reads as it did. -/
def distanceDirectionsSpec : ChangeSpec := { name := "distanceDirections", fn := fun _ => fun
  | [d1, d2] => { results := [.lit (.bool true)], args := [d1, d2] }
  | _ => none }
def distanceDirectionsRow : OpenClaim := { program := "ytomodppdolfinaa", sum := "1f1b78ac60e92228feb77e229aca9e5dbbfa3134c918cc4cc5dc0b673cb3cbb0", func := "substation/substationlaw22.DistanceDirections", spec := "distanceDirections", unfollowed := true, recurses := true, apart := false }
def DistanceDirectionsSaid : Prop := distanceDirectionsRow.holds Try.pinned (OpenSpec.ofChange distanceDirectionsSpec)

/-- ITS FALSE NEIGHBOUR: 'it returns false'. Refute it at one input. -/
def distanceDirectionsWrong : ChangeSpec := { name := "distanceDirections", fn := fun _ => fun
  | [d1, d2] => { results := [.lit (.bool false)], args := [d1, d2] }
  | _ => none }
def DistanceDirectionsWrongFalsely : Prop := distanceDirectionsRow.holds Try.pinned (OpenSpec.ofChange distanceDirectionsWrong)

/-- 'substationlaw22.DistanceResidual': WHATEVER THE INPUT: true; the input reads as it did. -/
def distanceResidualSpec : ChangeSpec := { name := "distanceResidual", fn := fun _ => fun
  | [d1, d2, d3] => { results := [.lit (.bool true)], args := [d1, d2, d3] }
  | _ => none }
def distanceResidualRow : OpenClaim := { program := "ytomodppdolfinaa", sum := "1f1b78ac60e92228feb77e229aca9e5dbbfa3134c918cc4cc5dc0b673cb3cbb0", func := "substation/substationlaw22.DistanceResidual", spec := "distanceResidual", unfollowed := true, recurses := true, apart := false }
def DistanceResidualSaid : Prop := distanceResidualRow.holds Try.pinned (OpenSpec.ofChange distanceResidualSpec)

/-- ITS FALSE NEIGHBOUR: 'it returns false'. Refute it at one input. -/
def distanceResidualWrong : ChangeSpec := { name := "distanceResidual", fn := fun _ => fun
  | [d1, d2, d3] => { results := [.lit (.bool false)], args := [d1, d2, d3] }
  | _ => none }
def DistanceResidualWrongFalsely : Prop := distanceResidualRow.holds Try.pinned (OpenSpec.ofChange distanceResidualWrong)

/-- 'substationlaw22.DistanceSymmetry': WHATEVER THE INPUT: true; the input reads as it did. -/
def distanceSymmetrySpec : ChangeSpec := { name := "distanceSymmetry", fn := fun _ => fun
  | [d1, d2] => { results := [.lit (.bool true)], args := [d1, d2] }
  | _ => none }
def distanceSymmetryRow : OpenClaim := { program := "ytomodppdolfinaa", sum := "1f1b78ac60e92228feb77e229aca9e5dbbfa3134c918cc4cc5dc0b673cb3cbb0", func := "substation/substationlaw22.DistanceSymmetry", spec := "distanceSymmetry", unfollowed := true, recurses := true, apart := false }
def DistanceSymmetrySaid : Prop := distanceSymmetryRow.holds Try.pinned (OpenSpec.ofChange distanceSymmetrySpec)

/-- ITS FALSE NEIGHBOUR: 'it returns false'. Refute it at one input. -/
def distanceSymmetryWrong : ChangeSpec := { name := "distanceSymmetry", fn := fun _ => fun
  | [d1, d2] => { results := [.lit (.bool false)], args := [d1, d2] }
  | _ => none }
def DistanceSymmetryWrongFalsely : Prop := distanceSymmetryRow.holds Try.pinned (OpenSpec.ofChange distanceSymmetryWrong)

/-- 'substationlaw22.DistanceReversal': WHATEVER THE INPUT: true; the input reads as it did. -/
def distanceReversalSpec : ChangeSpec := { name := "distanceReversal", fn := fun _ => fun
  | [d] => { results := [.lit (.bool true)], args := [d] }
  | _ => none }
def distanceReversalRow : OpenClaim := { program := "ytomodppdolfinaa", sum := "1f1b78ac60e92228feb77e229aca9e5dbbfa3134c918cc4cc5dc0b673cb3cbb0", func := "substation/substationlaw22.DistanceReversal", spec := "distanceReversal", unfollowed := true, recurses := true, apart := false }
def DistanceReversalSaid : Prop := distanceReversalRow.holds Try.pinned (OpenSpec.ofChange distanceReversalSpec)

/-- ITS FALSE NEIGHBOUR: 'it returns false'. Refute it at one input. -/
def distanceReversalWrong : ChangeSpec := { name := "distanceReversal", fn := fun _ => fun
  | [d] => { results := [.lit (.bool false)], args := [d] }
  | _ => none }
def DistanceReversalWrongFalsely : Prop := distanceReversalRow.holds Try.pinned (OpenSpec.ofChange distanceReversalWrong)

/-- 'substationlaw22.DistanceMonotone': WHATEVER THE INPUT: true; the input reads as it did. -/
def distanceMonotoneSpec : ChangeSpec := { name := "distanceMonotone", fn := fun _ => fun
  | [d1, d2] => { results := [.lit (.bool true)], args := [d1, d2] }
  | _ => none }
def distanceMonotoneRow : OpenClaim := { program := "ytomodppdolfinaa", sum := "1f1b78ac60e92228feb77e229aca9e5dbbfa3134c918cc4cc5dc0b673cb3cbb0", func := "substation/substationlaw22.DistanceMonotone", spec := "distanceMonotone", unfollowed := true, recurses := true, apart := false }
def DistanceMonotoneSaid : Prop := distanceMonotoneRow.holds Try.pinned (OpenSpec.ofChange distanceMonotoneSpec)

/-- ITS FALSE NEIGHBOUR: 'it returns false'. Refute it at one input. -/
def distanceMonotoneWrong : ChangeSpec := { name := "distanceMonotone", fn := fun _ => fun
  | [d1, d2] => { results := [.lit (.bool false)], args := [d1, d2] }
  | _ => none }
def DistanceMonotoneWrongFalsely : Prop := distanceMonotoneRow.holds Try.pinned (OpenSpec.ofChange distanceMonotoneWrong)

/- THE SECOND FORM. 'bulk': how many values and letters a reading holds, each counted each time it is reached (what is shared counts as often as it is met; a slice's spare places count too). A statement '..UptoSaid' is the law's where the arguments, and the package variables that the reading takes, are together of bulk at most 1048576: NARROWER than '..Said'. Prove '..Said' where nothing that the law and all that it calls make is longer than what came in: it says more and counts as full. Else prove '..UptoSaid'. A law counts once. -/
mutual
def uptoBulk {H : Type} : DataW H → Nat
  | .lit (.string bytes) => bytes.length + 1
  | .lit _ => 1
  | .nil => 1
  | .ptr d => uptoBulk d + 1
  | .slice elems spare => uptoBulkAll elems + uptoBulkAll spare + 1
  | .agg parts => uptoBulkAll parts + 1
  | .iface _ d => uptoBulk d + 1
  | .map entries => uptoBulkEntries entries + 1
  | .held _ => 1
def uptoBulkAll {H : Type} : List (DataW H) → Nat
  | [] => 0
  | d :: r => uptoBulk d + uptoBulkAll r
def uptoBulkEntries {H : Type} : List (Lit × DataW H) → Nat
  | [] => 0
  | x :: r => uptoBulkEntry x + uptoBulkEntries r
def uptoBulkEntry {H : Type} : Lit × DataW H → Nat
  | (.string bytes, d) => bytes.length + uptoBulk d + 1
  | (_, d) => uptoBulk d + 1
 end
def uptoSmall : (H : Type) → List (DataW H) → Bool := fun _ ds => decide (uptoBulkAll ds ≤ 1048576)
def OpenSpec.upto (s : _root_.Go.ChangeSpec) : _root_.Go.OpenSpec := { _root_.Go.OpenSpec.ofChange s with cond := some uptoSmall }

/-- 'substationlaw24.OvercurrentAdvances', WHERE WHAT IT READS IS OF BULK AT MOST 1048576: true; the input reads as it did. -/
def overcurrentAdvancesUptoRow : OpenClaim := { program := "ytomodppdolfinaa", sum := "1f1b78ac60e92228feb77e229aca9e5dbbfa3134c918cc4cc5dc0b673cb3cbb0", func := "substation/substationlaw24.OvercurrentAdvances", spec := "overcurrentAdvances", unfollowed := true, recurses := true, named := ["math/bits.divideError", "math/bits.overflowError"], apart := false, narrowed := true }
def OvercurrentAdvancesUptoSaid : Prop := overcurrentAdvancesUptoRow.holds Try.pinned (OpenSpec.upto overcurrentAdvancesSpec)

/-- 'substationlaw22.DistanceImpedance', WHERE WHAT IT READS IS OF BULK AT MOST 1048576: true; the input reads as it did. -/
def distanceImpedanceUptoRow : OpenClaim := { program := "ytomodppdolfinaa", sum := "1f1b78ac60e92228feb77e229aca9e5dbbfa3134c918cc4cc5dc0b673cb3cbb0", func := "substation/substationlaw22.DistanceImpedance", spec := "distanceImpedance", unfollowed := true, recurses := true, apart := false, narrowed := true }
def DistanceImpedanceUptoSaid : Prop := distanceImpedanceUptoRow.holds Try.pinned (OpenSpec.upto distanceImpedanceSpec)

/-- 'substationlaw22.DistanceDirections', WHERE WHAT IT READS IS OF BULK AT MOST 1048576: true; the input reads as it did. -/
def distanceDirectionsUptoRow : OpenClaim := { program := "ytomodppdolfinaa", sum := "1f1b78ac60e92228feb77e229aca9e5dbbfa3134c918cc4cc5dc0b673cb3cbb0", func := "substation/substationlaw22.DistanceDirections", spec := "distanceDirections", unfollowed := true, recurses := true, apart := false, narrowed := true }
def DistanceDirectionsUptoSaid : Prop := distanceDirectionsUptoRow.holds Try.pinned (OpenSpec.upto distanceDirectionsSpec)

/-- 'substationlaw22.DistanceResidual', WHERE WHAT IT READS IS OF BULK AT MOST 1048576: true; the input reads as it did. -/
def distanceResidualUptoRow : OpenClaim := { program := "ytomodppdolfinaa", sum := "1f1b78ac60e92228feb77e229aca9e5dbbfa3134c918cc4cc5dc0b673cb3cbb0", func := "substation/substationlaw22.DistanceResidual", spec := "distanceResidual", unfollowed := true, recurses := true, apart := false, narrowed := true }
def DistanceResidualUptoSaid : Prop := distanceResidualUptoRow.holds Try.pinned (OpenSpec.upto distanceResidualSpec)

/-- 'substationlaw22.DistanceSymmetry', WHERE WHAT IT READS IS OF BULK AT MOST 1048576: true; the input reads as it did. -/
def distanceSymmetryUptoRow : OpenClaim := { program := "ytomodppdolfinaa", sum := "1f1b78ac60e92228feb77e229aca9e5dbbfa3134c918cc4cc5dc0b673cb3cbb0", func := "substation/substationlaw22.DistanceSymmetry", spec := "distanceSymmetry", unfollowed := true, recurses := true, apart := false, narrowed := true }
def DistanceSymmetryUptoSaid : Prop := distanceSymmetryUptoRow.holds Try.pinned (OpenSpec.upto distanceSymmetrySpec)

/-- 'substationlaw22.DistanceReversal', WHERE WHAT IT READS IS OF BULK AT MOST 1048576: true; the input reads as it did. -/
def distanceReversalUptoRow : OpenClaim := { program := "ytomodppdolfinaa", sum := "1f1b78ac60e92228feb77e229aca9e5dbbfa3134c918cc4cc5dc0b673cb3cbb0", func := "substation/substationlaw22.DistanceReversal", spec := "distanceReversal", unfollowed := true, recurses := true, apart := false, narrowed := true }
def DistanceReversalUptoSaid : Prop := distanceReversalUptoRow.holds Try.pinned (OpenSpec.upto distanceReversalSpec)

/-- 'substationlaw22.DistanceMonotone', WHERE WHAT IT READS IS OF BULK AT MOST 1048576: true; the input reads as it did. -/
def distanceMonotoneUptoRow : OpenClaim := { program := "ytomodppdolfinaa", sum := "1f1b78ac60e92228feb77e229aca9e5dbbfa3134c918cc4cc5dc0b673cb3cbb0", func := "substation/substationlaw22.DistanceMonotone", spec := "distanceMonotone", unfollowed := true, recurses := true, apart := false, narrowed := true }
def DistanceMonotoneUptoSaid : Prop := distanceMonotoneUptoRow.holds Try.pinned (OpenSpec.upto distanceMonotoneSpec)

end Rows
end Go.Proofs.Ytomodppdolfinaa
