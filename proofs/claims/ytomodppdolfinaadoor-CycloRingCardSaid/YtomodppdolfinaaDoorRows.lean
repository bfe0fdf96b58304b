/-
  NARROWER THAN 'FOR EVERY INPUT', by the rows' own cells (each row's printed sentence says how): CycloRing: laid · CycloSums: laid · PhasorSizes: laid.
  DERIVED. THE GIVEN ROWS OF THIS SEAT. 3 by the template 'for every input the law returns true; each argument reads behind the call as it read before'; 0 by the template 'total and deterministic' (their statements: YtomodppdolfinaaDoorTotals.lean).
  GIVEN WITH THE SEED: the statements are not yours to turn. If you find one false, say at which input.
  Laid BY PROGRAM, IN A SANDBOX (cutbox-rows.mjs): the forced cells as the released guide's own fill.sh prints them over the translation 08ab1539e4101718… (all of the seat's roots in one cut). By AI agents, Wed Nov 11 2026. No macro, syntax, notation, axiom, sorry.
-/
import Derived.Test.YtomodppdolfinaaDoorChecked
import GoSem.Claim
import GoSem.ClaimJoined
import GoSem.ClaimMapViews
import Derived.JoinedTies
import Derived.KernelRfl
namespace Go.Proofs.YtomodppdolfinaaDoor
/- THE CELL 'sum', in the pinned program and in every row, IS THE sha256 OF THE DUMP (.gsa) THAT YtomodppdolfinaaDoorProg.lean LOADS. Nothing in Lean hashes anything: it is a label: what it is worth is what the hold of that sum in a sandbox is worth. -/
noncomputable def Tryd.pinned : Pinned := { name := "ytomodppdolfinaadoor", sum := "08ab1539e41017188205e042b1e4334134db85d3bed85e244ec6d9784106e146", checked := Tryd.checked }
namespace Rows
def none {H : Type} : Left H := { results := [], args := [] }

/- WHAT THE LISTED PACKAGE-LEVEL VARIABLES READ AS WHEN THE CALL BEGINS. Each datum BY PROGRAM (the guide's laid-datum.mjs) off the statement by which the dump's own 'gosem.cut.vars' lays the variable. In a bare row this is a premise. The card (YtomodppdolfinaaDoorCards.lean) ties it to the program's text. -/
def laid_substation_cyclo_roots {H : Type} : DataW H := .agg [.agg [.lit (.int .i64 1), .lit (.int .i64 0), .lit (.int .i64 0), .lit (.int .i64 0)], .agg [.lit (.int .i64 0), .lit (.int .i64 1), .lit (.int .i64 0), .lit (.int .i64 0)], .agg [.lit (.int .i64 0), .lit (.int .i64 0), .lit (.int .i64 1), .lit (.int .i64 0)], .agg [.lit (.int .i64 0), .lit (.int .i64 0), .lit (.int .i64 0), .lit (.int .i64 1)], .agg [.lit (.int .i64 (-1)), .lit (.int .i64 0), .lit (.int .i64 1), .lit (.int .i64 0)], .agg [.lit (.int .i64 0), .lit (.int .i64 (-1)), .lit (.int .i64 0), .lit (.int .i64 1)]]

/-- 'substationlaw03.CycloRing': WHATEVER THE INPUT: true; the input reads as it did. -/
def cycloRingSpec : ChangeSpec := { name := "cycloRing", fn := fun _ => fun
  | [d1, d2, d3] => { results := [.lit (.bool true)], args := [d1, d2, d3] }
  | _ => none }
def cycloRingRow : OpenClaim := { program := "ytomodppdolfinaadoor", sum := "08ab1539e41017188205e042b1e4334134db85d3bed85e244ec6d9784106e146", func := "substation/substationlaw03.CycloRing", spec := "cycloRing", unfollowed := true, recurses := true, named := ["substation/cyclo.roots"], apart := false, laid := [("substation/cyclo.roots", laid_substation_cyclo_roots)] }
def CycloRingSaid : Prop := cycloRingRow.holds Tryd.pinned (OpenSpec.ofChange cycloRingSpec)

/-- ITS FALSE NEIGHBOUR: 'it returns false'. Refute it at one input. -/
def cycloRingWrong : ChangeSpec := { name := "cycloRing", fn := fun _ => fun
  | [d1, d2, d3] => { results := [.lit (.bool false)], args := [d1, d2, d3] }
  | _ => none }
def CycloRingWrongFalsely : Prop := cycloRingRow.holds Tryd.pinned (OpenSpec.ofChange cycloRingWrong)

/-- 'substationlaw03.CycloSums': WHATEVER THE INPUT: true; the input reads as it did. -/
def cycloSumsSpec : ChangeSpec := { name := "cycloSums", fn := fun _ => fun
  | [d1, d2, d3] => { results := [.lit (.bool true)], args := [d1, d2, d3] }
  | _ => none }
def cycloSumsRow : OpenClaim := { program := "ytomodppdolfinaadoor", sum := "08ab1539e41017188205e042b1e4334134db85d3bed85e244ec6d9784106e146", func := "substation/substationlaw03.CycloSums", spec := "cycloSums", unfollowed := true, recurses := true, named := ["substation/cyclo.roots"], apart := false, laid := [("substation/cyclo.roots", laid_substation_cyclo_roots)] }
def CycloSumsSaid : Prop := cycloSumsRow.holds Tryd.pinned (OpenSpec.ofChange cycloSumsSpec)

/-- ITS FALSE NEIGHBOUR: 'it returns false'. Refute it at one input. -/
def cycloSumsWrong : ChangeSpec := { name := "cycloSums", fn := fun _ => fun
  | [d1, d2, d3] => { results := [.lit (.bool false)], args := [d1, d2, d3] }
  | _ => none }
def CycloSumsWrongFalsely : Prop := cycloSumsRow.holds Tryd.pinned (OpenSpec.ofChange cycloSumsWrong)

/-- 'substationlaw20.PhasorSizes': WHATEVER THE INPUT: true; the input reads as it did. -/
def phasorSizesSpec : ChangeSpec := { name := "phasorSizes", fn := fun _ => fun
  | [d1, d2, d3] => { results := [.lit (.bool true)], args := [d1, d2, d3] }
  | _ => none }
def phasorSizesRow : OpenClaim := { program := "ytomodppdolfinaadoor", sum := "08ab1539e41017188205e042b1e4334134db85d3bed85e244ec6d9784106e146", func := "substation/substationlaw20.PhasorSizes", spec := "phasorSizes", unfollowed := true, recurses := true, named := ["substation/cyclo.roots"], apart := false, laid := [("substation/cyclo.roots", laid_substation_cyclo_roots)] }
def PhasorSizesSaid : Prop := phasorSizesRow.holds Tryd.pinned (OpenSpec.ofChange phasorSizesSpec)

/-- ITS FALSE NEIGHBOUR: 'it returns false'. Refute it at one input. -/
def phasorSizesWrong : ChangeSpec := { name := "phasorSizes", fn := fun _ => fun
  | [d1, d2, d3] => { results := [.lit (.bool false)], args := [d1, d2, d3] }
  | _ => none }
def PhasorSizesWrongFalsely : Prop := phasorSizesRow.holds Tryd.pinned (OpenSpec.ofChange phasorSizesWrong)

/- THE SECOND FORM. 'bulk': how many values and letters a reading holds, each counted each time it is reached (what is shared counts as often as it is met; a slice's spare places count too). A statement '..UptoSaid' is the law's where the arguments, and the package variables that the reading takes, are together of bulk at most 1048576: NARROWER than '..Said'. Prove '..Said' where nothing that the law and all that it calls make is longer than what came in: it says more and counts as full. Else prove '..UptoSaid'. A law counts once. -/
mutual
def uptoBulk {H : Type} : DataW H → Nat
  | .lit (.string bytes) => bytes.length + 1
  | .lit _ => 1
  | .nil => 1
  | .ptr d => uptoBulk d + 1
  | .slice elems spare => uptoBulkAll elems + uptoBulkAll spare + 1
  | .agg parts => uptoBulkAll parts + 1
  | .iface _ d => uptoBulk d + 1
  | .map entries => uptoBulkEntries entries + 1
  | .held _ => 1
def uptoBulkAll {H : Type} : List (DataW H) → Nat
  | [] => 0
  | d :: r => uptoBulk d + uptoBulkAll r
def uptoBulkEntries {H : Type} : List (Lit × DataW H) → Nat
  | [] => 0
  | x :: r => uptoBulkEntry x + uptoBulkEntries r
def uptoBulkEntry {H : Type} : Lit × DataW H → Nat
  | (.string bytes, d) => bytes.length + uptoBulk d + 1
  | (_, d) => uptoBulk d + 1
 end
def uptoSmall : (H : Type) → List (DataW H) → Bool := fun _ ds => decide (uptoBulkAll ds ≤ 1048576)
def OpenSpec.upto (s : _root_.Go.ChangeSpec) : _root_.Go.OpenSpec := { _root_.Go.OpenSpec.ofChange s with cond := some uptoSmall }

/-- 'substationlaw03.CycloRing', WHERE WHAT IT READS IS OF BULK AT MOST 1048576: true; the input reads as it did. -/
def cycloRingUptoRow : OpenClaim := { program := "ytomodppdolfinaadoor", sum := "08ab1539e41017188205e042b1e4334134db85d3bed85e244ec6d9784106e146", func := "substation/substationlaw03.CycloRing", spec := "cycloRing", unfollowed := true, recurses := true, named := ["substation/cyclo.roots"], apart := false, laid := [("substation/cyclo.roots", laid_substation_cyclo_roots)], narrowed := true }
def CycloRingUptoSaid : Prop := cycloRingUptoRow.holds Tryd.pinned (OpenSpec.upto cycloRingSpec)

/-- 'substationlaw03.CycloSums', WHERE WHAT IT READS IS OF BULK AT MOST 1048576: true; the input reads as it did. -/
def cycloSumsUptoRow : OpenClaim := { program := "ytomodppdolfinaadoor", sum := "08ab1539e41017188205e042b1e4334134db85d3bed85e244ec6d9784106e146", func := "substation/substationlaw03.CycloSums", spec := "cycloSums", unfollowed := true, recurses := true, named := ["substation/cyclo.roots"], apart := false, laid := [("substation/cyclo.roots", laid_substation_cyclo_roots)], narrowed := true }
def CycloSumsUptoSaid : Prop := cycloSumsUptoRow.holds Tryd.pinned (OpenSpec.upto cycloSumsSpec)

/-- 'substationlaw20.PhasorSizes', WHERE WHAT IT READS IS OF BULK AT MOST 1048576: true; the input reads as it did. -/
def phasorSizesUptoRow : OpenClaim := { program := "ytomodppdolfinaadoor", sum := "08ab1539e41017188205e042b1e4334134db85d3bed85e244ec6d9784106e146", func := "substation/substationlaw20.PhasorSizes", spec := "phasorSizes", unfollowed := true, recurses := true, named := ["substation/cyclo.roots"], apart := false, laid := [("substation/cyclo.roots", laid_substation_cyclo_roots)], narrowed := true }
def PhasorSizesUptoSaid : Prop := phasorSizesUptoRow.holds Tryd.pinned (OpenSpec.upto phasorSizesSpec)

end Rows
end Go.Proofs.YtomodppdolfinaaDoor
