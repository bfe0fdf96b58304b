/-
  NARROWER THAN 'FOR EVERY INPUT', by the rows' own cells (each row's printed sentence says how): BusbarTrips: laid · BusbarSecure: laid · BusbarSelective: laid · BusbarExamples: laid.
  DERIVED. THE GIVEN ROWS OF THIS SEAT. 4 by the template 'for every input the law returns true; each argument reads behind the call as it read before'; 0 by the template 'total and deterministic' (their statements: YtcjflafjmdfanaaGreatDoorTotals.lean).
  GIVEN WITH THE SEED: the statements are not yours to turn. If you find one false, say at which input.
  Laid BY PROGRAM, IN A SANDBOX (cutbox-rows.mjs): the forced cells as the released guide's own fill.sh prints them over the translation e2df698c7368dc7e… (all of the seat's roots in one cut). By AI agents, Wed Nov 11 2026. No macro, syntax, notation, axiom, sorry.
-/
import Derived.Test.YtcjflafjmdfanaaGreatDoorChecked
import GoSem.Claim
import GoSem.ClaimJoined
import GoSem.ClaimMapViews
import Derived.JoinedTies
import Derived.KernelRfl
namespace Go.Proofs.YtcjflafjmdfanaaGreatDoor
/- THE CELL 'sum', in the pinned program and in every row, IS THE sha256 OF THE DUMP (.gsa) THAT YtcjflafjmdfanaaGreatDoorProg.lean LOADS. Nothing in Lean hashes anything: it is a label: what it is worth is what the hold of that sum in a sandbox is worth. -/
noncomputable def Tryz.pinned : Pinned := { name := "ytcjflafjmdfanaagreatdoor", sum := "e2df698c7368dc7e22aa49803fdb3710933ac9928cd5fd458d005f879a1b15b6", checked := Tryz.checked }
namespace Rows
def none {H : Type} : Left H := { results := [], args := [] }

/- WHAT THE LISTED PACKAGE-LEVEL VARIABLES READ AS WHEN THE CALL BEGINS. Each datum BY PROGRAM (the guide's laid-datum.mjs) off the statement by which the dump's own 'gosem.cut.vars' lays the variable. In a bare row this is a premise. The card (YtcjflafjmdfanaaGreatDoorCards.lean) ties it to the program's text. -/
def laid_substation_cyclo_roots {H : Type} : DataW H := .agg [.agg [.lit (.int .i64 1), .lit (.int .i64 0), .lit (.int .i64 0), .lit (.int .i64 0)], .agg [.lit (.int .i64 0), .lit (.int .i64 1), .lit (.int .i64 0), .lit (.int .i64 0)], .agg [.lit (.int .i64 0), .lit (.int .i64 0), .lit (.int .i64 1), .lit (.int .i64 0)], .agg [.lit (.int .i64 0), .lit (.int .i64 0), .lit (.int .i64 0), .lit (.int .i64 1)], .agg [.lit (.int .i64 (-1)), .lit (.int .i64 0), .lit (.int .i64 1), .lit (.int .i64 0)], .agg [.lit (.int .i64 0), .lit (.int .i64 (-1)), .lit (.int .i64 0), .lit (.int .i64 1)]]

/-- 'substationlaw34.BusbarTrips': WHATEVER THE INPUT: true; the input reads as it did. -/
def busbarTripsSpec : ChangeSpec := { name := "busbarTrips", fn := fun _ => fun
  | [d1, d2] => { results := [.lit (.bool true)], args := [d1, d2] }
  | _ => none }
def busbarTripsRow : OpenClaim := { program := "ytcjflafjmdfanaagreatdoor", sum := "e2df698c7368dc7e22aa49803fdb3710933ac9928cd5fd458d005f879a1b15b6", func := "substation/substationlaw34.BusbarTrips", spec := "busbarTrips", unfollowed := true, recurses := true, named := ["substation/cyclo.roots"], apart := false, laid := [("substation/cyclo.roots", laid_substation_cyclo_roots)] }
def BusbarTripsSaid : Prop := busbarTripsRow.holds Tryz.pinned (OpenSpec.ofChange busbarTripsSpec)

/-- ITS FALSE NEIGHBOUR: 'it returns false'. Refute it at one input. -/
def busbarTripsWrong : ChangeSpec := { name := "busbarTrips", fn := fun _ => fun
  | [d1, d2] => { results := [.lit (.bool false)], args := [d1, d2] }
  | _ => none }
def BusbarTripsWrongFalsely : Prop := busbarTripsRow.holds Tryz.pinned (OpenSpec.ofChange busbarTripsWrong)

/-- 'substationlaw34.BusbarSecure': WHATEVER THE INPUT: true; the input reads as it did. -/
def busbarSecureSpec : ChangeSpec := { name := "busbarSecure", fn := fun _ => fun
  | [d] => { results := [.lit (.bool true)], args := [d] }
  | _ => none }
def busbarSecureRow : OpenClaim := { program := "ytcjflafjmdfanaagreatdoor", sum := "e2df698c7368dc7e22aa49803fdb3710933ac9928cd5fd458d005f879a1b15b6", func := "substation/substationlaw34.BusbarSecure", spec := "busbarSecure", unfollowed := true, recurses := true, named := ["substation/cyclo.roots"], apart := false, laid := [("substation/cyclo.roots", laid_substation_cyclo_roots)] }
def BusbarSecureSaid : Prop := busbarSecureRow.holds Tryz.pinned (OpenSpec.ofChange busbarSecureSpec)

/-- ITS FALSE NEIGHBOUR: 'it returns false'. Refute it at one input. -/
def busbarSecureWrong : ChangeSpec := { name := "busbarSecure", fn := fun _ => fun
  | [d] => { results := [.lit (.bool false)], args := [d] }
  | _ => none }
def BusbarSecureWrongFalsely : Prop := busbarSecureRow.holds Tryz.pinned (OpenSpec.ofChange busbarSecureWrong)

/-- 'substationlaw34.BusbarSelective': WHATEVER THE INPUT: true; the input reads as it did. -/
def busbarSelectiveSpec : ChangeSpec := { name := "busbarSelective", fn := fun _ => fun
  | [d1, d2, d3] => { results := [.lit (.bool true)], args := [d1, d2, d3] }
  | _ => none }
def busbarSelectiveRow : OpenClaim := { program := "ytcjflafjmdfanaagreatdoor", sum := "e2df698c7368dc7e22aa49803fdb3710933ac9928cd5fd458d005f879a1b15b6", func := "substation/substationlaw34.BusbarSelective", spec := "busbarSelective", unfollowed := true, recurses := true, named := ["substation/cyclo.roots"], apart := false, laid := [("substation/cyclo.roots", laid_substation_cyclo_roots)] }
def BusbarSelectiveSaid : Prop := busbarSelectiveRow.holds Tryz.pinned (OpenSpec.ofChange busbarSelectiveSpec)

/-- ITS FALSE NEIGHBOUR: 'it returns false'. Refute it at one input. -/
def busbarSelectiveWrong : ChangeSpec := { name := "busbarSelective", fn := fun _ => fun
  | [d1, d2, d3] => { results := [.lit (.bool false)], args := [d1, d2, d3] }
  | _ => none }
def BusbarSelectiveWrongFalsely : Prop := busbarSelectiveRow.holds Tryz.pinned (OpenSpec.ofChange busbarSelectiveWrong)

/-- 'substationlaw34.BusbarExamples': WHATEVER THE INPUT: true; the input reads as it did. -/
def busbarExamplesSpec : ChangeSpec := { name := "busbarExamples", fn := fun _ => fun
  | [] => { results := [.lit (.bool true)], args := [] }
  | _ => none }
def busbarExamplesRow : OpenClaim := { program := "ytcjflafjmdfanaagreatdoor", sum := "e2df698c7368dc7e22aa49803fdb3710933ac9928cd5fd458d005f879a1b15b6", func := "substation/substationlaw34.BusbarExamples", spec := "busbarExamples", unfollowed := true, recurses := true, named := ["substation/cyclo.roots"], apart := false, laid := [("substation/cyclo.roots", laid_substation_cyclo_roots)] }
def BusbarExamplesSaid : Prop := busbarExamplesRow.holds Tryz.pinned (OpenSpec.ofChange busbarExamplesSpec)

/-- ITS FALSE NEIGHBOUR: 'it returns false'. Refute it at one input. -/
def busbarExamplesWrong : ChangeSpec := { name := "busbarExamples", fn := fun _ => fun
  | [] => { results := [.lit (.bool false)], args := [] }
  | _ => none }
def BusbarExamplesWrongFalsely : Prop := busbarExamplesRow.holds Tryz.pinned (OpenSpec.ofChange busbarExamplesWrong)

/- THE SECOND FORM. 'bulk': how many values and letters a reading holds, each counted each time it is reached (what is shared counts as often as it is met; a slice's spare places count too). A statement '..UptoSaid' is the law's where the arguments, and the package variables that the reading takes, are together of bulk at most 1048576: NARROWER than '..Said'. Prove '..Said' where nothing that the law and all that it calls make is longer than what came in: it says more and counts as full. Else prove '..UptoSaid'. A law counts once. -/
mutual
def uptoBulk {H : Type} : DataW H → Nat
  | .lit (.string bytes) => bytes.length + 1
  | .lit _ => 1
  | .nil => 1
  | .ptr d => uptoBulk d + 1
  | .slice elems spare => uptoBulkAll elems + uptoBulkAll spare + 1
  | .agg parts => uptoBulkAll parts + 1
  | .iface _ d => uptoBulk d + 1
  | .map entries => uptoBulkEntries entries + 1
  | .held _ => 1
def uptoBulkAll {H : Type} : List (DataW H) → Nat
  | [] => 0
  | d :: r => uptoBulk d + uptoBulkAll r
def uptoBulkEntries {H : Type} : List (Lit × DataW H) → Nat
  | [] => 0
  | x :: r => uptoBulkEntry x + uptoBulkEntries r
def uptoBulkEntry {H : Type} : Lit × DataW H → Nat
  | (.string bytes, d) => bytes.length + uptoBulk d + 1
  | (_, d) => uptoBulk d + 1
 end
def uptoSmall : (H : Type) → List (DataW H) → Bool := fun _ ds => decide (uptoBulkAll ds ≤ 1048576)
def OpenSpec.upto (s : _root_.Go.ChangeSpec) : _root_.Go.OpenSpec := { _root_.Go.OpenSpec.ofChange s with cond := some uptoSmall }

/-- 'substationlaw34.BusbarTrips', WHERE WHAT IT READS IS OF BULK AT MOST 1048576: true; the input reads as it did. -/
def busbarTripsUptoRow : OpenClaim := { program := "ytcjflafjmdfanaagreatdoor", sum := "e2df698c7368dc7e22aa49803fdb3710933ac9928cd5fd458d005f879a1b15b6", func := "substation/substationlaw34.BusbarTrips", spec := "busbarTrips", unfollowed := true, recurses := true, named := ["substation/cyclo.roots"], apart := false, laid := [("substation/cyclo.roots", laid_substation_cyclo_roots)], narrowed := true }
def BusbarTripsUptoSaid : Prop := busbarTripsUptoRow.holds Tryz.pinned (OpenSpec.upto busbarTripsSpec)

/-- 'substationlaw34.BusbarSecure', WHERE WHAT IT READS IS OF BULK AT MOST 1048576: true; the input reads as it did. -/
def busbarSecureUptoRow : OpenClaim := { program := "ytcjflafjmdfanaagreatdoor", sum := "e2df698c7368dc7e22aa49803fdb3710933ac9928cd5fd458d005f879a1b15b6", func := "substation/substationlaw34.BusbarSecure", spec := "busbarSecure", unfollowed := true, recurses := true, named := ["substation/cyclo.roots"], apart := false, laid := [("substation/cyclo.roots", laid_substation_cyclo_roots)], narrowed := true }
def BusbarSecureUptoSaid : Prop := busbarSecureUptoRow.holds Tryz.pinned (OpenSpec.upto busbarSecureSpec)

/-- 'substationlaw34.BusbarSelective', WHERE WHAT IT READS IS OF BULK AT MOST 1048576: true; the input reads as it did. -/
def busbarSelectiveUptoRow : OpenClaim := { program := "ytcjflafjmdfanaagreatdoor", sum := "e2df698c7368dc7e22aa49803fdb3710933ac9928cd5fd458d005f879a1b15b6", func := "substation/substationlaw34.BusbarSelective", spec := "busbarSelective", unfollowed := true, recurses := true, named := ["substation/cyclo.roots"], apart := false, laid := [("substation/cyclo.roots", laid_substation_cyclo_roots)], narrowed := true }
def BusbarSelectiveUptoSaid : Prop := busbarSelectiveUptoRow.holds Tryz.pinned (OpenSpec.upto busbarSelectiveSpec)

/-- 'substationlaw34.BusbarExamples', WHERE WHAT IT READS IS OF BULK AT MOST 1048576: true; the input reads as it did. -/
def busbarExamplesUptoRow : OpenClaim := { program := "ytcjflafjmdfanaagreatdoor", sum := "e2df698c7368dc7e22aa49803fdb3710933ac9928cd5fd458d005f879a1b15b6", func := "substation/substationlaw34.BusbarExamples", spec := "busbarExamples", unfollowed := true, recurses := true, named := ["substation/cyclo.roots"], apart := false, laid := [("substation/cyclo.roots", laid_substation_cyclo_roots)], narrowed := true }
def BusbarExamplesUptoSaid : Prop := busbarExamplesUptoRow.holds Tryz.pinned (OpenSpec.upto busbarExamplesSpec)

end Rows
end Go.Proofs.YtcjflafjmdfanaaGreatDoor
