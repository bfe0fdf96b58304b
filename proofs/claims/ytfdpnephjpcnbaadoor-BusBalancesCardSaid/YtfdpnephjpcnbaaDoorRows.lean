/-
  NARROWER THAN 'FOR EVERY INPUT', by the rows' own cells (each row's printed sentence says how): SamplesSurvive: laid · BusBalances: laid.
  DERIVED. THE GIVEN ROWS OF THIS SEAT. 2 by the template 'for every input the law returns true; each argument reads behind the call as it read before'; 0 by the template 'total and deterministic' (their statements: YtfdpnephjpcnbaaDoorTotals.lean).
  GIVEN WITH THE SEED: the statements are not yours to turn. If you find one false, say at which input.
  Laid BY PROGRAM, IN A SANDBOX (cutbox-rows.mjs): the forced cells as the released guide's own fill.sh prints them over the translation 32337c7e9b249015… (all of the seat's roots in one cut). By AI agents, Wed Nov 11 2026. No macro, syntax, notation, axiom, sorry.
-/
import Derived.Test.YtfdpnephjpcnbaaDoorChecked
import GoSem.Claim
import GoSem.ClaimJoined
import GoSem.ClaimMapViews
import Derived.JoinedTies
import Derived.KernelRfl
namespace Go.Proofs.YtfdpnephjpcnbaaDoor
/- THE CELL 'sum', in the pinned program and in every row, IS THE sha256 OF THE DUMP (.gsa) THAT YtfdpnephjpcnbaaDoorProg.lean LOADS. Nothing in Lean hashes anything: it is a label: what it is worth is what the hold of that sum in a sandbox is worth. -/
noncomputable def Tryd.pinned : Pinned := { name := "ytfdpnephjpcnbaadoor", sum := "32337c7e9b249015bd09ff8e826a1dd830c7eee6b6e41a5a8a9f00efb577890f", checked := Tryd.checked }
namespace Rows
def none {H : Type} : Left H := { results := [], args := [] }

/- WHAT THE LISTED PACKAGE-LEVEL VARIABLES READ AS WHEN THE CALL BEGINS. Each datum BY PROGRAM (the guide's laid-datum.mjs) off the statement by which the dump's own 'gosem.cut.vars' lays the variable. In a bare row this is a premise. The card (YtfdpnephjpcnbaaDoorCards.lean) ties it to the program's text. -/
def laid_substation_cyclo_roots {H : Type} : DataW H := .agg [.agg [.lit (.int .i64 1), .lit (.int .i64 0), .lit (.int .i64 0), .lit (.int .i64 0)], .agg [.lit (.int .i64 0), .lit (.int .i64 1), .lit (.int .i64 0), .lit (.int .i64 0)], .agg [.lit (.int .i64 0), .lit (.int .i64 0), .lit (.int .i64 1), .lit (.int .i64 0)], .agg [.lit (.int .i64 0), .lit (.int .i64 0), .lit (.int .i64 0), .lit (.int .i64 1)], .agg [.lit (.int .i64 (-1)), .lit (.int .i64 0), .lit (.int .i64 1), .lit (.int .i64 0)], .agg [.lit (.int .i64 0), .lit (.int .i64 (-1)), .lit (.int .i64 0), .lit (.int .i64 1)]]

/-- 'substationtop.SamplesSurvive': WHATEVER THE INPUT: true; the input reads as it did. -/
def samplesSurviveSpec : ChangeSpec := { name := "samplesSurvive", fn := fun _ => fun
  | [d1, d2, d3] => { results := [.lit (.bool true)], args := [d1, d2, d3] }
  | _ => none }
def samplesSurviveRow : OpenClaim := { program := "ytfdpnephjpcnbaadoor", sum := "32337c7e9b249015bd09ff8e826a1dd830c7eee6b6e41a5a8a9f00efb577890f", func := "substation/substationtop.SamplesSurvive", spec := "samplesSurvive", inPlace := ["slices.overlaps[substation/twin.Source]"], unfollowed := true, recurses := true, named := ["substation/cyclo.roots"], apart := false, laid := [("substation/cyclo.roots", laid_substation_cyclo_roots)] }
def SamplesSurviveSaid : Prop := samplesSurviveRow.holds Tryd.pinned (OpenSpec.ofChange samplesSurviveSpec)

/-- ITS FALSE NEIGHBOUR: 'it returns false'. Refute it at one input. -/
def samplesSurviveWrong : ChangeSpec := { name := "samplesSurvive", fn := fun _ => fun
  | [d1, d2, d3] => { results := [.lit (.bool false)], args := [d1, d2, d3] }
  | _ => none }
def SamplesSurviveWrongFalsely : Prop := samplesSurviveRow.holds Tryd.pinned (OpenSpec.ofChange samplesSurviveWrong)

/-- 'substationtop.BusBalances': WHATEVER THE INPUT: true; the input reads as it did. -/
def busBalancesSpec : ChangeSpec := { name := "busBalances", fn := fun _ => fun
  | [d1, d2] => { results := [.lit (.bool true)], args := [d1, d2] }
  | _ => none }
def busBalancesRow : OpenClaim := { program := "ytfdpnephjpcnbaadoor", sum := "32337c7e9b249015bd09ff8e826a1dd830c7eee6b6e41a5a8a9f00efb577890f", func := "substation/substationtop.BusBalances", spec := "busBalances", inPlace := ["slices.overlaps[substation/twin.Source]"], unfollowed := true, recurses := true, named := ["substation/cyclo.roots"], apart := false, laid := [("substation/cyclo.roots", laid_substation_cyclo_roots)] }
def BusBalancesSaid : Prop := busBalancesRow.holds Tryd.pinned (OpenSpec.ofChange busBalancesSpec)

/-- ITS FALSE NEIGHBOUR: 'it returns false'. Refute it at one input. -/
def busBalancesWrong : ChangeSpec := { name := "busBalances", fn := fun _ => fun
  | [d1, d2] => { results := [.lit (.bool false)], args := [d1, d2] }
  | _ => none }
def BusBalancesWrongFalsely : Prop := busBalancesRow.holds Tryd.pinned (OpenSpec.ofChange busBalancesWrong)

/- THE SECOND FORM. 'bulk': how many values and letters a reading holds, each counted each time it is reached (what is shared counts as often as it is met; a slice's spare places count too). A statement '..UptoSaid' is the law's where the arguments, and the package variables that the reading takes, are together of bulk at most 1048576: NARROWER than '..Said'. Prove '..Said' where nothing that the law and all that it calls make is longer than what came in: it says more and counts as full. Else prove '..UptoSaid'. A law counts once. -/
mutual
def uptoBulk {H : Type} : DataW H → Nat
  | .lit (.string bytes) => bytes.length + 1
  | .lit _ => 1
  | .nil => 1
  | .ptr d => uptoBulk d + 1
  | .slice elems spare => uptoBulkAll elems + uptoBulkAll spare + 1
  | .agg parts => uptoBulkAll parts + 1
  | .iface _ d => uptoBulk d + 1
  | .map entries => uptoBulkEntries entries + 1
  | .held _ => 1
def uptoBulkAll {H : Type} : List (DataW H) → Nat
  | [] => 0
  | d :: r => uptoBulk d + uptoBulkAll r
def uptoBulkEntries {H : Type} : List (Lit × DataW H) → Nat
  | [] => 0
  | x :: r => uptoBulkEntry x + uptoBulkEntries r
def uptoBulkEntry {H : Type} : Lit × DataW H → Nat
  | (.string bytes, d) => bytes.length + uptoBulk d + 1
  | (_, d) => uptoBulk d + 1
 end
def uptoSmall : (H : Type) → List (DataW H) → Bool := fun _ ds => decide (uptoBulkAll ds ≤ 1048576)
def OpenSpec.upto (s : _root_.Go.ChangeSpec) : _root_.Go.OpenSpec := { _root_.Go.OpenSpec.ofChange s with cond := some uptoSmall }

/-- 'substationtop.SamplesSurvive', WHERE WHAT IT READS IS OF BULK AT MOST 1048576: true; the input reads as it did. -/
def samplesSurviveUptoRow : OpenClaim := { program := "ytfdpnephjpcnbaadoor", sum := "32337c7e9b249015bd09ff8e826a1dd830c7eee6b6e41a5a8a9f00efb577890f", func := "substation/substationtop.SamplesSurvive", spec := "samplesSurvive", inPlace := ["slices.overlaps[substation/twin.Source]"], unfollowed := true, recurses := true, named := ["substation/cyclo.roots"], apart := false, laid := [("substation/cyclo.roots", laid_substation_cyclo_roots)], narrowed := true }
def SamplesSurviveUptoSaid : Prop := samplesSurviveUptoRow.holds Tryd.pinned (OpenSpec.upto samplesSurviveSpec)

/-- 'substationtop.BusBalances', WHERE WHAT IT READS IS OF BULK AT MOST 1048576: true; the input reads as it did. -/
def busBalancesUptoRow : OpenClaim := { program := "ytfdpnephjpcnbaadoor", sum := "32337c7e9b249015bd09ff8e826a1dd830c7eee6b6e41a5a8a9f00efb577890f", func := "substation/substationtop.BusBalances", spec := "busBalances", inPlace := ["slices.overlaps[substation/twin.Source]"], unfollowed := true, recurses := true, named := ["substation/cyclo.roots"], apart := false, laid := [("substation/cyclo.roots", laid_substation_cyclo_roots)], narrowed := true }
def BusBalancesUptoSaid : Prop := busBalancesUptoRow.holds Tryd.pinned (OpenSpec.upto busBalancesSpec)

end Rows
end Go.Proofs.YtfdpnephjpcnbaaDoor
