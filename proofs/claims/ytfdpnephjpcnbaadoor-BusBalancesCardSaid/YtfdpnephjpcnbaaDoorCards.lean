/-
  DERIVED. GIVEN WITH THE SEED: THE CARDS: each row of YtfdpnephjpcnbaaDoorRows.lean that lists a variable, with what it lists TIED to the program's text (the seventh form; the later family's looks); each row that meets fmt, with fmt's text TOLD by the authors' own Lean function (tested against real Go, not proved from fmt's source: count such statements apart). THE CARD IS WHAT COUNTS. Prove the row's statement (the work); the ties are given (YtfdpnephjpcnbaaDoorTie.lean); close each card by the builder's one call (the guide's Derived/Test/ToyasCard.lean, 'card_holds'). Laid BY PROGRAM, IN A SANDBOX (cutbox-door.mjs). By AI agents, Wed Nov 11 2026. No macro, syntax, notation, axiom, sorry.
-/
import Derived.Test.YtfdpnephjpcnbaaDoorRows
import GoSem.ClaimSeven
namespace Go.Proofs.YtfdpnephjpcnbaaDoor
namespace Rows

/-- THE TIED CARD OF 'substationtop.SamplesSurvive'. -/
def samplesSurviveCard : Claim7 := { stood := { row := samplesSurviveRow, standIns := [], harness := (true, "6b05b21f1cb1ee8655bba37258c622cbe84a6d2ce8aa21fc90467f828afa0438"), looks := false }, kinds := [], alts := [], laidByText := true, laidKinds := [.data], laidTests := true, laidLooks := .later }
def SamplesSurviveCardSaid : Prop := Claim7.holds Tryd.pinned (.plain (OpenSpec.ofChange samplesSurviveSpec)) samplesSurviveCard

/-- THE TIED CARD OF 'substationtop.BusBalances'. -/
def busBalancesCard : Claim7 := { stood := { row := busBalancesRow, standIns := [], harness := (true, "6b05b21f1cb1ee8655bba37258c622cbe84a6d2ce8aa21fc90467f828afa0438"), looks := false }, kinds := [], alts := [], laidByText := true, laidKinds := [.data], laidTests := true, laidLooks := .later }
def BusBalancesCardSaid : Prop := Claim7.holds Tryd.pinned (.plain (OpenSpec.ofChange busBalancesSpec)) busBalancesCard

/-- THE SECOND FORM's CARD OF 'substationtop.SamplesSurvive'. -/
def samplesSurviveUptoCard : Claim7 := { stood := { row := samplesSurviveUptoRow, standIns := [], harness := (true, "6b05b21f1cb1ee8655bba37258c622cbe84a6d2ce8aa21fc90467f828afa0438"), looks := false }, kinds := [], alts := [], laidByText := true, laidKinds := [.data], laidTests := true, laidLooks := .later }
def SamplesSurviveUptoCardSaid : Prop := Claim7.holds Tryd.pinned (.plain (OpenSpec.upto samplesSurviveSpec)) samplesSurviveUptoCard

/-- THE SECOND FORM's CARD OF 'substationtop.BusBalances'. -/
def busBalancesUptoCard : Claim7 := { stood := { row := busBalancesUptoRow, standIns := [], harness := (true, "6b05b21f1cb1ee8655bba37258c622cbe84a6d2ce8aa21fc90467f828afa0438"), looks := false }, kinds := [], alts := [], laidByText := true, laidKinds := [.data], laidTests := true, laidLooks := .later }
def BusBalancesUptoCardSaid : Prop := Claim7.holds Tryd.pinned (.plain (OpenSpec.upto busBalancesSpec)) busBalancesUptoCard
end Rows
end Go.Proofs.YtfdpnephjpcnbaaDoor
