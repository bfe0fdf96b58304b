/-
  DERIVED. GIVEN WITH THE SEED: THE CARDS: each row of YtomodppdolfinaaDoorRows.lean that lists a variable, with what it lists TIED to the program's text (the seventh form; the later family's looks); each row that meets fmt, with fmt's text TOLD by the authors' own Lean function (tested against real Go, not proved from fmt's source: count such statements apart). THE CARD IS WHAT COUNTS. Prove the row's statement (the work); the ties are given (YtomodppdolfinaaDoorTie.lean); close each card by the builder's one call (the guide's Derived/Test/ToyasCard.lean, 'card_holds'). Laid BY PROGRAM, IN A SANDBOX (cutbox-door.mjs). By AI agents, Wed Nov 11 2026. No macro, syntax, notation, axiom, sorry.
-/
import Derived.Test.YtomodppdolfinaaDoorRows
import GoSem.ClaimSeven
namespace Go.Proofs.YtomodppdolfinaaDoor
namespace Rows

/-- THE TIED CARD OF 'substationlaw03.CycloRing'. -/
def cycloRingCard : Claim7 := { stood := { row := cycloRingRow, standIns := [], harness := (true, "3c942caefb69c410d051c14ffc39e186624347cccd5d493e879e54773d14dad3"), looks := false }, kinds := [], alts := [], laidByText := true, laidKinds := [.data], laidTests := true, laidLooks := .later }
def CycloRingCardSaid : Prop := Claim7.holds Tryd.pinned (.plain (OpenSpec.ofChange cycloRingSpec)) cycloRingCard

/-- THE TIED CARD OF 'substationlaw03.CycloSums'. -/
def cycloSumsCard : Claim7 := { stood := { row := cycloSumsRow, standIns := [], harness := (true, "3c942caefb69c410d051c14ffc39e186624347cccd5d493e879e54773d14dad3"), looks := false }, kinds := [], alts := [], laidByText := true, laidKinds := [.data], laidTests := true, laidLooks := .later }
def CycloSumsCardSaid : Prop := Claim7.holds Tryd.pinned (.plain (OpenSpec.ofChange cycloSumsSpec)) cycloSumsCard

/-- THE TIED CARD OF 'substationlaw20.PhasorSizes'. -/
def phasorSizesCard : Claim7 := { stood := { row := phasorSizesRow, standIns := [], harness := (true, "3c942caefb69c410d051c14ffc39e186624347cccd5d493e879e54773d14dad3"), looks := false }, kinds := [], alts := [], laidByText := true, laidKinds := [.data], laidTests := true, laidLooks := .later }
def PhasorSizesCardSaid : Prop := Claim7.holds Tryd.pinned (.plain (OpenSpec.ofChange phasorSizesSpec)) phasorSizesCard

/-- THE SECOND FORM's CARD OF 'substationlaw03.CycloRing'. -/
def cycloRingUptoCard : Claim7 := { stood := { row := cycloRingUptoRow, standIns := [], harness := (true, "3c942caefb69c410d051c14ffc39e186624347cccd5d493e879e54773d14dad3"), looks := false }, kinds := [], alts := [], laidByText := true, laidKinds := [.data], laidTests := true, laidLooks := .later }
def CycloRingUptoCardSaid : Prop := Claim7.holds Tryd.pinned (.plain (OpenSpec.upto cycloRingSpec)) cycloRingUptoCard

/-- THE SECOND FORM's CARD OF 'substationlaw03.CycloSums'. -/
def cycloSumsUptoCard : Claim7 := { stood := { row := cycloSumsUptoRow, standIns := [], harness := (true, "3c942caefb69c410d051c14ffc39e186624347cccd5d493e879e54773d14dad3"), looks := false }, kinds := [], alts := [], laidByText := true, laidKinds := [.data], laidTests := true, laidLooks := .later }
def CycloSumsUptoCardSaid : Prop := Claim7.holds Tryd.pinned (.plain (OpenSpec.upto cycloSumsSpec)) cycloSumsUptoCard

/-- THE SECOND FORM's CARD OF 'substationlaw20.PhasorSizes'. -/
def phasorSizesUptoCard : Claim7 := { stood := { row := phasorSizesUptoRow, standIns := [], harness := (true, "3c942caefb69c410d051c14ffc39e186624347cccd5d493e879e54773d14dad3"), looks := false }, kinds := [], alts := [], laidByText := true, laidKinds := [.data], laidTests := true, laidLooks := .later }
def PhasorSizesUptoCardSaid : Prop := Claim7.holds Tryd.pinned (.plain (OpenSpec.upto phasorSizesSpec)) phasorSizesUptoCard
end Rows
end Go.Proofs.YtomodppdolfinaaDoor
