/-
  DERIVED. GIVEN WITH THE SEED: THE CARDS: each row of YtcjflafjmdfanaaGreatDoorRows.lean that lists a variable, with what it lists TIED to the program's text (the seventh form; the later family's looks); each row that meets fmt, with fmt's text TOLD by the authors' own Lean function (tested against real Go, not proved from fmt's source: count such statements apart). THE CARD IS WHAT COUNTS. Prove the row's statement (the work); the ties are given (YtcjflafjmdfanaaGreatDoorTie.lean); close each card by the builder's one call (the guide's Derived/Test/ToyasCard.lean, 'card_holds'). Laid BY PROGRAM, IN A SANDBOX (cutbox-door.mjs). By AI agents, Wed Nov 11 2026. No macro, syntax, notation, axiom, sorry.
-/
import Derived.Test.YtcjflafjmdfanaaGreatDoorRows
import GoSem.ClaimSeven
namespace Go.Proofs.YtcjflafjmdfanaaGreatDoor
namespace Rows

/-- THE TIED CARD OF 'substationlaw34.BusbarTrips'. -/
def busbarTripsCard : Claim7 := { stood := { row := busbarTripsRow, standIns := [], harness := (true, "2204b57225a704951bab9ea0572b9d35bcef1ef8d6ce8cd34d52e4ea86e82f3b"), looks := false }, kinds := [], alts := [], laidByText := true, laidKinds := [.data], laidTests := true, laidLooks := .later }
def BusbarTripsCardSaid : Prop := Claim7.holds Tryz.pinned (.plain (OpenSpec.ofChange busbarTripsSpec)) busbarTripsCard

/-- THE TIED CARD OF 'substationlaw34.BusbarSecure'. -/
def busbarSecureCard : Claim7 := { stood := { row := busbarSecureRow, standIns := [], harness := (true, "2204b57225a704951bab9ea0572b9d35bcef1ef8d6ce8cd34d52e4ea86e82f3b"), looks := false }, kinds := [], alts := [], laidByText := true, laidKinds := [.data], laidTests := true, laidLooks := .later }
def BusbarSecureCardSaid : Prop := Claim7.holds Tryz.pinned (.plain (OpenSpec.ofChange busbarSecureSpec)) busbarSecureCard

/-- THE TIED CARD OF 'substationlaw34.BusbarSelective'. -/
def busbarSelectiveCard : Claim7 := { stood := { row := busbarSelectiveRow, standIns := [], harness := (true, "2204b57225a704951bab9ea0572b9d35bcef1ef8d6ce8cd34d52e4ea86e82f3b"), looks := false }, kinds := [], alts := [], laidByText := true, laidKinds := [.data], laidTests := true, laidLooks := .later }
def BusbarSelectiveCardSaid : Prop := Claim7.holds Tryz.pinned (.plain (OpenSpec.ofChange busbarSelectiveSpec)) busbarSelectiveCard

/-- THE TIED CARD OF 'substationlaw34.BusbarExamples'. -/
def busbarExamplesCard : Claim7 := { stood := { row := busbarExamplesRow, standIns := [], harness := (true, "2204b57225a704951bab9ea0572b9d35bcef1ef8d6ce8cd34d52e4ea86e82f3b"), looks := false }, kinds := [], alts := [], laidByText := true, laidKinds := [.data], laidTests := true, laidLooks := .later }
def BusbarExamplesCardSaid : Prop := Claim7.holds Tryz.pinned (.plain (OpenSpec.ofChange busbarExamplesSpec)) busbarExamplesCard

/-- THE SECOND FORM's CARD OF 'substationlaw34.BusbarTrips'. -/
def busbarTripsUptoCard : Claim7 := { stood := { row := busbarTripsUptoRow, standIns := [], harness := (true, "2204b57225a704951bab9ea0572b9d35bcef1ef8d6ce8cd34d52e4ea86e82f3b"), looks := false }, kinds := [], alts := [], laidByText := true, laidKinds := [.data], laidTests := true, laidLooks := .later }
def BusbarTripsUptoCardSaid : Prop := Claim7.holds Tryz.pinned (.plain (OpenSpec.upto busbarTripsSpec)) busbarTripsUptoCard

/-- THE SECOND FORM's CARD OF 'substationlaw34.BusbarSecure'. -/
def busbarSecureUptoCard : Claim7 := { stood := { row := busbarSecureUptoRow, standIns := [], harness := (true, "2204b57225a704951bab9ea0572b9d35bcef1ef8d6ce8cd34d52e4ea86e82f3b"), looks := false }, kinds := [], alts := [], laidByText := true, laidKinds := [.data], laidTests := true, laidLooks := .later }
def BusbarSecureUptoCardSaid : Prop := Claim7.holds Tryz.pinned (.plain (OpenSpec.upto busbarSecureSpec)) busbarSecureUptoCard

/-- THE SECOND FORM's CARD OF 'substationlaw34.BusbarSelective'. -/
def busbarSelectiveUptoCard : Claim7 := { stood := { row := busbarSelectiveUptoRow, standIns := [], harness := (true, "2204b57225a704951bab9ea0572b9d35bcef1ef8d6ce8cd34d52e4ea86e82f3b"), looks := false }, kinds := [], alts := [], laidByText := true, laidKinds := [.data], laidTests := true, laidLooks := .later }
def BusbarSelectiveUptoCardSaid : Prop := Claim7.holds Tryz.pinned (.plain (OpenSpec.upto busbarSelectiveSpec)) busbarSelectiveUptoCard

/-- THE SECOND FORM's CARD OF 'substationlaw34.BusbarExamples'. -/
def busbarExamplesUptoCard : Claim7 := { stood := { row := busbarExamplesUptoRow, standIns := [], harness := (true, "2204b57225a704951bab9ea0572b9d35bcef1ef8d6ce8cd34d52e4ea86e82f3b"), looks := false }, kinds := [], alts := [], laidByText := true, laidKinds := [.data], laidTests := true, laidLooks := .later }
def BusbarExamplesUptoCardSaid : Prop := Claim7.holds Tryz.pinned (.plain (OpenSpec.upto busbarExamplesSpec)) busbarExamplesUptoCard
end Rows
end Go.Proofs.YtcjflafjmdfanaaGreatDoor
