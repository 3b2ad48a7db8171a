/-
  DERIVED. GIVEN WITH THE SEED: THE CARDS: each row of YtiomanbgcfjblaaGreatDoorRows.lean that lists a variable, with what it lists TIED to the program's text (the seventh form; the later family's looks); each row that meets fmt, with fmt's text TOLD by the authors' own Lean function (tested against real Go, not proved from fmt's source: count such statements apart). THE CARD IS WHAT COUNTS. Prove the row's statement (the work); the ties are given (YtiomanbgcfjblaaGreatDoorTie.lean); close each card by the builder's one call (the guide's Derived/Test/ToyasCard.lean, 'card_holds'). Laid BY PROGRAM, IN A SANDBOX (cutbox-door.mjs). By AI agents, Wed Nov 11 2026. No macro, syntax, notation, axiom, sorry.
-/
import Derived.Test.YtiomanbgcfjblaaGreatDoorRows
import GoSem.ClaimSeven
namespace Go.Proofs.YtiomanbgcfjblaaGreatDoor
namespace Rows

/-- THE TIED CARD OF 'harrowlaw19.CallsNothing'. -/
def callsNothingCard : Claim7 := { stood := { row := callsNothingRow, standIns := [], harness := (true, "53b968472093dfbb7d71144c9d4662480e993747db49a4d2e1fcad066616ca95"), looks := true }, kinds := [], alts := [], laidByText := true, laidKinds := [.data], laidTests := true, laidLooks := .later }
def CallsNothingCardSaid : Prop := Claim7.holds Tryz.pinned (.plain (OpenSpec.ofChange callsNothingSpec)) callsNothingCard

/-- THE TIED CARD OF 'harrowlaw19.CallsLater'. -/
def callsLaterCard : Claim7 := { stood := { row := callsLaterRow, standIns := [], harness := (true, "53b968472093dfbb7d71144c9d4662480e993747db49a4d2e1fcad066616ca95"), looks := true }, kinds := [], alts := [], laidByText := true, laidKinds := [.data], laidTests := true, laidLooks := .later }
def CallsLaterCardSaid : Prop := Claim7.holds Tryz.pinned (.plain (OpenSpec.ofChange callsLaterSpec)) callsLaterCard

/-- THE TIED CARD OF 'harrowlaw19.CallsTells'. -/
def callsTellsCard : Claim7 := { stood := { row := callsTellsRow, standIns := [], harness := (true, "53b968472093dfbb7d71144c9d4662480e993747db49a4d2e1fcad066616ca95"), looks := true }, kinds := [], alts := [], laidByText := true, laidKinds := [.data], laidTests := true, laidLooks := .later }
def CallsTellsCardSaid : Prop := Claim7.holds Tryz.pinned (.plain (OpenSpec.ofChange callsTellsSpec)) callsTellsCard

/-- THE SECOND FORM's CARD OF 'harrowlaw19.CallsNothing'. -/
def callsNothingUptoCard : Claim7 := { stood := { row := callsNothingUptoRow, standIns := [], harness := (true, "53b968472093dfbb7d71144c9d4662480e993747db49a4d2e1fcad066616ca95"), looks := true }, kinds := [], alts := [], laidByText := true, laidKinds := [.data], laidTests := true, laidLooks := .later }
def CallsNothingUptoCardSaid : Prop := Claim7.holds Tryz.pinned (.plain (OpenSpec.upto callsNothingSpec)) callsNothingUptoCard

/-- THE SECOND FORM's CARD OF 'harrowlaw19.CallsLater'. -/
def callsLaterUptoCard : Claim7 := { stood := { row := callsLaterUptoRow, standIns := [], harness := (true, "53b968472093dfbb7d71144c9d4662480e993747db49a4d2e1fcad066616ca95"), looks := true }, kinds := [], alts := [], laidByText := true, laidKinds := [.data], laidTests := true, laidLooks := .later }
def CallsLaterUptoCardSaid : Prop := Claim7.holds Tryz.pinned (.plain (OpenSpec.upto callsLaterSpec)) callsLaterUptoCard

/-- THE SECOND FORM's CARD OF 'harrowlaw19.CallsTells'. -/
def callsTellsUptoCard : Claim7 := { stood := { row := callsTellsUptoRow, standIns := [], harness := (true, "53b968472093dfbb7d71144c9d4662480e993747db49a4d2e1fcad066616ca95"), looks := true }, kinds := [], alts := [], laidByText := true, laidKinds := [.data], laidTests := true, laidLooks := .later }
def CallsTellsUptoCardSaid : Prop := Claim7.holds Tryz.pinned (.plain (OpenSpec.upto callsTellsSpec)) callsTellsUptoCard
end Rows
end Go.Proofs.YtiomanbgcfjblaaGreatDoor
