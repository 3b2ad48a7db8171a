/-
  DERIVED. GIVEN WITH THE SEED: THE CARDS: each row of YtebfaobobccikaaGreatDoorRows.lean that lists a variable, with what it lists TIED to the program's text (the seventh form; the later family's looks); each row that meets fmt, with fmt's text TOLD by the authors' own Lean function (tested against real Go, not proved from fmt's source: count such statements apart). THE CARD IS WHAT COUNTS. Prove the row's statement (the work); the ties are given (YtebfaobobccikaaGreatDoorTie.lean); close each card by the builder's one call (the guide's Derived/Test/ToyasCard.lean, 'card_holds'). Laid BY PROGRAM, IN A SANDBOX (cutbox-door.mjs). By AI agents, Wed Nov 11 2026. No macro, syntax, notation, axiom, sorry.
-/
import Derived.Test.YtebfaobobccikaaGreatDoorRows
import GoSem.ClaimSeven
namespace Go.Proofs.YtebfaobobccikaaGreatDoor
namespace Rows

/-- THE TIED CARD OF 'harrowlaw19.CallsLists'. -/
def callsListsCard : Claim7 := { stood := { row := callsListsRow, standIns := [], harness := (true, "f54658c52f8aa1c9d846421c908c2e896f4e6231f27800cce69cd4e9af82b9e5"), looks := true }, kinds := [], alts := [], laidByText := true, laidKinds := [.data], laidTests := true, laidLooks := .later }
def CallsListsCardSaid : Prop := Claim7.holds Tryz.pinned (.plain (OpenSpec.ofChange callsListsSpec)) callsListsCard

/-- THE TIED CARD OF 'harrowlaw19.CallsSame'. -/
def callsSameCard : Claim7 := { stood := { row := callsSameRow, standIns := [], harness := (true, "f54658c52f8aa1c9d846421c908c2e896f4e6231f27800cce69cd4e9af82b9e5"), looks := true }, kinds := [], alts := [], laidByText := true, laidKinds := [.data], laidTests := true, laidLooks := .later }
def CallsSameCardSaid : Prop := Claim7.holds Tryz.pinned (.plain (OpenSpec.ofChange callsSameSpec)) callsSameCard

/-- THE TIED CARD OF 'harrowlaw19.CallsMoves'. -/
def callsMovesCard : Claim7 := { stood := { row := callsMovesRow, standIns := [], harness := (true, "f54658c52f8aa1c9d846421c908c2e896f4e6231f27800cce69cd4e9af82b9e5"), looks := true }, kinds := [], alts := [], laidByText := true, laidKinds := [.data], laidTests := true, laidLooks := .later }
def CallsMovesCardSaid : Prop := Claim7.holds Tryz.pinned (.plain (OpenSpec.ofChange callsMovesSpec)) callsMovesCard

/-- THE TIED CARD OF 'harrowlaw19.CallsHoles'. -/
def callsHolesCard : Claim7 := { stood := { row := callsHolesRow, standIns := [], harness := (true, "f54658c52f8aa1c9d846421c908c2e896f4e6231f27800cce69cd4e9af82b9e5"), looks := true }, kinds := [], alts := [], laidByText := true, laidKinds := [.data], laidTests := true, laidLooks := .later }
def CallsHolesCardSaid : Prop := Claim7.holds Tryz.pinned (.plain (OpenSpec.ofChange callsHolesSpec)) callsHolesCard

/-- THE SECOND FORM's CARD OF 'harrowlaw19.CallsLists'. -/
def callsListsUptoCard : Claim7 := { stood := { row := callsListsUptoRow, standIns := [], harness := (true, "f54658c52f8aa1c9d846421c908c2e896f4e6231f27800cce69cd4e9af82b9e5"), looks := true }, kinds := [], alts := [], laidByText := true, laidKinds := [.data], laidTests := true, laidLooks := .later }
def CallsListsUptoCardSaid : Prop := Claim7.holds Tryz.pinned (.plain (OpenSpec.upto callsListsSpec)) callsListsUptoCard

/-- THE SECOND FORM's CARD OF 'harrowlaw19.CallsSame'. -/
def callsSameUptoCard : Claim7 := { stood := { row := callsSameUptoRow, standIns := [], harness := (true, "f54658c52f8aa1c9d846421c908c2e896f4e6231f27800cce69cd4e9af82b9e5"), looks := true }, kinds := [], alts := [], laidByText := true, laidKinds := [.data], laidTests := true, laidLooks := .later }
def CallsSameUptoCardSaid : Prop := Claim7.holds Tryz.pinned (.plain (OpenSpec.upto callsSameSpec)) callsSameUptoCard

/-- THE SECOND FORM's CARD OF 'harrowlaw19.CallsMoves'. -/
def callsMovesUptoCard : Claim7 := { stood := { row := callsMovesUptoRow, standIns := [], harness := (true, "f54658c52f8aa1c9d846421c908c2e896f4e6231f27800cce69cd4e9af82b9e5"), looks := true }, kinds := [], alts := [], laidByText := true, laidKinds := [.data], laidTests := true, laidLooks := .later }
def CallsMovesUptoCardSaid : Prop := Claim7.holds Tryz.pinned (.plain (OpenSpec.upto callsMovesSpec)) callsMovesUptoCard

/-- THE SECOND FORM's CARD OF 'harrowlaw19.CallsHoles'. -/
def callsHolesUptoCard : Claim7 := { stood := { row := callsHolesUptoRow, standIns := [], harness := (true, "f54658c52f8aa1c9d846421c908c2e896f4e6231f27800cce69cd4e9af82b9e5"), looks := true }, kinds := [], alts := [], laidByText := true, laidKinds := [.data], laidTests := true, laidLooks := .later }
def CallsHolesUptoCardSaid : Prop := Claim7.holds Tryz.pinned (.plain (OpenSpec.upto callsHolesSpec)) callsHolesUptoCard
end Rows
end Go.Proofs.YtebfaobobccikaaGreatDoor
