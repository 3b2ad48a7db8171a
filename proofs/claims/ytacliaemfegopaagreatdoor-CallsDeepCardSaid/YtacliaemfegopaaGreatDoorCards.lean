/-
  DERIVED. GIVEN WITH THE SEED: THE CARDS: each row of YtacliaemfegopaaGreatDoorRows.lean that lists a variable, with what it lists TIED to the program's text (the seventh form; the later family's looks); each row that meets fmt, with fmt's text TOLD by the authors' own Lean function (tested against real Go, not proved from fmt's source: count such statements apart). THE CARD IS WHAT COUNTS. Prove the row's statement (the work); the ties are given (YtacliaemfegopaaGreatDoorTie.lean); close each card by the builder's one call (the guide's Derived/Test/ToyasCard.lean, 'card_holds'). Laid BY PROGRAM, IN A SANDBOX (cutbox-door.mjs). By AI agents, Wed Nov 11 2026. No macro, syntax, notation, axiom, sorry.
-/
import Derived.Test.YtacliaemfegopaaGreatDoorRows
import GoSem.ClaimSeven
namespace Go.Proofs.YtacliaemfegopaaGreatDoor
namespace Rows

/-- THE TIED CARD OF 'harrowlaw19.CallsOpens'. -/
def callsOpensCard : Claim7 := { stood := { row := callsOpensRow, standIns := [], harness := (true, "1b107829d46997756dbcb7db8026652e3a4de8e167592d144ddf0e31a4b7a810"), looks := true }, kinds := [], alts := [], laidByText := true, laidKinds := [.data], laidTests := true, laidLooks := .later }
def CallsOpensCardSaid : Prop := Claim7.holds Tryz.pinned (.plain (OpenSpec.ofChange callsOpensSpec)) callsOpensCard

/-- THE TIED CARD OF 'harrowlaw19.CallsSeeks'. -/
def callsSeeksCard : Claim7 := { stood := { row := callsSeeksRow, standIns := [], harness := (true, "1b107829d46997756dbcb7db8026652e3a4de8e167592d144ddf0e31a4b7a810"), looks := true }, kinds := [], alts := [], laidByText := true, laidKinds := [.data], laidTests := true, laidLooks := .later }
def CallsSeeksCardSaid : Prop := Claim7.holds Tryz.pinned (.plain (OpenSpec.ofChange callsSeeksSpec)) callsSeeksCard

/-- THE TIED CARD OF 'harrowlaw19.CallsDeep'. -/
def callsDeepCard : Claim7 := { stood := { row := callsDeepRow, standIns := [], harness := (true, "1b107829d46997756dbcb7db8026652e3a4de8e167592d144ddf0e31a4b7a810"), looks := true }, kinds := [], alts := [], laidByText := true, laidKinds := [.data], laidTests := true, laidLooks := .later }
def CallsDeepCardSaid : Prop := Claim7.holds Tryz.pinned (.plain (OpenSpec.ofChange callsDeepSpec)) callsDeepCard

/-- THE TIED CARD OF 'harrowlaw19.CallsPlaces'. -/
def callsPlacesCard : Claim7 := { stood := { row := callsPlacesRow, standIns := [], harness := (true, "1b107829d46997756dbcb7db8026652e3a4de8e167592d144ddf0e31a4b7a810"), looks := true }, kinds := [], alts := [], laidByText := true, laidKinds := [.data], laidTests := true, laidLooks := .later }
def CallsPlacesCardSaid : Prop := Claim7.holds Tryz.pinned (.plain (OpenSpec.ofChange callsPlacesSpec)) callsPlacesCard

/-- THE SECOND FORM's CARD OF 'harrowlaw19.CallsOpens'. -/
def callsOpensUptoCard : Claim7 := { stood := { row := callsOpensUptoRow, standIns := [], harness := (true, "1b107829d46997756dbcb7db8026652e3a4de8e167592d144ddf0e31a4b7a810"), looks := true }, kinds := [], alts := [], laidByText := true, laidKinds := [.data], laidTests := true, laidLooks := .later }
def CallsOpensUptoCardSaid : Prop := Claim7.holds Tryz.pinned (.plain (OpenSpec.upto callsOpensSpec)) callsOpensUptoCard

/-- THE SECOND FORM's CARD OF 'harrowlaw19.CallsSeeks'. -/
def callsSeeksUptoCard : Claim7 := { stood := { row := callsSeeksUptoRow, standIns := [], harness := (true, "1b107829d46997756dbcb7db8026652e3a4de8e167592d144ddf0e31a4b7a810"), looks := true }, kinds := [], alts := [], laidByText := true, laidKinds := [.data], laidTests := true, laidLooks := .later }
def CallsSeeksUptoCardSaid : Prop := Claim7.holds Tryz.pinned (.plain (OpenSpec.upto callsSeeksSpec)) callsSeeksUptoCard

/-- THE SECOND FORM's CARD OF 'harrowlaw19.CallsDeep'. -/
def callsDeepUptoCard : Claim7 := { stood := { row := callsDeepUptoRow, standIns := [], harness := (true, "1b107829d46997756dbcb7db8026652e3a4de8e167592d144ddf0e31a4b7a810"), looks := true }, kinds := [], alts := [], laidByText := true, laidKinds := [.data], laidTests := true, laidLooks := .later }
def CallsDeepUptoCardSaid : Prop := Claim7.holds Tryz.pinned (.plain (OpenSpec.upto callsDeepSpec)) callsDeepUptoCard

/-- THE SECOND FORM's CARD OF 'harrowlaw19.CallsPlaces'. -/
def callsPlacesUptoCard : Claim7 := { stood := { row := callsPlacesUptoRow, standIns := [], harness := (true, "1b107829d46997756dbcb7db8026652e3a4de8e167592d144ddf0e31a4b7a810"), looks := true }, kinds := [], alts := [], laidByText := true, laidKinds := [.data], laidTests := true, laidLooks := .later }
def CallsPlacesUptoCardSaid : Prop := Claim7.holds Tryz.pinned (.plain (OpenSpec.upto callsPlacesSpec)) callsPlacesUptoCard
end Rows
end Go.Proofs.YtacliaemfegopaaGreatDoor
