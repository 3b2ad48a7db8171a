/-
  DERIVED. GIVEN WITH THE SEED: THE CARDS: each row of YtdickhgiahcnaaaGreatDoorRows.lean that lists a variable, with what it lists TIED to the program's text (the seventh form; the later family's looks); each row that meets fmt, with fmt's text TOLD by the authors' own Lean function (tested against real Go, not proved from fmt's source: count such statements apart). THE CARD IS WHAT COUNTS. Prove the row's statement (the work); the ties are given (YtdickhgiahcnaaaGreatDoorTie.lean); close each card by the builder's one call (the guide's Derived/Test/ToyasCard.lean, 'card_holds'). Laid BY PROGRAM, IN A SANDBOX (cutbox-door.mjs). By AI agents, Wed Nov 11 2026. No macro, syntax, notation, axiom, sorry.
-/
import Derived.Test.YtdickhgiahcnaaaGreatDoorRows
import GoSem.ClaimSeven
namespace Go.Proofs.YtdickhgiahcnaaaGreatDoor
namespace Rows

/-- THE TIED CARD OF 'harrowlaw19.CallsNothing'. -/
def callsNothingCard : Claim7 := { stood := { row := callsNothingRow, standIns := [], harness := (true, "f22f16d2742442ff855315eb5a36efcceee30aa808ba6fc6f9e96e4ede4ff315"), looks := true }, kinds := [], alts := [], laidByText := true, laidKinds := [.data], laidTests := true, laidLooks := .later }
def CallsNothingCardSaid : Prop := Claim7.holds Tryz.pinned (.plain (OpenSpec.ofChange callsNothingSpec)) callsNothingCard

/-- THE SECOND FORM's CARD OF 'harrowlaw19.CallsNothing'. -/
def callsNothingUptoCard : Claim7 := { stood := { row := callsNothingUptoRow, standIns := [], harness := (true, "f22f16d2742442ff855315eb5a36efcceee30aa808ba6fc6f9e96e4ede4ff315"), looks := true }, kinds := [], alts := [], laidByText := true, laidKinds := [.data], laidTests := true, laidLooks := .later }
def CallsNothingUptoCardSaid : Prop := Claim7.holds Tryz.pinned (.plain (OpenSpec.upto callsNothingSpec)) callsNothingUptoCard
end Rows
end Go.Proofs.YtdickhgiahcnaaaGreatDoor
