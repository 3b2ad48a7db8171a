/-
  DERIVED. GIVEN WITH THE SEED: THE CARDS: each row of YtdafdidmbeecfaaGreatDoorRows.lean that lists a variable, with what it lists TIED to the program's text (the seventh form; the later family's looks); each row that meets fmt, with fmt's text TOLD by the authors' own Lean function (tested against real Go, not proved from fmt's source: count such statements apart). THE CARD IS WHAT COUNTS. Prove the row's statement (the work); the ties are given (YtdafdidmbeecfaaGreatDoorTie.lean); close each card by the builder's one call (the guide's Derived/Test/ToyasCard.lean, 'card_holds'). Laid BY PROGRAM, IN A SANDBOX (cutbox-door.mjs). By AI agents, Wed Nov 11 2026. No macro, syntax, notation, axiom, sorry.
-/
import Derived.Test.YtdafdidmbeecfaaGreatDoorRows
import GoSem.ClaimSeven
namespace Go.Proofs.YtdafdidmbeecfaaGreatDoor
namespace Rows

/-- THE TIED CARD OF 'harrowlaw11.StoreForms'. -/
def storeFormsCard : Claim7 := { stood := { row := storeFormsRow, standIns := [], harness := (true, "e35505ca3bd15ec35c58bd95018fe0607621dc37ca7fa3381fd5f27ec76e6862"), looks := true }, kinds := [], alts := [], laidByText := true, laidKinds := [.data], laidTests := true, laidLooks := .later }
def StoreFormsCardSaid : Prop := Claim7.holds Tryz.pinned (.plain (OpenSpec.ofChange storeFormsSpec)) storeFormsCard

/-- THE TIED CARD OF 'harrowlaw11.StoreAsks'. -/
def storeAsksCard : Claim7 := { stood := { row := storeAsksRow, standIns := [], harness := (true, "e35505ca3bd15ec35c58bd95018fe0607621dc37ca7fa3381fd5f27ec76e6862"), looks := true }, kinds := [], alts := [], laidByText := true, laidKinds := [.data], laidTests := true, laidLooks := .later }
def StoreAsksCardSaid : Prop := Claim7.holds Tryz.pinned (.plain (OpenSpec.ofChange storeAsksSpec)) storeAsksCard

/-- THE TIED CARD OF 'harrowlaw11.StoreMounts'. -/
def storeMountsCard : Claim7 := { stood := { row := storeMountsRow, standIns := [], harness := (true, "e35505ca3bd15ec35c58bd95018fe0607621dc37ca7fa3381fd5f27ec76e6862"), looks := true }, kinds := [], alts := [], laidByText := true, laidKinds := [.data], laidTests := true, laidLooks := .later }
def StoreMountsCardSaid : Prop := Claim7.holds Tryz.pinned (.plain (OpenSpec.ofChange storeMountsSpec)) storeMountsCard

/-- THE TIED CARD OF 'harrowlaw11.StoreCrashes'. -/
def storeCrashesCard : Claim7 := { stood := { row := storeCrashesRow, standIns := [], harness := (true, "e35505ca3bd15ec35c58bd95018fe0607621dc37ca7fa3381fd5f27ec76e6862"), looks := true }, kinds := [], alts := [], laidByText := true, laidKinds := [.data], laidTests := true, laidLooks := .later }
def StoreCrashesCardSaid : Prop := Claim7.holds Tryz.pinned (.plain (OpenSpec.ofChange storeCrashesSpec)) storeCrashesCard

/-- THE TIED CARD OF 'harrowlaw11.StoreFresh'. -/
def storeFreshCard : Claim7 := { stood := { row := storeFreshRow, standIns := [], harness := (true, "e35505ca3bd15ec35c58bd95018fe0607621dc37ca7fa3381fd5f27ec76e6862"), looks := true }, kinds := [], alts := [], laidByText := true, laidKinds := [.data], laidTests := true, laidLooks := .later }
def StoreFreshCardSaid : Prop := Claim7.holds Tryz.pinned (.plain (OpenSpec.ofChange storeFreshSpec)) storeFreshCard

/-- THE TIED CARD OF 'harrowlaw11.StoreKeeps'. -/
def storeKeepsCard : Claim7 := { stood := { row := storeKeepsRow, standIns := [], harness := (true, "e35505ca3bd15ec35c58bd95018fe0607621dc37ca7fa3381fd5f27ec76e6862"), looks := true }, kinds := [], alts := [], laidByText := true, laidKinds := [.data], laidTests := true, laidLooks := .later }
def StoreKeepsCardSaid : Prop := Claim7.holds Tryz.pinned (.plain (OpenSpec.ofChange storeKeepsSpec)) storeKeepsCard

/-- THE SECOND FORM's CARD OF 'harrowlaw11.StoreForms'. -/
def storeFormsUptoCard : Claim7 := { stood := { row := storeFormsUptoRow, standIns := [], harness := (true, "e35505ca3bd15ec35c58bd95018fe0607621dc37ca7fa3381fd5f27ec76e6862"), looks := true }, kinds := [], alts := [], laidByText := true, laidKinds := [.data], laidTests := true, laidLooks := .later }
def StoreFormsUptoCardSaid : Prop := Claim7.holds Tryz.pinned (.plain (OpenSpec.upto storeFormsSpec)) storeFormsUptoCard

/-- THE SECOND FORM's CARD OF 'harrowlaw11.StoreAsks'. -/
def storeAsksUptoCard : Claim7 := { stood := { row := storeAsksUptoRow, standIns := [], harness := (true, "e35505ca3bd15ec35c58bd95018fe0607621dc37ca7fa3381fd5f27ec76e6862"), looks := true }, kinds := [], alts := [], laidByText := true, laidKinds := [.data], laidTests := true, laidLooks := .later }
def StoreAsksUptoCardSaid : Prop := Claim7.holds Tryz.pinned (.plain (OpenSpec.upto storeAsksSpec)) storeAsksUptoCard

/-- THE SECOND FORM's CARD OF 'harrowlaw11.StoreMounts'. -/
def storeMountsUptoCard : Claim7 := { stood := { row := storeMountsUptoRow, standIns := [], harness := (true, "e35505ca3bd15ec35c58bd95018fe0607621dc37ca7fa3381fd5f27ec76e6862"), looks := true }, kinds := [], alts := [], laidByText := true, laidKinds := [.data], laidTests := true, laidLooks := .later }
def StoreMountsUptoCardSaid : Prop := Claim7.holds Tryz.pinned (.plain (OpenSpec.upto storeMountsSpec)) storeMountsUptoCard

/-- THE SECOND FORM's CARD OF 'harrowlaw11.StoreCrashes'. -/
def storeCrashesUptoCard : Claim7 := { stood := { row := storeCrashesUptoRow, standIns := [], harness := (true, "e35505ca3bd15ec35c58bd95018fe0607621dc37ca7fa3381fd5f27ec76e6862"), looks := true }, kinds := [], alts := [], laidByText := true, laidKinds := [.data], laidTests := true, laidLooks := .later }
def StoreCrashesUptoCardSaid : Prop := Claim7.holds Tryz.pinned (.plain (OpenSpec.upto storeCrashesSpec)) storeCrashesUptoCard

/-- THE SECOND FORM's CARD OF 'harrowlaw11.StoreFresh'. -/
def storeFreshUptoCard : Claim7 := { stood := { row := storeFreshUptoRow, standIns := [], harness := (true, "e35505ca3bd15ec35c58bd95018fe0607621dc37ca7fa3381fd5f27ec76e6862"), looks := true }, kinds := [], alts := [], laidByText := true, laidKinds := [.data], laidTests := true, laidLooks := .later }
def StoreFreshUptoCardSaid : Prop := Claim7.holds Tryz.pinned (.plain (OpenSpec.upto storeFreshSpec)) storeFreshUptoCard

/-- THE SECOND FORM's CARD OF 'harrowlaw11.StoreKeeps'. -/
def storeKeepsUptoCard : Claim7 := { stood := { row := storeKeepsUptoRow, standIns := [], harness := (true, "e35505ca3bd15ec35c58bd95018fe0607621dc37ca7fa3381fd5f27ec76e6862"), looks := true }, kinds := [], alts := [], laidByText := true, laidKinds := [.data], laidTests := true, laidLooks := .later }
def StoreKeepsUptoCardSaid : Prop := Claim7.holds Tryz.pinned (.plain (OpenSpec.upto storeKeepsSpec)) storeKeepsUptoCard
end Rows
end Go.Proofs.YtdafdidmbeecfaaGreatDoor
