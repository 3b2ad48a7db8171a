/-
  NARROWER THAN 'FOR EVERY INPUT', by the rows' own cells (each row's printed sentence says how): CallsLists: laid · CallsSame: laid · CallsMoves: laid · CallsHoles: laid.
  DERIVED. THE GIVEN ROWS OF THIS SEAT. 4 by the template 'for every input the law returns true; each argument reads behind the call as it read before'; 0 by the template 'total and deterministic' (their statements: YtebfaobobccikaaGreatDoorTotals.lean).
  GIVEN WITH THE SEED: the statements are not yours to turn. If you find one false, say at which input.
  Laid BY PROGRAM, IN A SANDBOX (cutbox-rows.mjs): the forced cells as the released guide's own fill.sh prints them over the translation d677e5826109c782… (all of the seat's roots in one cut). By AI agents, Wed Nov 11 2026. No macro, syntax, notation, axiom, sorry.
-/
import Derived.Test.YtebfaobobccikaaGreatDoorChecked
import GoSem.Claim
import GoSem.ClaimJoined
import GoSem.ClaimMapViews
import Derived.JoinedTies
import Derived.KernelRfl
namespace Go.Proofs.YtebfaobobccikaaGreatDoor
/- THE CELL 'sum', in the pinned program and in every row, IS THE sha256 OF THE DUMP (.gsa) THAT YtebfaobobccikaaGreatDoorProg.lean LOADS. Nothing in Lean hashes anything: it is a label: what it is worth is what the hold of that sum in a sandbox is worth. -/
noncomputable def Tryz.pinned : Pinned := { name := "ytebfaobobccikaagreatdoor", sum := "d677e5826109c78268d53b6e21b6873ea1f28f072effa65773c75bf254d0f3e4", checked := Tryz.checked }
namespace Rows
def none {H : Type} : Left H := { results := [], args := [] }

/- WHAT THE LISTED PACKAGE-LEVEL VARIABLES READ AS WHEN THE CALL BEGINS. Each datum BY PROGRAM (the guide's laid-datum.mjs) off the statement by which the dump's own 'gosem.cut.vars' lays the variable. In a bare row this is a premise. The card (YtebfaobobccikaaGreatDoorCards.lean) ties it to the program's text. -/
def laid_harrow_crc_half {H : Type} : DataW H := .agg [.lit (.int .u32 0), .lit (.int .u32 498536548), .lit (.int .u32 997073096), .lit (.int .u32 651767980), .lit (.int .u32 1994146192), .lit (.int .u32 1802195444), .lit (.int .u32 1303535960), .lit (.int .u32 1342533948), .lit (.int .u32 3988292384), .lit (.int .u32 4027552580), .lit (.int .u32 3604390888), .lit (.int .u32 3412177804), .lit (.int .u32 2607071920), .lit (.int .u32 2262029012), .lit (.int .u32 2685067896), .lit (.int .u32 3183342108)]

/-- 'harrowlaw19.CallsLists': WHATEVER THE INPUT: true; the input reads as it did. -/
def callsListsSpec : ChangeSpec := { name := "callsLists", fn := fun _ => fun
  | [d] => { results := [.lit (.bool true)], args := [d] }
  | _ => none }
def callsListsRow : OpenClaim := { program := "ytebfaobobccikaagreatdoor", sum := "d677e5826109c78268d53b6e21b6873ea1f28f072effa65773c75bf254d0f3e4", func := "harrow/harrowlaw19.CallsLists", spec := "callsLists", inPlace := ["internal/bytealg.IndexByteString", "internal/bytealg.abigen_runtime_cmpstring"], unfollowed := true, recurses := true, named := ["harrow/crc.half"], apart := false, laid := [("harrow/crc.half", laid_harrow_crc_half)] }
def CallsListsSaid : Prop := callsListsRow.holds Tryz.pinned (OpenSpec.ofChange callsListsSpec)

/-- ITS FALSE NEIGHBOUR: 'it returns false'. Refute it at one input. -/
def callsListsWrong : ChangeSpec := { name := "callsLists", fn := fun _ => fun
  | [d] => { results := [.lit (.bool false)], args := [d] }
  | _ => none }
def CallsListsWrongFalsely : Prop := callsListsRow.holds Tryz.pinned (OpenSpec.ofChange callsListsWrong)

/-- 'harrowlaw19.CallsSame': WHATEVER THE INPUT: true; the input reads as it did. -/
def callsSameSpec : ChangeSpec := { name := "callsSame", fn := fun _ => fun
  | [d1, d2, d3] => { results := [.lit (.bool true)], args := [d1, d2, d3] }
  | _ => none }
def callsSameRow : OpenClaim := { program := "ytebfaobobccikaagreatdoor", sum := "d677e5826109c78268d53b6e21b6873ea1f28f072effa65773c75bf254d0f3e4", func := "harrow/harrowlaw19.CallsSame", spec := "callsSame", inPlace := ["internal/bytealg.IndexByteString", "internal/bytealg.abigen_runtime_cmpstring"], unfollowed := true, recurses := true, named := ["harrow/crc.half"], apart := false, laid := [("harrow/crc.half", laid_harrow_crc_half)] }
def CallsSameSaid : Prop := callsSameRow.holds Tryz.pinned (OpenSpec.ofChange callsSameSpec)

/-- ITS FALSE NEIGHBOUR: 'it returns false'. Refute it at one input. -/
def callsSameWrong : ChangeSpec := { name := "callsSame", fn := fun _ => fun
  | [d1, d2, d3] => { results := [.lit (.bool false)], args := [d1, d2, d3] }
  | _ => none }
def CallsSameWrongFalsely : Prop := callsSameRow.holds Tryz.pinned (OpenSpec.ofChange callsSameWrong)

/-- 'harrowlaw19.CallsMoves': WHATEVER THE INPUT: true; the input reads as it did. -/
def callsMovesSpec : ChangeSpec := { name := "callsMoves", fn := fun _ => fun
  | [d1, d2] => { results := [.lit (.bool true)], args := [d1, d2] }
  | _ => none }
def callsMovesRow : OpenClaim := { program := "ytebfaobobccikaagreatdoor", sum := "d677e5826109c78268d53b6e21b6873ea1f28f072effa65773c75bf254d0f3e4", func := "harrow/harrowlaw19.CallsMoves", spec := "callsMoves", inPlace := ["internal/bytealg.IndexByteString", "internal/bytealg.abigen_runtime_cmpstring"], unfollowed := true, recurses := true, named := ["harrow/crc.half"], apart := false, laid := [("harrow/crc.half", laid_harrow_crc_half)] }
def CallsMovesSaid : Prop := callsMovesRow.holds Tryz.pinned (OpenSpec.ofChange callsMovesSpec)

/-- ITS FALSE NEIGHBOUR: 'it returns false'. Refute it at one input. -/
def callsMovesWrong : ChangeSpec := { name := "callsMoves", fn := fun _ => fun
  | [d1, d2] => { results := [.lit (.bool false)], args := [d1, d2] }
  | _ => none }
def CallsMovesWrongFalsely : Prop := callsMovesRow.holds Tryz.pinned (OpenSpec.ofChange callsMovesWrong)

/-- 'harrowlaw19.CallsHoles': WHATEVER THE INPUT: true; the input reads as it did. -/
def callsHolesSpec : ChangeSpec := { name := "callsHoles", fn := fun _ => fun
  | [d1, d2, d3] => { results := [.lit (.bool true)], args := [d1, d2, d3] }
  | _ => none }
def callsHolesRow : OpenClaim := { program := "ytebfaobobccikaagreatdoor", sum := "d677e5826109c78268d53b6e21b6873ea1f28f072effa65773c75bf254d0f3e4", func := "harrow/harrowlaw19.CallsHoles", spec := "callsHoles", inPlace := ["internal/bytealg.IndexByteString", "internal/bytealg.abigen_runtime_cmpstring"], unfollowed := true, recurses := true, named := ["harrow/crc.half"], apart := false, laid := [("harrow/crc.half", laid_harrow_crc_half)] }
def CallsHolesSaid : Prop := callsHolesRow.holds Tryz.pinned (OpenSpec.ofChange callsHolesSpec)

/-- ITS FALSE NEIGHBOUR: 'it returns false'. Refute it at one input. -/
def callsHolesWrong : ChangeSpec := { name := "callsHoles", fn := fun _ => fun
  | [d1, d2, d3] => { results := [.lit (.bool false)], args := [d1, d2, d3] }
  | _ => none }
def CallsHolesWrongFalsely : Prop := callsHolesRow.holds Tryz.pinned (OpenSpec.ofChange callsHolesWrong)

/- THE SECOND FORM. 'bulk': how many values and letters a reading holds, each counted each time it is reached (what is shared counts as often as it is met; a slice's spare places count too). A statement '..UptoSaid' is the law's where the arguments, and the package variables that the reading takes, are together of bulk at most 1048576: NARROWER than '..Said'. Prove '..Said' where nothing that the law and all that it calls make is longer than what came in: it says more and counts as full. Else prove '..UptoSaid'. A law counts once. -/
mutual
def uptoBulk {H : Type} : DataW H → Nat
  | .lit (.string bytes) => bytes.length + 1
  | .lit _ => 1
  | .nil => 1
  | .ptr d => uptoBulk d + 1
  | .slice elems spare => uptoBulkAll elems + uptoBulkAll spare + 1
  | .agg parts => uptoBulkAll parts + 1
  | .iface _ d => uptoBulk d + 1
  | .map entries => uptoBulkEntries entries + 1
  | .held _ => 1
def uptoBulkAll {H : Type} : List (DataW H) → Nat
  | [] => 0
  | d :: r => uptoBulk d + uptoBulkAll r
def uptoBulkEntries {H : Type} : List (Lit × DataW H) → Nat
  | [] => 0
  | x :: r => uptoBulkEntry x + uptoBulkEntries r
def uptoBulkEntry {H : Type} : Lit × DataW H → Nat
  | (.string bytes, d) => bytes.length + uptoBulk d + 1
  | (_, d) => uptoBulk d + 1
 end
def uptoSmall : (H : Type) → List (DataW H) → Bool := fun _ ds => decide (uptoBulkAll ds ≤ 1048576)
def OpenSpec.upto (s : _root_.Go.ChangeSpec) : _root_.Go.OpenSpec := { _root_.Go.OpenSpec.ofChange s with cond := some uptoSmall }

/-- 'harrowlaw19.CallsLists', WHERE WHAT IT READS IS OF BULK AT MOST 1048576: true; the input reads as it did. -/
def callsListsUptoRow : OpenClaim := { program := "ytebfaobobccikaagreatdoor", sum := "d677e5826109c78268d53b6e21b6873ea1f28f072effa65773c75bf254d0f3e4", func := "harrow/harrowlaw19.CallsLists", spec := "callsLists", inPlace := ["internal/bytealg.IndexByteString", "internal/bytealg.abigen_runtime_cmpstring"], unfollowed := true, recurses := true, named := ["harrow/crc.half"], apart := false, laid := [("harrow/crc.half", laid_harrow_crc_half)], narrowed := true }
def CallsListsUptoSaid : Prop := callsListsUptoRow.holds Tryz.pinned (OpenSpec.upto callsListsSpec)

/-- 'harrowlaw19.CallsSame', WHERE WHAT IT READS IS OF BULK AT MOST 1048576: true; the input reads as it did. -/
def callsSameUptoRow : OpenClaim := { program := "ytebfaobobccikaagreatdoor", sum := "d677e5826109c78268d53b6e21b6873ea1f28f072effa65773c75bf254d0f3e4", func := "harrow/harrowlaw19.CallsSame", spec := "callsSame", inPlace := ["internal/bytealg.IndexByteString", "internal/bytealg.abigen_runtime_cmpstring"], unfollowed := true, recurses := true, named := ["harrow/crc.half"], apart := false, laid := [("harrow/crc.half", laid_harrow_crc_half)], narrowed := true }
def CallsSameUptoSaid : Prop := callsSameUptoRow.holds Tryz.pinned (OpenSpec.upto callsSameSpec)

/-- 'harrowlaw19.CallsMoves', WHERE WHAT IT READS IS OF BULK AT MOST 1048576: true; the input reads as it did. -/
def callsMovesUptoRow : OpenClaim := { program := "ytebfaobobccikaagreatdoor", sum := "d677e5826109c78268d53b6e21b6873ea1f28f072effa65773c75bf254d0f3e4", func := "harrow/harrowlaw19.CallsMoves", spec := "callsMoves", inPlace := ["internal/bytealg.IndexByteString", "internal/bytealg.abigen_runtime_cmpstring"], unfollowed := true, recurses := true, named := ["harrow/crc.half"], apart := false, laid := [("harrow/crc.half", laid_harrow_crc_half)], narrowed := true }
def CallsMovesUptoSaid : Prop := callsMovesUptoRow.holds Tryz.pinned (OpenSpec.upto callsMovesSpec)

/-- 'harrowlaw19.CallsHoles', WHERE WHAT IT READS IS OF BULK AT MOST 1048576: true; the input reads as it did. -/
def callsHolesUptoRow : OpenClaim := { program := "ytebfaobobccikaagreatdoor", sum := "d677e5826109c78268d53b6e21b6873ea1f28f072effa65773c75bf254d0f3e4", func := "harrow/harrowlaw19.CallsHoles", spec := "callsHoles", inPlace := ["internal/bytealg.IndexByteString", "internal/bytealg.abigen_runtime_cmpstring"], unfollowed := true, recurses := true, named := ["harrow/crc.half"], apart := false, laid := [("harrow/crc.half", laid_harrow_crc_half)], narrowed := true }
def CallsHolesUptoSaid : Prop := callsHolesUptoRow.holds Tryz.pinned (OpenSpec.upto callsHolesSpec)

end Rows
end Go.Proofs.YtebfaobobccikaaGreatDoor
