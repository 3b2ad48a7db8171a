/-
  NARROWER THAN 'FOR EVERY INPUT', by the rows' own cells (each row's printed sentence says how): CallsOpens: laid · CallsSeeks: laid · CallsDeep: laid · CallsPlaces: laid.
  DERIVED. THE GIVEN ROWS OF THIS SEAT. 4 by the template 'for every input the law returns true; each argument reads behind the call as it read before'; 0 by the template 'total and deterministic' (their statements: YtacliaemfegopaaGreatDoorTotals.lean).
  GIVEN WITH THE SEED: the statements are not yours to turn. If you find one false, say at which input.
  Laid BY PROGRAM, IN A SANDBOX (cutbox-rows.mjs): the forced cells as the released guide's own fill.sh prints them over the translation 960694147269fe41… (all of the seat's roots in one cut). By AI agents, Wed Nov 11 2026. No macro, syntax, notation, axiom, sorry.
-/
import Derived.Test.YtacliaemfegopaaGreatDoorChecked
import GoSem.Claim
import GoSem.ClaimJoined
import GoSem.ClaimMapViews
import Derived.JoinedTies
import Derived.KernelRfl
namespace Go.Proofs.YtacliaemfegopaaGreatDoor
/- THE CELL 'sum', in the pinned program and in every row, IS THE sha256 OF THE DUMP (.gsa) THAT YtacliaemfegopaaGreatDoorProg.lean LOADS. Nothing in Lean hashes anything: it is a label: what it is worth is what the hold of that sum in a sandbox is worth. -/
noncomputable def Tryz.pinned : Pinned := { name := "ytacliaemfegopaagreatdoor", sum := "960694147269fe41a16121020bb5fe15cce67ed65e0a9ca0f3b1a228d364dd81", checked := Tryz.checked }
namespace Rows
def none {H : Type} : Left H := { results := [], args := [] }

/- WHAT THE LISTED PACKAGE-LEVEL VARIABLES READ AS WHEN THE CALL BEGINS. Each datum BY PROGRAM (the guide's laid-datum.mjs) off the statement by which the dump's own 'gosem.cut.vars' lays the variable. In a bare row this is a premise. The card (YtacliaemfegopaaGreatDoorCards.lean) ties it to the program's text. -/
def laid_harrow_crc_half {H : Type} : DataW H := .agg [.lit (.int .u32 0), .lit (.int .u32 498536548), .lit (.int .u32 997073096), .lit (.int .u32 651767980), .lit (.int .u32 1994146192), .lit (.int .u32 1802195444), .lit (.int .u32 1303535960), .lit (.int .u32 1342533948), .lit (.int .u32 3988292384), .lit (.int .u32 4027552580), .lit (.int .u32 3604390888), .lit (.int .u32 3412177804), .lit (.int .u32 2607071920), .lit (.int .u32 2262029012), .lit (.int .u32 2685067896), .lit (.int .u32 3183342108)]

/-- 'harrowlaw19.CallsOpens': WHATEVER THE INPUT: true; the input reads as it did. -/
def callsOpensSpec : ChangeSpec := { name := "callsOpens", fn := fun _ => fun
  | [d] => { results := [.lit (.bool true)], args := [d] }
  | _ => none }
def callsOpensRow : OpenClaim := { program := "ytacliaemfegopaagreatdoor", sum := "960694147269fe41a16121020bb5fe15cce67ed65e0a9ca0f3b1a228d364dd81", func := "harrow/harrowlaw19.CallsOpens", spec := "callsOpens", inPlace := ["internal/bytealg.IndexByteString", "internal/bytealg.abigen_runtime_cmpstring"], unfollowed := true, recurses := true, named := ["harrow/crc.half"], apart := false, laid := [("harrow/crc.half", laid_harrow_crc_half)] }
def CallsOpensSaid : Prop := callsOpensRow.holds Tryz.pinned (OpenSpec.ofChange callsOpensSpec)

/-- ITS FALSE NEIGHBOUR: 'it returns false'. Refute it at one input. -/
def callsOpensWrong : ChangeSpec := { name := "callsOpens", fn := fun _ => fun
  | [d] => { results := [.lit (.bool false)], args := [d] }
  | _ => none }
def CallsOpensWrongFalsely : Prop := callsOpensRow.holds Tryz.pinned (OpenSpec.ofChange callsOpensWrong)

/-- 'harrowlaw19.CallsSeeks': WHATEVER THE INPUT: true; the input reads as it did. -/
def callsSeeksSpec : ChangeSpec := { name := "callsSeeks", fn := fun _ => fun
  | [d1, d2] => { results := [.lit (.bool true)], args := [d1, d2] }
  | _ => none }
def callsSeeksRow : OpenClaim := { program := "ytacliaemfegopaagreatdoor", sum := "960694147269fe41a16121020bb5fe15cce67ed65e0a9ca0f3b1a228d364dd81", func := "harrow/harrowlaw19.CallsSeeks", spec := "callsSeeks", inPlace := ["internal/bytealg.IndexByteString", "internal/bytealg.abigen_runtime_cmpstring"], unfollowed := true, recurses := true, named := ["harrow/crc.half"], apart := false, laid := [("harrow/crc.half", laid_harrow_crc_half)] }
def CallsSeeksSaid : Prop := callsSeeksRow.holds Tryz.pinned (OpenSpec.ofChange callsSeeksSpec)

/-- ITS FALSE NEIGHBOUR: 'it returns false'. Refute it at one input. -/
def callsSeeksWrong : ChangeSpec := { name := "callsSeeks", fn := fun _ => fun
  | [d1, d2] => { results := [.lit (.bool false)], args := [d1, d2] }
  | _ => none }
def CallsSeeksWrongFalsely : Prop := callsSeeksRow.holds Tryz.pinned (OpenSpec.ofChange callsSeeksWrong)

/-- 'harrowlaw19.CallsDeep': WHATEVER THE INPUT: true; the input reads as it did. -/
def callsDeepSpec : ChangeSpec := { name := "callsDeep", fn := fun _ => fun
  | [d] => { results := [.lit (.bool true)], args := [d] }
  | _ => none }
def callsDeepRow : OpenClaim := { program := "ytacliaemfegopaagreatdoor", sum := "960694147269fe41a16121020bb5fe15cce67ed65e0a9ca0f3b1a228d364dd81", func := "harrow/harrowlaw19.CallsDeep", spec := "callsDeep", inPlace := ["internal/bytealg.IndexByteString", "internal/bytealg.abigen_runtime_cmpstring"], unfollowed := true, recurses := true, named := ["harrow/crc.half"], apart := false, laid := [("harrow/crc.half", laid_harrow_crc_half)] }
def CallsDeepSaid : Prop := callsDeepRow.holds Tryz.pinned (OpenSpec.ofChange callsDeepSpec)

/-- ITS FALSE NEIGHBOUR: 'it returns false'. Refute it at one input. -/
def callsDeepWrong : ChangeSpec := { name := "callsDeep", fn := fun _ => fun
  | [d] => { results := [.lit (.bool false)], args := [d] }
  | _ => none }
def CallsDeepWrongFalsely : Prop := callsDeepRow.holds Tryz.pinned (OpenSpec.ofChange callsDeepWrong)

/-- 'harrowlaw19.CallsPlaces': WHATEVER THE INPUT: true; the input reads as it did. -/
def callsPlacesSpec : ChangeSpec := { name := "callsPlaces", fn := fun _ => fun
  | [d1, d2] => { results := [.lit (.bool true)], args := [d1, d2] }
  | _ => none }
def callsPlacesRow : OpenClaim := { program := "ytacliaemfegopaagreatdoor", sum := "960694147269fe41a16121020bb5fe15cce67ed65e0a9ca0f3b1a228d364dd81", func := "harrow/harrowlaw19.CallsPlaces", spec := "callsPlaces", inPlace := ["internal/bytealg.IndexByteString", "internal/bytealg.abigen_runtime_cmpstring"], unfollowed := true, recurses := true, named := ["harrow/crc.half"], apart := false, laid := [("harrow/crc.half", laid_harrow_crc_half)] }
def CallsPlacesSaid : Prop := callsPlacesRow.holds Tryz.pinned (OpenSpec.ofChange callsPlacesSpec)

/-- ITS FALSE NEIGHBOUR: 'it returns false'. Refute it at one input. -/
def callsPlacesWrong : ChangeSpec := { name := "callsPlaces", fn := fun _ => fun
  | [d1, d2] => { results := [.lit (.bool false)], args := [d1, d2] }
  | _ => none }
def CallsPlacesWrongFalsely : Prop := callsPlacesRow.holds Tryz.pinned (OpenSpec.ofChange callsPlacesWrong)

/- THE SECOND FORM. 'bulk': how many values and letters a reading holds, each counted each time it is reached (what is shared counts as often as it is met; a slice's spare places count too). A statement '..UptoSaid' is the law's where the arguments, and the package variables that the reading takes, are together of bulk at most 1048576: NARROWER than '..Said'. Prove '..Said' where nothing that the law and all that it calls make is longer than what came in: it says more and counts as full. Else prove '..UptoSaid'. A law counts once. -/
mutual
def uptoBulk {H : Type} : DataW H → Nat
  | .lit (.string bytes) => bytes.length + 1
  | .lit _ => 1
  | .nil => 1
  | .ptr d => uptoBulk d + 1
  | .slice elems spare => uptoBulkAll elems + uptoBulkAll spare + 1
  | .agg parts => uptoBulkAll parts + 1
  | .iface _ d => uptoBulk d + 1
  | .map entries => uptoBulkEntries entries + 1
  | .held _ => 1
def uptoBulkAll {H : Type} : List (DataW H) → Nat
  | [] => 0
  | d :: r => uptoBulk d + uptoBulkAll r
def uptoBulkEntries {H : Type} : List (Lit × DataW H) → Nat
  | [] => 0
  | x :: r => uptoBulkEntry x + uptoBulkEntries r
def uptoBulkEntry {H : Type} : Lit × DataW H → Nat
  | (.string bytes, d) => bytes.length + uptoBulk d + 1
  | (_, d) => uptoBulk d + 1
 end
def uptoSmall : (H : Type) → List (DataW H) → Bool := fun _ ds => decide (uptoBulkAll ds ≤ 1048576)
def OpenSpec.upto (s : _root_.Go.ChangeSpec) : _root_.Go.OpenSpec := { _root_.Go.OpenSpec.ofChange s with cond := some uptoSmall }

/-- 'harrowlaw19.CallsOpens', WHERE WHAT IT READS IS OF BULK AT MOST 1048576: true; the input reads as it did. -/
def callsOpensUptoRow : OpenClaim := { program := "ytacliaemfegopaagreatdoor", sum := "960694147269fe41a16121020bb5fe15cce67ed65e0a9ca0f3b1a228d364dd81", func := "harrow/harrowlaw19.CallsOpens", spec := "callsOpens", inPlace := ["internal/bytealg.IndexByteString", "internal/bytealg.abigen_runtime_cmpstring"], unfollowed := true, recurses := true, named := ["harrow/crc.half"], apart := false, laid := [("harrow/crc.half", laid_harrow_crc_half)], narrowed := true }
def CallsOpensUptoSaid : Prop := callsOpensUptoRow.holds Tryz.pinned (OpenSpec.upto callsOpensSpec)

/-- 'harrowlaw19.CallsSeeks', WHERE WHAT IT READS IS OF BULK AT MOST 1048576: true; the input reads as it did. -/
def callsSeeksUptoRow : OpenClaim := { program := "ytacliaemfegopaagreatdoor", sum := "960694147269fe41a16121020bb5fe15cce67ed65e0a9ca0f3b1a228d364dd81", func := "harrow/harrowlaw19.CallsSeeks", spec := "callsSeeks", inPlace := ["internal/bytealg.IndexByteString", "internal/bytealg.abigen_runtime_cmpstring"], unfollowed := true, recurses := true, named := ["harrow/crc.half"], apart := false, laid := [("harrow/crc.half", laid_harrow_crc_half)], narrowed := true }
def CallsSeeksUptoSaid : Prop := callsSeeksUptoRow.holds Tryz.pinned (OpenSpec.upto callsSeeksSpec)

/-- 'harrowlaw19.CallsDeep', WHERE WHAT IT READS IS OF BULK AT MOST 1048576: true; the input reads as it did. -/
def callsDeepUptoRow : OpenClaim := { program := "ytacliaemfegopaagreatdoor", sum := "960694147269fe41a16121020bb5fe15cce67ed65e0a9ca0f3b1a228d364dd81", func := "harrow/harrowlaw19.CallsDeep", spec := "callsDeep", inPlace := ["internal/bytealg.IndexByteString", "internal/bytealg.abigen_runtime_cmpstring"], unfollowed := true, recurses := true, named := ["harrow/crc.half"], apart := false, laid := [("harrow/crc.half", laid_harrow_crc_half)], narrowed := true }
def CallsDeepUptoSaid : Prop := callsDeepUptoRow.holds Tryz.pinned (OpenSpec.upto callsDeepSpec)

/-- 'harrowlaw19.CallsPlaces', WHERE WHAT IT READS IS OF BULK AT MOST 1048576: true; the input reads as it did. -/
def callsPlacesUptoRow : OpenClaim := { program := "ytacliaemfegopaagreatdoor", sum := "960694147269fe41a16121020bb5fe15cce67ed65e0a9ca0f3b1a228d364dd81", func := "harrow/harrowlaw19.CallsPlaces", spec := "callsPlaces", inPlace := ["internal/bytealg.IndexByteString", "internal/bytealg.abigen_runtime_cmpstring"], unfollowed := true, recurses := true, named := ["harrow/crc.half"], apart := false, laid := [("harrow/crc.half", laid_harrow_crc_half)], narrowed := true }
def CallsPlacesUptoSaid : Prop := callsPlacesUptoRow.holds Tryz.pinned (OpenSpec.upto callsPlacesSpec)

end Rows
end Go.Proofs.YtacliaemfegopaaGreatDoor
