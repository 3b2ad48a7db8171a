/-
  NARROWER THAN 'FOR EVERY INPUT', by the rows' own cells (each row's printed sentence says how): StoreForms: laid · StoreAsks: laid · StoreMounts: laid · StoreCrashes: laid · StoreFresh: laid · StoreKeeps: laid.
  DERIVED. THE GIVEN ROWS OF THIS SEAT. 6 by the template 'for every input the law returns true; each argument reads behind the call as it read before'; 0 by the template 'total and deterministic' (their statements: YtdafdidmbeecfaaGreatDoorTotals.lean).
  GIVEN WITH THE SEED: the statements are not yours to turn. If you find one false, say at which input.
  Laid BY PROGRAM, IN A SANDBOX (cutbox-rows.mjs): the forced cells as the released guide's own fill.sh prints them over the translation 600a5932a47fc2a6… (all of the seat's roots in one cut). By AI agents, Wed Nov 11 2026. No macro, syntax, notation, axiom, sorry.
-/
import Derived.Test.YtdafdidmbeecfaaGreatDoorChecked
import GoSem.Claim
import GoSem.ClaimJoined
import GoSem.ClaimMapViews
import Derived.JoinedTies
import Derived.KernelRfl
namespace Go.Proofs.YtdafdidmbeecfaaGreatDoor
/- THE CELL 'sum', in the pinned program and in every row, IS THE sha256 OF THE DUMP (.gsa) THAT YtdafdidmbeecfaaGreatDoorProg.lean LOADS. Nothing in Lean hashes anything: it is a label: what it is worth is what the hold of that sum in a sandbox is worth. -/
noncomputable def Tryz.pinned : Pinned := { name := "ytdafdidmbeecfaagreatdoor", sum := "600a5932a47fc2a6571064d8dfd0e054ae27a4981c22ef6fb66ba7f7c69bc76a", checked := Tryz.checked }
namespace Rows
def none {H : Type} : Left H := { results := [], args := [] }

/- WHAT THE LISTED PACKAGE-LEVEL VARIABLES READ AS WHEN THE CALL BEGINS. Each datum BY PROGRAM (the guide's laid-datum.mjs) off the statement by which the dump's own 'gosem.cut.vars' lays the variable. In a bare row this is a premise. The card (YtdafdidmbeecfaaGreatDoorCards.lean) ties it to the program's text. -/
def laid_harrow_crc_half {H : Type} : DataW H := .agg [.lit (.int .u32 0), .lit (.int .u32 498536548), .lit (.int .u32 997073096), .lit (.int .u32 651767980), .lit (.int .u32 1994146192), .lit (.int .u32 1802195444), .lit (.int .u32 1303535960), .lit (.int .u32 1342533948), .lit (.int .u32 3988292384), .lit (.int .u32 4027552580), .lit (.int .u32 3604390888), .lit (.int .u32 3412177804), .lit (.int .u32 2607071920), .lit (.int .u32 2262029012), .lit (.int .u32 2685067896), .lit (.int .u32 3183342108)]

/-- 'harrowlaw11.StoreForms': WHATEVER THE INPUT: true; the input reads as it did. -/
def storeFormsSpec : ChangeSpec := { name := "storeForms", fn := fun _ => fun
  | [d1, d2, d3] => { results := [.lit (.bool true)], args := [d1, d2, d3] }
  | _ => none }
def storeFormsRow : OpenClaim := { program := "ytdafdidmbeecfaagreatdoor", sum := "600a5932a47fc2a6571064d8dfd0e054ae27a4981c22ef6fb66ba7f7c69bc76a", func := "harrow/harrowlaw11.StoreForms", spec := "storeForms", unfollowed := true, recurses := true, named := ["harrow/crc.half"], apart := false, laid := [("harrow/crc.half", laid_harrow_crc_half)] }
def StoreFormsSaid : Prop := storeFormsRow.holds Tryz.pinned (OpenSpec.ofChange storeFormsSpec)

/-- ITS FALSE NEIGHBOUR: 'it returns false'. Refute it at one input. -/
def storeFormsWrong : ChangeSpec := { name := "storeForms", fn := fun _ => fun
  | [d1, d2, d3] => { results := [.lit (.bool false)], args := [d1, d2, d3] }
  | _ => none }
def StoreFormsWrongFalsely : Prop := storeFormsRow.holds Tryz.pinned (OpenSpec.ofChange storeFormsWrong)

/-- 'harrowlaw11.StoreAsks': WHATEVER THE INPUT: true; the input reads as it did. -/
def storeAsksSpec : ChangeSpec := { name := "storeAsks", fn := fun _ => fun
  | [d1, d2, d3] => { results := [.lit (.bool true)], args := [d1, d2, d3] }
  | _ => none }
def storeAsksRow : OpenClaim := { program := "ytdafdidmbeecfaagreatdoor", sum := "600a5932a47fc2a6571064d8dfd0e054ae27a4981c22ef6fb66ba7f7c69bc76a", func := "harrow/harrowlaw11.StoreAsks", spec := "storeAsks", unfollowed := true, recurses := true, named := ["harrow/crc.half"], apart := false, laid := [("harrow/crc.half", laid_harrow_crc_half)] }
def StoreAsksSaid : Prop := storeAsksRow.holds Tryz.pinned (OpenSpec.ofChange storeAsksSpec)

/-- ITS FALSE NEIGHBOUR: 'it returns false'. Refute it at one input. -/
def storeAsksWrong : ChangeSpec := { name := "storeAsks", fn := fun _ => fun
  | [d1, d2, d3] => { results := [.lit (.bool false)], args := [d1, d2, d3] }
  | _ => none }
def StoreAsksWrongFalsely : Prop := storeAsksRow.holds Tryz.pinned (OpenSpec.ofChange storeAsksWrong)

/-- 'harrowlaw11.StoreMounts': WHATEVER THE INPUT: true; the input reads as it did. -/
def storeMountsSpec : ChangeSpec := { name := "storeMounts", fn := fun _ => fun
  | [d1, d2, d3] => { results := [.lit (.bool true)], args := [d1, d2, d3] }
  | _ => none }
def storeMountsRow : OpenClaim := { program := "ytdafdidmbeecfaagreatdoor", sum := "600a5932a47fc2a6571064d8dfd0e054ae27a4981c22ef6fb66ba7f7c69bc76a", func := "harrow/harrowlaw11.StoreMounts", spec := "storeMounts", unfollowed := true, recurses := true, named := ["harrow/crc.half"], apart := false, laid := [("harrow/crc.half", laid_harrow_crc_half)] }
def StoreMountsSaid : Prop := storeMountsRow.holds Tryz.pinned (OpenSpec.ofChange storeMountsSpec)

/-- ITS FALSE NEIGHBOUR: 'it returns false'. Refute it at one input. -/
def storeMountsWrong : ChangeSpec := { name := "storeMounts", fn := fun _ => fun
  | [d1, d2, d3] => { results := [.lit (.bool false)], args := [d1, d2, d3] }
  | _ => none }
def StoreMountsWrongFalsely : Prop := storeMountsRow.holds Tryz.pinned (OpenSpec.ofChange storeMountsWrong)

/-- 'harrowlaw11.StoreCrashes': WHATEVER THE INPUT: true; the input reads as it did. -/
def storeCrashesSpec : ChangeSpec := { name := "storeCrashes", fn := fun _ => fun
  | [d1, d2] => { results := [.lit (.bool true)], args := [d1, d2] }
  | _ => none }
def storeCrashesRow : OpenClaim := { program := "ytdafdidmbeecfaagreatdoor", sum := "600a5932a47fc2a6571064d8dfd0e054ae27a4981c22ef6fb66ba7f7c69bc76a", func := "harrow/harrowlaw11.StoreCrashes", spec := "storeCrashes", unfollowed := true, recurses := true, named := ["harrow/crc.half"], apart := false, laid := [("harrow/crc.half", laid_harrow_crc_half)] }
def StoreCrashesSaid : Prop := storeCrashesRow.holds Tryz.pinned (OpenSpec.ofChange storeCrashesSpec)

/-- ITS FALSE NEIGHBOUR: 'it returns false'. Refute it at one input. -/
def storeCrashesWrong : ChangeSpec := { name := "storeCrashes", fn := fun _ => fun
  | [d1, d2] => { results := [.lit (.bool false)], args := [d1, d2] }
  | _ => none }
def StoreCrashesWrongFalsely : Prop := storeCrashesRow.holds Tryz.pinned (OpenSpec.ofChange storeCrashesWrong)

/-- 'harrowlaw11.StoreFresh': WHATEVER THE INPUT: true; the input reads as it did. -/
def storeFreshSpec : ChangeSpec := { name := "storeFresh", fn := fun _ => fun
  | [d1, d2, d3, d4] => { results := [.lit (.bool true)], args := [d1, d2, d3, d4] }
  | _ => none }
def storeFreshRow : OpenClaim := { program := "ytdafdidmbeecfaagreatdoor", sum := "600a5932a47fc2a6571064d8dfd0e054ae27a4981c22ef6fb66ba7f7c69bc76a", func := "harrow/harrowlaw11.StoreFresh", spec := "storeFresh", unfollowed := true, recurses := true, named := ["harrow/crc.half"], apart := false, laid := [("harrow/crc.half", laid_harrow_crc_half)] }
def StoreFreshSaid : Prop := storeFreshRow.holds Tryz.pinned (OpenSpec.ofChange storeFreshSpec)

/-- ITS FALSE NEIGHBOUR: 'it returns false'. Refute it at one input. -/
def storeFreshWrong : ChangeSpec := { name := "storeFresh", fn := fun _ => fun
  | [d1, d2, d3, d4] => { results := [.lit (.bool false)], args := [d1, d2, d3, d4] }
  | _ => none }
def StoreFreshWrongFalsely : Prop := storeFreshRow.holds Tryz.pinned (OpenSpec.ofChange storeFreshWrong)

/-- 'harrowlaw11.StoreKeeps': WHATEVER THE INPUT: true; the input reads as it did. -/
def storeKeepsSpec : ChangeSpec := { name := "storeKeeps", fn := fun _ => fun
  | [d1, d2] => { results := [.lit (.bool true)], args := [d1, d2] }
  | _ => none }
def storeKeepsRow : OpenClaim := { program := "ytdafdidmbeecfaagreatdoor", sum := "600a5932a47fc2a6571064d8dfd0e054ae27a4981c22ef6fb66ba7f7c69bc76a", func := "harrow/harrowlaw11.StoreKeeps", spec := "storeKeeps", unfollowed := true, recurses := true, named := ["harrow/crc.half"], apart := false, laid := [("harrow/crc.half", laid_harrow_crc_half)] }
def StoreKeepsSaid : Prop := storeKeepsRow.holds Tryz.pinned (OpenSpec.ofChange storeKeepsSpec)

/-- ITS FALSE NEIGHBOUR: 'it returns false'. Refute it at one input. -/
def storeKeepsWrong : ChangeSpec := { name := "storeKeeps", fn := fun _ => fun
  | [d1, d2] => { results := [.lit (.bool false)], args := [d1, d2] }
  | _ => none }
def StoreKeepsWrongFalsely : Prop := storeKeepsRow.holds Tryz.pinned (OpenSpec.ofChange storeKeepsWrong)

/- THE SECOND FORM. 'bulk': how many values and letters a reading holds, each counted each time it is reached (what is shared counts as often as it is met; a slice's spare places count too). A statement '..UptoSaid' is the law's where the arguments, and the package variables that the reading takes, are together of bulk at most 1048576: NARROWER than '..Said'. Prove '..Said' where nothing that the law and all that it calls make is longer than what came in: it says more and counts as full. Else prove '..UptoSaid'. A law counts once. -/
mutual
def uptoBulk {H : Type} : DataW H → Nat
  | .lit (.string bytes) => bytes.length + 1
  | .lit _ => 1
  | .nil => 1
  | .ptr d => uptoBulk d + 1
  | .slice elems spare => uptoBulkAll elems + uptoBulkAll spare + 1
  | .agg parts => uptoBulkAll parts + 1
  | .iface _ d => uptoBulk d + 1
  | .map entries => uptoBulkEntries entries + 1
  | .held _ => 1
def uptoBulkAll {H : Type} : List (DataW H) → Nat
  | [] => 0
  | d :: r => uptoBulk d + uptoBulkAll r
def uptoBulkEntries {H : Type} : List (Lit × DataW H) → Nat
  | [] => 0
  | x :: r => uptoBulkEntry x + uptoBulkEntries r
def uptoBulkEntry {H : Type} : Lit × DataW H → Nat
  | (.string bytes, d) => bytes.length + uptoBulk d + 1
  | (_, d) => uptoBulk d + 1
 end
def uptoSmall : (H : Type) → List (DataW H) → Bool := fun _ ds => decide (uptoBulkAll ds ≤ 1048576)
def OpenSpec.upto (s : _root_.Go.ChangeSpec) : _root_.Go.OpenSpec := { _root_.Go.OpenSpec.ofChange s with cond := some uptoSmall }

/-- 'harrowlaw11.StoreForms', WHERE WHAT IT READS IS OF BULK AT MOST 1048576: true; the input reads as it did. -/
def storeFormsUptoRow : OpenClaim := { program := "ytdafdidmbeecfaagreatdoor", sum := "600a5932a47fc2a6571064d8dfd0e054ae27a4981c22ef6fb66ba7f7c69bc76a", func := "harrow/harrowlaw11.StoreForms", spec := "storeForms", unfollowed := true, recurses := true, named := ["harrow/crc.half"], apart := false, laid := [("harrow/crc.half", laid_harrow_crc_half)], narrowed := true }
def StoreFormsUptoSaid : Prop := storeFormsUptoRow.holds Tryz.pinned (OpenSpec.upto storeFormsSpec)

/-- 'harrowlaw11.StoreAsks', WHERE WHAT IT READS IS OF BULK AT MOST 1048576: true; the input reads as it did. -/
def storeAsksUptoRow : OpenClaim := { program := "ytdafdidmbeecfaagreatdoor", sum := "600a5932a47fc2a6571064d8dfd0e054ae27a4981c22ef6fb66ba7f7c69bc76a", func := "harrow/harrowlaw11.StoreAsks", spec := "storeAsks", unfollowed := true, recurses := true, named := ["harrow/crc.half"], apart := false, laid := [("harrow/crc.half", laid_harrow_crc_half)], narrowed := true }
def StoreAsksUptoSaid : Prop := storeAsksUptoRow.holds Tryz.pinned (OpenSpec.upto storeAsksSpec)

/-- 'harrowlaw11.StoreMounts', WHERE WHAT IT READS IS OF BULK AT MOST 1048576: true; the input reads as it did. -/
def storeMountsUptoRow : OpenClaim := { program := "ytdafdidmbeecfaagreatdoor", sum := "600a5932a47fc2a6571064d8dfd0e054ae27a4981c22ef6fb66ba7f7c69bc76a", func := "harrow/harrowlaw11.StoreMounts", spec := "storeMounts", unfollowed := true, recurses := true, named := ["harrow/crc.half"], apart := false, laid := [("harrow/crc.half", laid_harrow_crc_half)], narrowed := true }
def StoreMountsUptoSaid : Prop := storeMountsUptoRow.holds Tryz.pinned (OpenSpec.upto storeMountsSpec)

/-- 'harrowlaw11.StoreCrashes', WHERE WHAT IT READS IS OF BULK AT MOST 1048576: true; the input reads as it did. -/
def storeCrashesUptoRow : OpenClaim := { program := "ytdafdidmbeecfaagreatdoor", sum := "600a5932a47fc2a6571064d8dfd0e054ae27a4981c22ef6fb66ba7f7c69bc76a", func := "harrow/harrowlaw11.StoreCrashes", spec := "storeCrashes", unfollowed := true, recurses := true, named := ["harrow/crc.half"], apart := false, laid := [("harrow/crc.half", laid_harrow_crc_half)], narrowed := true }
def StoreCrashesUptoSaid : Prop := storeCrashesUptoRow.holds Tryz.pinned (OpenSpec.upto storeCrashesSpec)

/-- 'harrowlaw11.StoreFresh', WHERE WHAT IT READS IS OF BULK AT MOST 1048576: true; the input reads as it did. -/
def storeFreshUptoRow : OpenClaim := { program := "ytdafdidmbeecfaagreatdoor", sum := "600a5932a47fc2a6571064d8dfd0e054ae27a4981c22ef6fb66ba7f7c69bc76a", func := "harrow/harrowlaw11.StoreFresh", spec := "storeFresh", unfollowed := true, recurses := true, named := ["harrow/crc.half"], apart := false, laid := [("harrow/crc.half", laid_harrow_crc_half)], narrowed := true }
def StoreFreshUptoSaid : Prop := storeFreshUptoRow.holds Tryz.pinned (OpenSpec.upto storeFreshSpec)

/-- 'harrowlaw11.StoreKeeps', WHERE WHAT IT READS IS OF BULK AT MOST 1048576: true; the input reads as it did. -/
def storeKeepsUptoRow : OpenClaim := { program := "ytdafdidmbeecfaagreatdoor", sum := "600a5932a47fc2a6571064d8dfd0e054ae27a4981c22ef6fb66ba7f7c69bc76a", func := "harrow/harrowlaw11.StoreKeeps", spec := "storeKeeps", unfollowed := true, recurses := true, named := ["harrow/crc.half"], apart := false, laid := [("harrow/crc.half", laid_harrow_crc_half)], narrowed := true }
def StoreKeepsUptoSaid : Prop := storeKeepsUptoRow.holds Tryz.pinned (OpenSpec.upto storeKeepsSpec)

end Rows
end Go.Proofs.YtdafdidmbeecfaaGreatDoor
