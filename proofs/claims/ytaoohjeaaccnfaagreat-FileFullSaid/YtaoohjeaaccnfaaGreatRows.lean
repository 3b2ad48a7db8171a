/-
  No cell of these rows narrows 'for every input' (looked for: loops, veiled, ifaces, maps, wideKeys, modest, calm, conditions, laid).
  DERIVED. THE GIVEN ROWS OF THIS SEAT. 4 by the template 'for every input the law returns true; each argument reads behind the call as it read before'; 0 by the template 'total and deterministic' (their statements: YtaoohjeaaccnfaaGreatTotals.lean).
  GIVEN WITH THE SEED: the statements are not yours to turn. If you find one false, say at which input.
  Laid BY PROGRAM, IN A SANDBOX (cutbox-rows.mjs): the forced cells as the released guide's own fill.sh prints them over the translation ba9b9e6226898a95… (all of the seat's roots in one cut). By AI agents, Wed Nov 11 2026. No macro, syntax, notation, axiom, sorry.
-/
import Derived.Test.YtaoohjeaaccnfaaGreatChecked
import GoSem.Claim
import GoSem.ClaimJoined
import GoSem.ClaimMapViews
import Derived.JoinedTies
import Derived.KernelRfl
namespace Go.Proofs.YtaoohjeaaccnfaaGreat
/- THE CELL 'sum', in the pinned program and in every row, IS THE sha256 OF THE DUMP (.gsa) THAT YtaoohjeaaccnfaaGreatProg.lean LOADS. Nothing in Lean hashes anything: it is a label: what it is worth is what the hold of that sum in a sandbox is worth. -/
noncomputable def Tryz.pinned : Pinned := { name := "ytaoohjeaaccnfaagreat", sum := "ba9b9e6226898a95017e0c25ccb7b238ff3f8b9f6ac1802fbd5195747f5f11ee", checked := Tryz.checked }
namespace Rows
def none {H : Type} : Left H := { results := [], args := [] }

/-- 'harrowlaw18.TreeDense': WHATEVER THE INPUT: true; the input reads as it did. -/
def treeDenseSpec : ChangeSpec := { name := "treeDense", fn := fun _ => fun
  | [d] => { results := [.lit (.bool true)], args := [d] }
  | _ => none }
def treeDenseRow : OpenClaim := { program := "ytaoohjeaaccnfaagreat", sum := "ba9b9e6226898a95017e0c25ccb7b238ff3f8b9f6ac1802fbd5195747f5f11ee", func := "harrow/harrowlaw18.TreeDense", spec := "treeDense", inPlace := ["internal/bytealg.IndexByteString"], unfollowed := true, recurses := true, apart := false }
def TreeDenseSaid : Prop := treeDenseRow.holds Tryz.pinned (OpenSpec.ofChange treeDenseSpec)

/-- ITS FALSE NEIGHBOUR: 'it returns false'. Refute it at one input. -/
def treeDenseWrong : ChangeSpec := { name := "treeDense", fn := fun _ => fun
  | [d] => { results := [.lit (.bool false)], args := [d] }
  | _ => none }
def TreeDenseWrongFalsely : Prop := treeDenseRow.holds Tryz.pinned (OpenSpec.ofChange treeDenseWrong)

/-- 'harrowlaw18.TreeApart': WHATEVER THE INPUT: true; the input reads as it did. -/
def treeApartSpec : ChangeSpec := { name := "treeApart", fn := fun _ => fun
  | [d] => { results := [.lit (.bool true)], args := [d] }
  | _ => none }
def treeApartRow : OpenClaim := { program := "ytaoohjeaaccnfaagreat", sum := "ba9b9e6226898a95017e0c25ccb7b238ff3f8b9f6ac1802fbd5195747f5f11ee", func := "harrow/harrowlaw18.TreeApart", spec := "treeApart", inPlace := ["internal/bytealg.IndexByteString", "internal/bytealg.abigen_runtime_cmpstring"], unfollowed := true, recurses := true, apart := false }
def TreeApartSaid : Prop := treeApartRow.holds Tryz.pinned (OpenSpec.ofChange treeApartSpec)

/-- ITS FALSE NEIGHBOUR: 'it returns false'. Refute it at one input. -/
def treeApartWrong : ChangeSpec := { name := "treeApart", fn := fun _ => fun
  | [d] => { results := [.lit (.bool false)], args := [d] }
  | _ => none }
def TreeApartWrongFalsely : Prop := treeApartRow.holds Tryz.pinned (OpenSpec.ofChange treeApartWrong)

/-- 'harrowlaw18.TreeSpace': WHATEVER THE INPUT: true; the input reads as it did. -/
def treeSpaceSpec : ChangeSpec := { name := "treeSpace", fn := fun _ => fun
  | [d1, d2] => { results := [.lit (.bool true)], args := [d1, d2] }
  | _ => none }
def treeSpaceRow : OpenClaim := { program := "ytaoohjeaaccnfaagreat", sum := "ba9b9e6226898a95017e0c25ccb7b238ff3f8b9f6ac1802fbd5195747f5f11ee", func := "harrow/harrowlaw18.TreeSpace", spec := "treeSpace", inPlace := ["internal/bytealg.IndexByteString", "internal/bytealg.abigen_runtime_cmpstring"], unfollowed := true, recurses := true, apart := false }
def TreeSpaceSaid : Prop := treeSpaceRow.holds Tryz.pinned (OpenSpec.ofChange treeSpaceSpec)

/-- ITS FALSE NEIGHBOUR: 'it returns false'. Refute it at one input. -/
def treeSpaceWrong : ChangeSpec := { name := "treeSpace", fn := fun _ => fun
  | [d1, d2] => { results := [.lit (.bool false)], args := [d1, d2] }
  | _ => none }
def TreeSpaceWrongFalsely : Prop := treeSpaceRow.holds Tryz.pinned (OpenSpec.ofChange treeSpaceWrong)

/-- 'harrowlaw16.FileFull': WHATEVER THE INPUT: true; the input reads as it did. -/
def fileFullSpec : ChangeSpec := { name := "fileFull", fn := fun _ => fun
  | [d1, d2] => { results := [.lit (.bool true)], args := [d1, d2] }
  | _ => none }
def fileFullRow : OpenClaim := { program := "ytaoohjeaaccnfaagreat", sum := "ba9b9e6226898a95017e0c25ccb7b238ff3f8b9f6ac1802fbd5195747f5f11ee", func := "harrow/harrowlaw16.FileFull", spec := "fileFull", unfollowed := true, recurses := true, apart := false }
def FileFullSaid : Prop := fileFullRow.holds Tryz.pinned (OpenSpec.ofChange fileFullSpec)

/-- ITS FALSE NEIGHBOUR: 'it returns false'. Refute it at one input. -/
def fileFullWrong : ChangeSpec := { name := "fileFull", fn := fun _ => fun
  | [d1, d2] => { results := [.lit (.bool false)], args := [d1, d2] }
  | _ => none }
def FileFullWrongFalsely : Prop := fileFullRow.holds Tryz.pinned (OpenSpec.ofChange fileFullWrong)

/- THE SECOND FORM. 'bulk': how many values and letters a reading holds, each counted each time it is reached (what is shared counts as often as it is met; a slice's spare places count too). A statement '..UptoSaid' is the law's where the arguments, and the package variables that the reading takes, are together of bulk at most 1048576: NARROWER than '..Said'. Prove '..Said' where nothing that the law and all that it calls make is longer than what came in: it says more and counts as full. Else prove '..UptoSaid'. A law counts once. -/
mutual
def uptoBulk {H : Type} : DataW H → Nat
  | .lit (.string bytes) => bytes.length + 1
  | .lit _ => 1
  | .nil => 1
  | .ptr d => uptoBulk d + 1
  | .slice elems spare => uptoBulkAll elems + uptoBulkAll spare + 1
  | .agg parts => uptoBulkAll parts + 1
  | .iface _ d => uptoBulk d + 1
  | .map entries => uptoBulkEntries entries + 1
  | .held _ => 1
def uptoBulkAll {H : Type} : List (DataW H) → Nat
  | [] => 0
  | d :: r => uptoBulk d + uptoBulkAll r
def uptoBulkEntries {H : Type} : List (Lit × DataW H) → Nat
  | [] => 0
  | x :: r => uptoBulkEntry x + uptoBulkEntries r
def uptoBulkEntry {H : Type} : Lit × DataW H → Nat
  | (.string bytes, d) => bytes.length + uptoBulk d + 1
  | (_, d) => uptoBulk d + 1
 end
def uptoSmall : (H : Type) → List (DataW H) → Bool := fun _ ds => decide (uptoBulkAll ds ≤ 1048576)
def OpenSpec.upto (s : _root_.Go.ChangeSpec) : _root_.Go.OpenSpec := { _root_.Go.OpenSpec.ofChange s with cond := some uptoSmall }

/-- 'harrowlaw18.TreeDense', WHERE WHAT IT READS IS OF BULK AT MOST 1048576: true; the input reads as it did. -/
def treeDenseUptoRow : OpenClaim := { program := "ytaoohjeaaccnfaagreat", sum := "ba9b9e6226898a95017e0c25ccb7b238ff3f8b9f6ac1802fbd5195747f5f11ee", func := "harrow/harrowlaw18.TreeDense", spec := "treeDense", inPlace := ["internal/bytealg.IndexByteString"], unfollowed := true, recurses := true, apart := false, narrowed := true }
def TreeDenseUptoSaid : Prop := treeDenseUptoRow.holds Tryz.pinned (OpenSpec.upto treeDenseSpec)

/-- 'harrowlaw18.TreeApart', WHERE WHAT IT READS IS OF BULK AT MOST 1048576: true; the input reads as it did. -/
def treeApartUptoRow : OpenClaim := { program := "ytaoohjeaaccnfaagreat", sum := "ba9b9e6226898a95017e0c25ccb7b238ff3f8b9f6ac1802fbd5195747f5f11ee", func := "harrow/harrowlaw18.TreeApart", spec := "treeApart", inPlace := ["internal/bytealg.IndexByteString", "internal/bytealg.abigen_runtime_cmpstring"], unfollowed := true, recurses := true, apart := false, narrowed := true }
def TreeApartUptoSaid : Prop := treeApartUptoRow.holds Tryz.pinned (OpenSpec.upto treeApartSpec)

/-- 'harrowlaw18.TreeSpace', WHERE WHAT IT READS IS OF BULK AT MOST 1048576: true; the input reads as it did. -/
def treeSpaceUptoRow : OpenClaim := { program := "ytaoohjeaaccnfaagreat", sum := "ba9b9e6226898a95017e0c25ccb7b238ff3f8b9f6ac1802fbd5195747f5f11ee", func := "harrow/harrowlaw18.TreeSpace", spec := "treeSpace", inPlace := ["internal/bytealg.IndexByteString", "internal/bytealg.abigen_runtime_cmpstring"], unfollowed := true, recurses := true, apart := false, narrowed := true }
def TreeSpaceUptoSaid : Prop := treeSpaceUptoRow.holds Tryz.pinned (OpenSpec.upto treeSpaceSpec)

/-- 'harrowlaw16.FileFull', WHERE WHAT IT READS IS OF BULK AT MOST 1048576: true; the input reads as it did. -/
def fileFullUptoRow : OpenClaim := { program := "ytaoohjeaaccnfaagreat", sum := "ba9b9e6226898a95017e0c25ccb7b238ff3f8b9f6ac1802fbd5195747f5f11ee", func := "harrow/harrowlaw16.FileFull", spec := "fileFull", unfollowed := true, recurses := true, apart := false, narrowed := true }
def FileFullUptoSaid : Prop := fileFullUptoRow.holds Tryz.pinned (OpenSpec.upto fileFullSpec)

end Rows
end Go.Proofs.YtaoohjeaaccnfaaGreat
