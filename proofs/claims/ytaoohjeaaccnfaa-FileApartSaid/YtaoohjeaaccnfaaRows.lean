/-
  No cell of these rows narrows 'for every input' (looked for: loops, veiled, ifaces, maps, wideKeys, modest, calm, conditions, laid).
  DERIVED. THE GIVEN ROWS OF THIS SEAT. 5 by the template 'for every input the law returns true; each argument reads behind the call as it read before'; 0 by the template 'total and deterministic' (their statements: YtaoohjeaaccnfaaTotals.lean).
  GIVEN WITH THE SEED: the statements are not yours to turn. If you find one false, say at which input.
  Laid BY PROGRAM, IN A SANDBOX (cutbox-rows.mjs): the forced cells as the released guide's own fill.sh prints them over the translation b9254ba044d21344… (all of the seat's roots in one cut). By AI agents, Wed Nov 11 2026. No macro, syntax, notation, axiom, sorry.
-/
import Derived.Test.YtaoohjeaaccnfaaChecked
import GoSem.Claim
import GoSem.ClaimJoined
import GoSem.ClaimMapViews
import Derived.JoinedTies
import Derived.KernelRfl
namespace Go.Proofs.Ytaoohjeaaccnfaa
/- THE CELL 'sum', in the pinned program and in every row, IS THE sha256 OF THE DUMP (.gsa) THAT YtaoohjeaaccnfaaProg.lean LOADS. Nothing in Lean hashes anything: it is a label: what it is worth is what the hold of that sum in a sandbox is worth. -/
noncomputable def Try.pinned : Pinned := { name := "ytaoohjeaaccnfaa", sum := "b9254ba044d2134430a5440f11a231123fccfb9567089bcc35e5848e5fd1bd11", checked := Try.checked }
namespace Rows
def none {H : Type} : Left H := { results := [], args := [] }

/-- 'harrowlaw16.FileBack': WHATEVER THE INPUT: true; the input reads as it did. -/
def fileBackSpec : ChangeSpec := { name := "fileBack", fn := fun _ => fun
  | [d1, d2, d3, d4] => { results := [.lit (.bool true)], args := [d1, d2, d3, d4] }
  | _ => none }
def fileBackRow : OpenClaim := { program := "ytaoohjeaaccnfaa", sum := "b9254ba044d2134430a5440f11a231123fccfb9567089bcc35e5848e5fd1bd11", func := "harrow/harrowlaw16.FileBack", spec := "fileBack", unfollowed := true, recurses := true, apart := false }
def FileBackSaid : Prop := fileBackRow.holds Try.pinned (OpenSpec.ofChange fileBackSpec)

/-- ITS FALSE NEIGHBOUR: 'it returns false'. Refute it at one input. -/
def fileBackWrong : ChangeSpec := { name := "fileBack", fn := fun _ => fun
  | [d1, d2, d3, d4] => { results := [.lit (.bool false)], args := [d1, d2, d3, d4] }
  | _ => none }
def FileBackWrongFalsely : Prop := fileBackRow.holds Try.pinned (OpenSpec.ofChange fileBackWrong)

/-- 'harrowlaw16.FileCuts': WHATEVER THE INPUT: true; the input reads as it did. -/
def fileCutsSpec : ChangeSpec := { name := "fileCuts", fn := fun _ => fun
  | [d1, d2] => { results := [.lit (.bool true)], args := [d1, d2] }
  | _ => none }
def fileCutsRow : OpenClaim := { program := "ytaoohjeaaccnfaa", sum := "b9254ba044d2134430a5440f11a231123fccfb9567089bcc35e5848e5fd1bd11", func := "harrow/harrowlaw16.FileCuts", spec := "fileCuts", unfollowed := true, recurses := true, apart := false }
def FileCutsSaid : Prop := fileCutsRow.holds Try.pinned (OpenSpec.ofChange fileCutsSpec)

/-- ITS FALSE NEIGHBOUR: 'it returns false'. Refute it at one input. -/
def fileCutsWrong : ChangeSpec := { name := "fileCuts", fn := fun _ => fun
  | [d1, d2] => { results := [.lit (.bool false)], args := [d1, d2] }
  | _ => none }
def FileCutsWrongFalsely : Prop := fileCutsRow.holds Try.pinned (OpenSpec.ofChange fileCutsWrong)

/-- 'harrowlaw16.FileApart': WHATEVER THE INPUT: true; the input reads as it did. -/
def fileApartSpec : ChangeSpec := { name := "fileApart", fn := fun _ => fun
  | [d] => { results := [.lit (.bool true)], args := [d] }
  | _ => none }
def fileApartRow : OpenClaim := { program := "ytaoohjeaaccnfaa", sum := "b9254ba044d2134430a5440f11a231123fccfb9567089bcc35e5848e5fd1bd11", func := "harrow/harrowlaw16.FileApart", spec := "fileApart", unfollowed := true, recurses := true, apart := false }
def FileApartSaid : Prop := fileApartRow.holds Try.pinned (OpenSpec.ofChange fileApartSpec)

/-- ITS FALSE NEIGHBOUR: 'it returns false'. Refute it at one input. -/
def fileApartWrong : ChangeSpec := { name := "fileApart", fn := fun _ => fun
  | [d] => { results := [.lit (.bool false)], args := [d] }
  | _ => none }
def FileApartWrongFalsely : Prop := fileApartRow.holds Try.pinned (OpenSpec.ofChange fileApartWrong)

/-- 'harrowlaw16.FileRow': WHATEVER THE INPUT: true; the input reads as it did. -/
def fileRowSpec : ChangeSpec := { name := "fileRow", fn := fun _ => fun
  | [d1, d2] => { results := [.lit (.bool true)], args := [d1, d2] }
  | _ => none }
def fileRowRow : OpenClaim := { program := "ytaoohjeaaccnfaa", sum := "b9254ba044d2134430a5440f11a231123fccfb9567089bcc35e5848e5fd1bd11", func := "harrow/harrowlaw16.FileRow", spec := "fileRow", unfollowed := true, recurses := true, apart := false }
def FileRowSaid : Prop := fileRowRow.holds Try.pinned (OpenSpec.ofChange fileRowSpec)

/-- ITS FALSE NEIGHBOUR: 'it returns false'. Refute it at one input. -/
def fileRowWrong : ChangeSpec := { name := "fileRow", fn := fun _ => fun
  | [d1, d2] => { results := [.lit (.bool false)], args := [d1, d2] }
  | _ => none }
def FileRowWrongFalsely : Prop := fileRowRow.holds Try.pinned (OpenSpec.ofChange fileRowWrong)

/-- 'harrowlaw16.FileLinks': WHATEVER THE INPUT: true; the input reads as it did. -/
def fileLinksSpec : ChangeSpec := { name := "fileLinks", fn := fun _ => fun
  | [d] => { results := [.lit (.bool true)], args := [d] }
  | _ => none }
def fileLinksRow : OpenClaim := { program := "ytaoohjeaaccnfaa", sum := "b9254ba044d2134430a5440f11a231123fccfb9567089bcc35e5848e5fd1bd11", func := "harrow/harrowlaw16.FileLinks", spec := "fileLinks", unfollowed := true, recurses := true, apart := false }
def FileLinksSaid : Prop := fileLinksRow.holds Try.pinned (OpenSpec.ofChange fileLinksSpec)

/-- ITS FALSE NEIGHBOUR: 'it returns false'. Refute it at one input. -/
def fileLinksWrong : ChangeSpec := { name := "fileLinks", fn := fun _ => fun
  | [d] => { results := [.lit (.bool false)], args := [d] }
  | _ => none }
def FileLinksWrongFalsely : Prop := fileLinksRow.holds Try.pinned (OpenSpec.ofChange fileLinksWrong)

/- THE SECOND FORM. 'bulk': how many values and letters a reading holds, each counted each time it is reached (what is shared counts as often as it is met; a slice's spare places count too). A statement '..UptoSaid' is the law's where the arguments, and the package variables that the reading takes, are together of bulk at most 1048576: NARROWER than '..Said'. Prove '..Said' where nothing that the law and all that it calls make is longer than what came in: it says more and counts as full. Else prove '..UptoSaid'. A law counts once. -/
mutual
def uptoBulk {H : Type} : DataW H → Nat
  | .lit (.string bytes) => bytes.length + 1
  | .lit _ => 1
  | .nil => 1
  | .ptr d => uptoBulk d + 1
  | .slice elems spare => uptoBulkAll elems + uptoBulkAll spare + 1
  | .agg parts => uptoBulkAll parts + 1
  | .iface _ d => uptoBulk d + 1
  | .map entries => uptoBulkEntries entries + 1
  | .held _ => 1
def uptoBulkAll {H : Type} : List (DataW H) → Nat
  | [] => 0
  | d :: r => uptoBulk d + uptoBulkAll r
def uptoBulkEntries {H : Type} : List (Lit × DataW H) → Nat
  | [] => 0
  | x :: r => uptoBulkEntry x + uptoBulkEntries r
def uptoBulkEntry {H : Type} : Lit × DataW H → Nat
  | (.string bytes, d) => bytes.length + uptoBulk d + 1
  | (_, d) => uptoBulk d + 1
 end
def uptoSmall : (H : Type) → List (DataW H) → Bool := fun _ ds => decide (uptoBulkAll ds ≤ 1048576)
def OpenSpec.upto (s : _root_.Go.ChangeSpec) : _root_.Go.OpenSpec := { _root_.Go.OpenSpec.ofChange s with cond := some uptoSmall }

/-- 'harrowlaw16.FileBack', WHERE WHAT IT READS IS OF BULK AT MOST 1048576: true; the input reads as it did. -/
def fileBackUptoRow : OpenClaim := { program := "ytaoohjeaaccnfaa", sum := "b9254ba044d2134430a5440f11a231123fccfb9567089bcc35e5848e5fd1bd11", func := "harrow/harrowlaw16.FileBack", spec := "fileBack", unfollowed := true, recurses := true, apart := false, narrowed := true }
def FileBackUptoSaid : Prop := fileBackUptoRow.holds Try.pinned (OpenSpec.upto fileBackSpec)

/-- 'harrowlaw16.FileCuts', WHERE WHAT IT READS IS OF BULK AT MOST 1048576: true; the input reads as it did. -/
def fileCutsUptoRow : OpenClaim := { program := "ytaoohjeaaccnfaa", sum := "b9254ba044d2134430a5440f11a231123fccfb9567089bcc35e5848e5fd1bd11", func := "harrow/harrowlaw16.FileCuts", spec := "fileCuts", unfollowed := true, recurses := true, apart := false, narrowed := true }
def FileCutsUptoSaid : Prop := fileCutsUptoRow.holds Try.pinned (OpenSpec.upto fileCutsSpec)

/-- 'harrowlaw16.FileApart', WHERE WHAT IT READS IS OF BULK AT MOST 1048576: true; the input reads as it did. -/
def fileApartUptoRow : OpenClaim := { program := "ytaoohjeaaccnfaa", sum := "b9254ba044d2134430a5440f11a231123fccfb9567089bcc35e5848e5fd1bd11", func := "harrow/harrowlaw16.FileApart", spec := "fileApart", unfollowed := true, recurses := true, apart := false, narrowed := true }
def FileApartUptoSaid : Prop := fileApartUptoRow.holds Try.pinned (OpenSpec.upto fileApartSpec)

/-- 'harrowlaw16.FileRow', WHERE WHAT IT READS IS OF BULK AT MOST 1048576: true; the input reads as it did. -/
def fileRowUptoRow : OpenClaim := { program := "ytaoohjeaaccnfaa", sum := "b9254ba044d2134430a5440f11a231123fccfb9567089bcc35e5848e5fd1bd11", func := "harrow/harrowlaw16.FileRow", spec := "fileRow", unfollowed := true, recurses := true, apart := false, narrowed := true }
def FileRowUptoSaid : Prop := fileRowUptoRow.holds Try.pinned (OpenSpec.upto fileRowSpec)

/-- 'harrowlaw16.FileLinks', WHERE WHAT IT READS IS OF BULK AT MOST 1048576: true; the input reads as it did. -/
def fileLinksUptoRow : OpenClaim := { program := "ytaoohjeaaccnfaa", sum := "b9254ba044d2134430a5440f11a231123fccfb9567089bcc35e5848e5fd1bd11", func := "harrow/harrowlaw16.FileLinks", spec := "fileLinks", unfollowed := true, recurses := true, apart := false, narrowed := true }
def FileLinksUptoSaid : Prop := fileLinksUptoRow.holds Try.pinned (OpenSpec.upto fileLinksSpec)

end Rows
end Go.Proofs.Ytaoohjeaaccnfaa
