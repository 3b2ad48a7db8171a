/-
  No cell of these rows narrows 'for every input' (looked for: loops, veiled, ifaces, maps, wideKeys, modest, calm, conditions, laid).
  DERIVED. THE GIVEN ROWS OF THIS SEAT. 4 by the template 'for every input the law returns true; each argument reads behind the call as it read before'; 0 by the template 'total and deterministic' (their statements: YtcgpegdnicnciaaTotals.lean).
  GIVEN WITH THE SEED: the statements are not yours to turn. If you find one false, say at which input.
  Laid BY PROGRAM, IN A SANDBOX (cutbox-rows.mjs): the forced cells as the released guide's own fill.sh prints them over the translation bd449668e41faf78… (all of the seat's roots in one cut). By AI agents, Wed Nov 11 2026. No macro, syntax, notation, axiom, sorry.
-/
import Derived.Test.YtcgpegdnicnciaaChecked
import GoSem.Claim
import GoSem.ClaimJoined
import GoSem.ClaimMapViews
import Derived.JoinedTies
import Derived.KernelRfl
namespace Go.Proofs.Ytcgpegdnicnciaa
/- THE CELL 'sum', in the pinned program and in every row, IS THE sha256 OF THE DUMP (.gsa) THAT YtcgpegdnicnciaaProg.lean LOADS. Nothing in Lean hashes anything: it is a label: what it is worth is what the hold of that sum in a sandbox is worth. -/
noncomputable def Try.pinned : Pinned := { name := "ytcgpegdnicnciaa", sum := "bd449668e41faf78d2d620da6f074609378cd1f834ed652b07095a42877471e0", checked := Try.checked }
namespace Rows
def none {H : Type} : Left H := { results := [], args := [] }

/-- 'harrowlaw15.BatchLast': WHATEVER THE INPUT: true; the input reads as it did. -/
def batchLastSpec : ChangeSpec := { name := "batchLast", fn := fun _ => fun
  | [d] => { results := [.lit (.bool true)], args := [d] }
  | _ => none }
def batchLastRow : OpenClaim := { program := "ytcgpegdnicnciaa", sum := "bd449668e41faf78d2d620da6f074609378cd1f834ed652b07095a42877471e0", func := "harrow/harrowlaw15.BatchLast", spec := "batchLast", unfollowed := true, recurses := true, apart := false }
def BatchLastSaid : Prop := batchLastRow.holds Try.pinned (OpenSpec.ofChange batchLastSpec)

/-- ITS FALSE NEIGHBOUR: 'it returns false'. Refute it at one input. -/
def batchLastWrong : ChangeSpec := { name := "batchLast", fn := fun _ => fun
  | [d] => { results := [.lit (.bool false)], args := [d] }
  | _ => none }
def BatchLastWrongFalsely : Prop := batchLastRow.holds Try.pinned (OpenSpec.ofChange batchLastWrong)

/-- 'harrowlaw15.BatchArgs': WHATEVER THE INPUT: true; the input reads as it did. -/
def batchArgsSpec : ChangeSpec := { name := "batchArgs", fn := fun _ => fun
  | [d1, d2] => { results := [.lit (.bool true)], args := [d1, d2] }
  | _ => none }
def batchArgsRow : OpenClaim := { program := "ytcgpegdnicnciaa", sum := "bd449668e41faf78d2d620da6f074609378cd1f834ed652b07095a42877471e0", func := "harrow/harrowlaw15.BatchArgs", spec := "batchArgs", unfollowed := true, recurses := true, apart := false }
def BatchArgsSaid : Prop := batchArgsRow.holds Try.pinned (OpenSpec.ofChange batchArgsSpec)

/-- ITS FALSE NEIGHBOUR: 'it returns false'. Refute it at one input. -/
def batchArgsWrong : ChangeSpec := { name := "batchArgs", fn := fun _ => fun
  | [d1, d2] => { results := [.lit (.bool false)], args := [d1, d2] }
  | _ => none }
def BatchArgsWrongFalsely : Prop := batchArgsRow.holds Try.pinned (OpenSpec.ofChange batchArgsWrong)

/-- 'harrowlaw15.BatchForks': WHATEVER THE INPUT: true; the input reads as it did. -/
def batchForksSpec : ChangeSpec := { name := "batchForks", fn := fun _ => fun
  | [d1, d2, d3, d4] => { results := [.lit (.bool true)], args := [d1, d2, d3, d4] }
  | _ => none }
def batchForksRow : OpenClaim := { program := "ytcgpegdnicnciaa", sum := "bd449668e41faf78d2d620da6f074609378cd1f834ed652b07095a42877471e0", func := "harrow/harrowlaw15.BatchForks", spec := "batchForks", unfollowed := true, recurses := true, apart := false }
def BatchForksSaid : Prop := batchForksRow.holds Try.pinned (OpenSpec.ofChange batchForksSpec)

/-- ITS FALSE NEIGHBOUR: 'it returns false'. Refute it at one input. -/
def batchForksWrong : ChangeSpec := { name := "batchForks", fn := fun _ => fun
  | [d1, d2, d3, d4] => { results := [.lit (.bool false)], args := [d1, d2, d3, d4] }
  | _ => none }
def BatchForksWrongFalsely : Prop := batchForksRow.holds Try.pinned (OpenSpec.ofChange batchForksWrong)

/-- 'harrowlaw15.BatchOver': WHATEVER THE INPUT: true; the input reads as it did. -/
def batchOverSpec : ChangeSpec := { name := "batchOver", fn := fun _ => fun
  | [d] => { results := [.lit (.bool true)], args := [d] }
  | _ => none }
def batchOverRow : OpenClaim := { program := "ytcgpegdnicnciaa", sum := "bd449668e41faf78d2d620da6f074609378cd1f834ed652b07095a42877471e0", func := "harrow/harrowlaw15.BatchOver", spec := "batchOver", unfollowed := true, recurses := true, apart := false }
def BatchOverSaid : Prop := batchOverRow.holds Try.pinned (OpenSpec.ofChange batchOverSpec)

/-- ITS FALSE NEIGHBOUR: 'it returns false'. Refute it at one input. -/
def batchOverWrong : ChangeSpec := { name := "batchOver", fn := fun _ => fun
  | [d] => { results := [.lit (.bool false)], args := [d] }
  | _ => none }
def BatchOverWrongFalsely : Prop := batchOverRow.holds Try.pinned (OpenSpec.ofChange batchOverWrong)

/- THE SECOND FORM. 'bulk': how many values and letters a reading holds, each counted each time it is reached (what is shared counts as often as it is met; a slice's spare places count too). A statement '..UptoSaid' is the law's where the arguments, and the package variables that the reading takes, are together of bulk at most 1048576: NARROWER than '..Said'. Prove '..Said' where nothing that the law and all that it calls make is longer than what came in: it says more and counts as full. Else prove '..UptoSaid'. A law counts once. -/
mutual
def uptoBulk {H : Type} : DataW H → Nat
  | .lit (.string bytes) => bytes.length + 1
  | .lit _ => 1
  | .nil => 1
  | .ptr d => uptoBulk d + 1
  | .slice elems spare => uptoBulkAll elems + uptoBulkAll spare + 1
  | .agg parts => uptoBulkAll parts + 1
  | .iface _ d => uptoBulk d + 1
  | .map entries => uptoBulkEntries entries + 1
  | .held _ => 1
def uptoBulkAll {H : Type} : List (DataW H) → Nat
  | [] => 0
  | d :: r => uptoBulk d + uptoBulkAll r
def uptoBulkEntries {H : Type} : List (Lit × DataW H) → Nat
  | [] => 0
  | x :: r => uptoBulkEntry x + uptoBulkEntries r
def uptoBulkEntry {H : Type} : Lit × DataW H → Nat
  | (.string bytes, d) => bytes.length + uptoBulk d + 1
  | (_, d) => uptoBulk d + 1
 end
def uptoSmall : (H : Type) → List (DataW H) → Bool := fun _ ds => decide (uptoBulkAll ds ≤ 1048576)
def OpenSpec.upto (s : _root_.Go.ChangeSpec) : _root_.Go.OpenSpec := { _root_.Go.OpenSpec.ofChange s with cond := some uptoSmall }

/-- 'harrowlaw15.BatchLast', WHERE WHAT IT READS IS OF BULK AT MOST 1048576: true; the input reads as it did. -/
def batchLastUptoRow : OpenClaim := { program := "ytcgpegdnicnciaa", sum := "bd449668e41faf78d2d620da6f074609378cd1f834ed652b07095a42877471e0", func := "harrow/harrowlaw15.BatchLast", spec := "batchLast", unfollowed := true, recurses := true, apart := false, narrowed := true }
def BatchLastUptoSaid : Prop := batchLastUptoRow.holds Try.pinned (OpenSpec.upto batchLastSpec)

/-- 'harrowlaw15.BatchArgs', WHERE WHAT IT READS IS OF BULK AT MOST 1048576: true; the input reads as it did. -/
def batchArgsUptoRow : OpenClaim := { program := "ytcgpegdnicnciaa", sum := "bd449668e41faf78d2d620da6f074609378cd1f834ed652b07095a42877471e0", func := "harrow/harrowlaw15.BatchArgs", spec := "batchArgs", unfollowed := true, recurses := true, apart := false, narrowed := true }
def BatchArgsUptoSaid : Prop := batchArgsUptoRow.holds Try.pinned (OpenSpec.upto batchArgsSpec)

/-- 'harrowlaw15.BatchForks', WHERE WHAT IT READS IS OF BULK AT MOST 1048576: true; the input reads as it did. -/
def batchForksUptoRow : OpenClaim := { program := "ytcgpegdnicnciaa", sum := "bd449668e41faf78d2d620da6f074609378cd1f834ed652b07095a42877471e0", func := "harrow/harrowlaw15.BatchForks", spec := "batchForks", unfollowed := true, recurses := true, apart := false, narrowed := true }
def BatchForksUptoSaid : Prop := batchForksUptoRow.holds Try.pinned (OpenSpec.upto batchForksSpec)

/-- 'harrowlaw15.BatchOver', WHERE WHAT IT READS IS OF BULK AT MOST 1048576: true; the input reads as it did. -/
def batchOverUptoRow : OpenClaim := { program := "ytcgpegdnicnciaa", sum := "bd449668e41faf78d2d620da6f074609378cd1f834ed652b07095a42877471e0", func := "harrow/harrowlaw15.BatchOver", spec := "batchOver", unfollowed := true, recurses := true, apart := false, narrowed := true }
def BatchOverUptoSaid : Prop := batchOverUptoRow.holds Try.pinned (OpenSpec.upto batchOverSpec)

end Rows
end Go.Proofs.Ytcgpegdnicnciaa
