/-
  No cell of these rows narrows 'for every input' (looked for: loops, veiled, ifaces, maps, wideKeys, modest, calm, conditions, laid).
  DERIVED. THE GIVEN ROWS OF THIS SEAT. 7 by the template 'for every input the law returns true; each argument reads behind the call as it read before'; 0 by the template 'total and deterministic' (their statements: YtlfooilcngjeiaaTotals.lean).
  GIVEN WITH THE SEED: the statements are not yours to turn. If you find one false, say at which input.
  Laid BY PROGRAM, IN A SANDBOX (cutbox-rows.mjs): the forced cells as the released guide's own fill.sh prints them over the translation cb367127cb26b808… (all of the seat's roots in one cut). By AI agents, Wed Nov 11 2026. No macro, syntax, notation, axiom, sorry.
-/
import Derived.Test.YtlfooilcngjeiaaChecked
import GoSem.Claim
import GoSem.ClaimJoined
import GoSem.ClaimMapViews
import Derived.JoinedTies
import Derived.KernelRfl
namespace Go.Proofs.Ytlfooilcngjeiaa
/- THE CELL 'sum', in the pinned program and in every row, IS THE sha256 OF THE DUMP (.gsa) THAT YtlfooilcngjeiaaProg.lean LOADS. Nothing in Lean hashes anything: it is a label: what it is worth is what the hold of that sum in a sandbox is worth. -/
noncomputable def Try.pinned : Pinned := { name := "ytlfooilcngjeiaa", sum := "cb367127cb26b808172ca7d657705200d9c232c083d308e74d200080f79930c6", checked := Try.checked }
namespace Rows
def none {H : Type} : Left H := { results := [], args := [] }

/-- 'harrowlaw08.JournalRights': WHATEVER THE INPUT: true; the input reads as it did. -/
def journalRightsSpec : ChangeSpec := { name := "journalRights", fn := fun _ => fun
  | [d1, d2] => { results := [.lit (.bool true)], args := [d1, d2] }
  | _ => none }
def journalRightsRow : OpenClaim := { program := "ytlfooilcngjeiaa", sum := "cb367127cb26b808172ca7d657705200d9c232c083d308e74d200080f79930c6", func := "harrow/harrowlaw08.JournalRights", spec := "journalRights", unfollowed := true, recurses := true, apart := false }
def JournalRightsSaid : Prop := journalRightsRow.holds Try.pinned (OpenSpec.ofChange journalRightsSpec)

/-- ITS FALSE NEIGHBOUR: 'it returns false'. Refute it at one input. -/
def journalRightsWrong : ChangeSpec := { name := "journalRights", fn := fun _ => fun
  | [d1, d2] => { results := [.lit (.bool false)], args := [d1, d2] }
  | _ => none }
def JournalRightsWrongFalsely : Prop := journalRightsRow.holds Try.pinned (OpenSpec.ofChange journalRightsWrong)

/-- 'harrowlaw08.JournalOwn': WHATEVER THE INPUT: true; the input reads as it did. -/
def journalOwnSpec : ChangeSpec := { name := "journalOwn", fn := fun _ => fun
  | [d] => { results := [.lit (.bool true)], args := [d] }
  | _ => none }
def journalOwnRow : OpenClaim := { program := "ytlfooilcngjeiaa", sum := "cb367127cb26b808172ca7d657705200d9c232c083d308e74d200080f79930c6", func := "harrow/harrowlaw08.JournalOwn", spec := "journalOwn", unfollowed := true, recurses := true, apart := false }
def JournalOwnSaid : Prop := journalOwnRow.holds Try.pinned (OpenSpec.ofChange journalOwnSpec)

/-- ITS FALSE NEIGHBOUR: 'it returns false'. Refute it at one input. -/
def journalOwnWrong : ChangeSpec := { name := "journalOwn", fn := fun _ => fun
  | [d] => { results := [.lit (.bool false)], args := [d] }
  | _ => none }
def JournalOwnWrongFalsely : Prop := journalOwnRow.holds Try.pinned (OpenSpec.ofChange journalOwnWrong)

/-- 'harrowlaw08.JournalGoes': WHATEVER THE INPUT: true; the input reads as it did. -/
def journalGoesSpec : ChangeSpec := { name := "journalGoes", fn := fun _ => fun
  | [d1, d2] => { results := [.lit (.bool true)], args := [d1, d2] }
  | _ => none }
def journalGoesRow : OpenClaim := { program := "ytlfooilcngjeiaa", sum := "cb367127cb26b808172ca7d657705200d9c232c083d308e74d200080f79930c6", func := "harrow/harrowlaw08.JournalGoes", spec := "journalGoes", unfollowed := true, recurses := true, apart := false }
def JournalGoesSaid : Prop := journalGoesRow.holds Try.pinned (OpenSpec.ofChange journalGoesSpec)

/-- ITS FALSE NEIGHBOUR: 'it returns false'. Refute it at one input. -/
def journalGoesWrong : ChangeSpec := { name := "journalGoes", fn := fun _ => fun
  | [d1, d2] => { results := [.lit (.bool false)], args := [d1, d2] }
  | _ => none }
def JournalGoesWrongFalsely : Prop := journalGoesRow.holds Try.pinned (OpenSpec.ofChange journalGoesWrong)

/-- 'harrowlaw08.JournalNever': WHATEVER THE INPUT: true; the input reads as it did. -/
def journalNeverSpec : ChangeSpec := { name := "journalNever", fn := fun _ => fun
  | [d1, d2, d3] => { results := [.lit (.bool true)], args := [d1, d2, d3] }
  | _ => none }
def journalNeverRow : OpenClaim := { program := "ytlfooilcngjeiaa", sum := "cb367127cb26b808172ca7d657705200d9c232c083d308e74d200080f79930c6", func := "harrow/harrowlaw08.JournalNever", spec := "journalNever", unfollowed := true, recurses := true, apart := false }
def JournalNeverSaid : Prop := journalNeverRow.holds Try.pinned (OpenSpec.ofChange journalNeverSpec)

/-- ITS FALSE NEIGHBOUR: 'it returns false'. Refute it at one input. -/
def journalNeverWrong : ChangeSpec := { name := "journalNever", fn := fun _ => fun
  | [d1, d2, d3] => { results := [.lit (.bool false)], args := [d1, d2, d3] }
  | _ => none }
def JournalNeverWrongFalsely : Prop := journalNeverRow.holds Try.pinned (OpenSpec.ofChange journalNeverWrong)

/-- 'harrowlaw08.JournalSilent': WHATEVER THE INPUT: true; the input reads as it did. -/
def journalSilentSpec : ChangeSpec := { name := "journalSilent", fn := fun _ => fun
  | [d1, d2] => { results := [.lit (.bool true)], args := [d1, d2] }
  | _ => none }
def journalSilentRow : OpenClaim := { program := "ytlfooilcngjeiaa", sum := "cb367127cb26b808172ca7d657705200d9c232c083d308e74d200080f79930c6", func := "harrow/harrowlaw08.JournalSilent", spec := "journalSilent", unfollowed := true, recurses := true, apart := false }
def JournalSilentSaid : Prop := journalSilentRow.holds Try.pinned (OpenSpec.ofChange journalSilentSpec)

/-- ITS FALSE NEIGHBOUR: 'it returns false'. Refute it at one input. -/
def journalSilentWrong : ChangeSpec := { name := "journalSilent", fn := fun _ => fun
  | [d1, d2] => { results := [.lit (.bool false)], args := [d1, d2] }
  | _ => none }
def JournalSilentWrongFalsely : Prop := journalSilentRow.holds Try.pinned (OpenSpec.ofChange journalSilentWrong)

/-- 'harrowlaw09.ReplayDown': WHATEVER THE INPUT: true; the input reads as it did. -/
def replayDownSpec : ChangeSpec := { name := "replayDown", fn := fun _ => fun
  | [d1, d2, d3] => { results := [.lit (.bool true)], args := [d1, d2, d3] }
  | _ => none }
def replayDownRow : OpenClaim := { program := "ytlfooilcngjeiaa", sum := "cb367127cb26b808172ca7d657705200d9c232c083d308e74d200080f79930c6", func := "harrow/harrowlaw09.ReplayDown", spec := "replayDown", unfollowed := true, recurses := true, apart := false }
def ReplayDownSaid : Prop := replayDownRow.holds Try.pinned (OpenSpec.ofChange replayDownSpec)

/-- ITS FALSE NEIGHBOUR: 'it returns false'. Refute it at one input. -/
def replayDownWrong : ChangeSpec := { name := "replayDown", fn := fun _ => fun
  | [d1, d2, d3] => { results := [.lit (.bool false)], args := [d1, d2, d3] }
  | _ => none }
def ReplayDownWrongFalsely : Prop := replayDownRow.holds Try.pinned (OpenSpec.ofChange replayDownWrong)

/-- 'harrowlaw09.ReplayTells': WHATEVER THE INPUT: true; the input reads as it did. -/
def replayTellsSpec : ChangeSpec := { name := "replayTells", fn := fun _ => fun
  | [d1, d2, d3] => { results := [.lit (.bool true)], args := [d1, d2, d3] }
  | _ => none }
def replayTellsRow : OpenClaim := { program := "ytlfooilcngjeiaa", sum := "cb367127cb26b808172ca7d657705200d9c232c083d308e74d200080f79930c6", func := "harrow/harrowlaw09.ReplayTells", spec := "replayTells", unfollowed := true, recurses := true, apart := false }
def ReplayTellsSaid : Prop := replayTellsRow.holds Try.pinned (OpenSpec.ofChange replayTellsSpec)

/-- ITS FALSE NEIGHBOUR: 'it returns false'. Refute it at one input. -/
def replayTellsWrong : ChangeSpec := { name := "replayTells", fn := fun _ => fun
  | [d1, d2, d3] => { results := [.lit (.bool false)], args := [d1, d2, d3] }
  | _ => none }
def ReplayTellsWrongFalsely : Prop := replayTellsRow.holds Try.pinned (OpenSpec.ofChange replayTellsWrong)

/- THE SECOND FORM. 'bulk': how many values and letters a reading holds, each counted each time it is reached (what is shared counts as often as it is met; a slice's spare places count too). A statement '..UptoSaid' is the law's where the arguments, and the package variables that the reading takes, are together of bulk at most 1048576: NARROWER than '..Said'. Prove '..Said' where nothing that the law and all that it calls make is longer than what came in: it says more and counts as full. Else prove '..UptoSaid'. A law counts once. -/
mutual
def uptoBulk {H : Type} : DataW H → Nat
  | .lit (.string bytes) => bytes.length + 1
  | .lit _ => 1
  | .nil => 1
  | .ptr d => uptoBulk d + 1
  | .slice elems spare => uptoBulkAll elems + uptoBulkAll spare + 1
  | .agg parts => uptoBulkAll parts + 1
  | .iface _ d => uptoBulk d + 1
  | .map entries => uptoBulkEntries entries + 1
  | .held _ => 1
def uptoBulkAll {H : Type} : List (DataW H) → Nat
  | [] => 0
  | d :: r => uptoBulk d + uptoBulkAll r
def uptoBulkEntries {H : Type} : List (Lit × DataW H) → Nat
  | [] => 0
  | x :: r => uptoBulkEntry x + uptoBulkEntries r
def uptoBulkEntry {H : Type} : Lit × DataW H → Nat
  | (.string bytes, d) => bytes.length + uptoBulk d + 1
  | (_, d) => uptoBulk d + 1
 end
def uptoSmall : (H : Type) → List (DataW H) → Bool := fun _ ds => decide (uptoBulkAll ds ≤ 1048576)
def OpenSpec.upto (s : _root_.Go.ChangeSpec) : _root_.Go.OpenSpec := { _root_.Go.OpenSpec.ofChange s with cond := some uptoSmall }

/-- 'harrowlaw08.JournalRights', WHERE WHAT IT READS IS OF BULK AT MOST 1048576: true; the input reads as it did. -/
def journalRightsUptoRow : OpenClaim := { program := "ytlfooilcngjeiaa", sum := "cb367127cb26b808172ca7d657705200d9c232c083d308e74d200080f79930c6", func := "harrow/harrowlaw08.JournalRights", spec := "journalRights", unfollowed := true, recurses := true, apart := false, narrowed := true }
def JournalRightsUptoSaid : Prop := journalRightsUptoRow.holds Try.pinned (OpenSpec.upto journalRightsSpec)

/-- 'harrowlaw08.JournalOwn', WHERE WHAT IT READS IS OF BULK AT MOST 1048576: true; the input reads as it did. -/
def journalOwnUptoRow : OpenClaim := { program := "ytlfooilcngjeiaa", sum := "cb367127cb26b808172ca7d657705200d9c232c083d308e74d200080f79930c6", func := "harrow/harrowlaw08.JournalOwn", spec := "journalOwn", unfollowed := true, recurses := true, apart := false, narrowed := true }
def JournalOwnUptoSaid : Prop := journalOwnUptoRow.holds Try.pinned (OpenSpec.upto journalOwnSpec)

/-- 'harrowlaw08.JournalGoes', WHERE WHAT IT READS IS OF BULK AT MOST 1048576: true; the input reads as it did. -/
def journalGoesUptoRow : OpenClaim := { program := "ytlfooilcngjeiaa", sum := "cb367127cb26b808172ca7d657705200d9c232c083d308e74d200080f79930c6", func := "harrow/harrowlaw08.JournalGoes", spec := "journalGoes", unfollowed := true, recurses := true, apart := false, narrowed := true }
def JournalGoesUptoSaid : Prop := journalGoesUptoRow.holds Try.pinned (OpenSpec.upto journalGoesSpec)

/-- 'harrowlaw08.JournalNever', WHERE WHAT IT READS IS OF BULK AT MOST 1048576: true; the input reads as it did. -/
def journalNeverUptoRow : OpenClaim := { program := "ytlfooilcngjeiaa", sum := "cb367127cb26b808172ca7d657705200d9c232c083d308e74d200080f79930c6", func := "harrow/harrowlaw08.JournalNever", spec := "journalNever", unfollowed := true, recurses := true, apart := false, narrowed := true }
def JournalNeverUptoSaid : Prop := journalNeverUptoRow.holds Try.pinned (OpenSpec.upto journalNeverSpec)

/-- 'harrowlaw08.JournalSilent', WHERE WHAT IT READS IS OF BULK AT MOST 1048576: true; the input reads as it did. -/
def journalSilentUptoRow : OpenClaim := { program := "ytlfooilcngjeiaa", sum := "cb367127cb26b808172ca7d657705200d9c232c083d308e74d200080f79930c6", func := "harrow/harrowlaw08.JournalSilent", spec := "journalSilent", unfollowed := true, recurses := true, apart := false, narrowed := true }
def JournalSilentUptoSaid : Prop := journalSilentUptoRow.holds Try.pinned (OpenSpec.upto journalSilentSpec)

/-- 'harrowlaw09.ReplayDown', WHERE WHAT IT READS IS OF BULK AT MOST 1048576: true; the input reads as it did. -/
def replayDownUptoRow : OpenClaim := { program := "ytlfooilcngjeiaa", sum := "cb367127cb26b808172ca7d657705200d9c232c083d308e74d200080f79930c6", func := "harrow/harrowlaw09.ReplayDown", spec := "replayDown", unfollowed := true, recurses := true, apart := false, narrowed := true }
def ReplayDownUptoSaid : Prop := replayDownUptoRow.holds Try.pinned (OpenSpec.upto replayDownSpec)

/-- 'harrowlaw09.ReplayTells', WHERE WHAT IT READS IS OF BULK AT MOST 1048576: true; the input reads as it did. -/
def replayTellsUptoRow : OpenClaim := { program := "ytlfooilcngjeiaa", sum := "cb367127cb26b808172ca7d657705200d9c232c083d308e74d200080f79930c6", func := "harrow/harrowlaw09.ReplayTells", spec := "replayTells", unfollowed := true, recurses := true, apart := false, narrowed := true }
def ReplayTellsUptoSaid : Prop := replayTellsUptoRow.holds Try.pinned (OpenSpec.upto replayTellsSpec)

end Rows
end Go.Proofs.Ytlfooilcngjeiaa
