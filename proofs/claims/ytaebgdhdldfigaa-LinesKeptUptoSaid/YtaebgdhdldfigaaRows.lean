/-
  No cell of these rows narrows 'for every input' (looked for: loops, veiled, ifaces, maps, wideKeys, modest, calm, conditions, laid).
  DERIVED. THE GIVEN ROWS OF THIS SEAT. 7 by the template 'for every input the law returns true; each argument reads behind the call as it read before'; 0 by the template 'total and deterministic' (their statements: YtaebgdhdldfigaaTotals.lean).
  GIVEN WITH THE SEED: the statements are not yours to turn. If you find one false, say at which input.
  Laid BY PROGRAM, IN A SANDBOX (cutbox-rows.mjs): the forced cells as the released guide's own fill.sh prints them over the translation 1036c365c70eb9c7… (all of the seat's roots in one cut). By AI agents, Wed Nov 11 2026. No macro, syntax, notation, axiom, sorry.
-/
import Derived.Test.YtaebgdhdldfigaaChecked
import GoSem.Claim
import GoSem.ClaimJoined
import GoSem.ClaimMapViews
import Derived.JoinedTies
import Derived.KernelRfl
namespace Go.Proofs.Ytaebgdhdldfigaa
/- THE CELL 'sum', in the pinned program and in every row, IS THE sha256 OF THE DUMP (.gsa) THAT YtaebgdhdldfigaaProg.lean LOADS. Nothing in Lean hashes anything: it is a label: what it is worth is what the hold of that sum in a sandbox is worth. -/
noncomputable def Try.pinned : Pinned := { name := "ytaebgdhdldfigaa", sum := "1036c365c70eb9c7b3e21a5d37f4b75d5042f694ca129e494e3eb80a8e950ba2", checked := Try.checked }
namespace Rows
def none {H : Type} : Left H := { results := [], args := [] }

/-- 'copyistlaw6.LinesKept': WHATEVER THE INPUT: true; the input reads as it did. -/
def linesKeptSpec : ChangeSpec := { name := "linesKept", fn := fun _ => fun
  | [d1, d2] => { results := [.lit (.bool true)], args := [d1, d2] }
  | _ => none }
def linesKeptRow : OpenClaim := { program := "ytaebgdhdldfigaa", sum := "1036c365c70eb9c7b3e21a5d37f4b75d5042f694ca129e494e3eb80a8e950ba2", func := "copyist/copyistlaw6.LinesKept", spec := "linesKept", unfollowed := true, recurses := true, apart := false }
def LinesKeptSaid : Prop := linesKeptRow.holds Try.pinned (OpenSpec.ofChange linesKeptSpec)

/-- ITS FALSE NEIGHBOUR: 'it returns false'. Refute it at one input. -/
def linesKeptWrong : ChangeSpec := { name := "linesKept", fn := fun _ => fun
  | [d1, d2] => { results := [.lit (.bool false)], args := [d1, d2] }
  | _ => none }
def LinesKeptWrongFalsely : Prop := linesKeptRow.holds Try.pinned (OpenSpec.ofChange linesKeptWrong)

/-- 'copyistlaw6.LinesTurned': WHATEVER THE INPUT: true; the input reads as it did. -/
def linesTurnedSpec : ChangeSpec := { name := "linesTurned", fn := fun _ => fun
  | [d1, d2, d3] => { results := [.lit (.bool true)], args := [d1, d2, d3] }
  | _ => none }
def linesTurnedRow : OpenClaim := { program := "ytaebgdhdldfigaa", sum := "1036c365c70eb9c7b3e21a5d37f4b75d5042f694ca129e494e3eb80a8e950ba2", func := "copyist/copyistlaw6.LinesTurned", spec := "linesTurned", unfollowed := true, recurses := true, apart := false }
def LinesTurnedSaid : Prop := linesTurnedRow.holds Try.pinned (OpenSpec.ofChange linesTurnedSpec)

/-- ITS FALSE NEIGHBOUR: 'it returns false'. Refute it at one input. -/
def linesTurnedWrong : ChangeSpec := { name := "linesTurned", fn := fun _ => fun
  | [d1, d2, d3] => { results := [.lit (.bool false)], args := [d1, d2, d3] }
  | _ => none }
def LinesTurnedWrongFalsely : Prop := linesTurnedRow.holds Try.pinned (OpenSpec.ofChange linesTurnedWrong)

/-- 'copyistlaw6.LinesLater': WHATEVER THE INPUT: true; the input reads as it did. -/
def linesLaterSpec : ChangeSpec := { name := "linesLater", fn := fun _ => fun
  | [d1, d2] => { results := [.lit (.bool true)], args := [d1, d2] }
  | _ => none }
def linesLaterRow : OpenClaim := { program := "ytaebgdhdldfigaa", sum := "1036c365c70eb9c7b3e21a5d37f4b75d5042f694ca129e494e3eb80a8e950ba2", func := "copyist/copyistlaw6.LinesLater", spec := "linesLater", unfollowed := true, recurses := true, apart := false }
def LinesLaterSaid : Prop := linesLaterRow.holds Try.pinned (OpenSpec.ofChange linesLaterSpec)

/-- ITS FALSE NEIGHBOUR: 'it returns false'. Refute it at one input. -/
def linesLaterWrong : ChangeSpec := { name := "linesLater", fn := fun _ => fun
  | [d1, d2] => { results := [.lit (.bool false)], args := [d1, d2] }
  | _ => none }
def LinesLaterWrongFalsely : Prop := linesLaterRow.holds Try.pinned (OpenSpec.ofChange linesLaterWrong)

/-- 'copyistlaw6.LinesTile': WHATEVER THE INPUT: true; the input reads as it did. -/
def linesTileSpec : ChangeSpec := { name := "linesTile", fn := fun _ => fun
  | [d1, d2] => { results := [.lit (.bool true)], args := [d1, d2] }
  | _ => none }
def linesTileRow : OpenClaim := { program := "ytaebgdhdldfigaa", sum := "1036c365c70eb9c7b3e21a5d37f4b75d5042f694ca129e494e3eb80a8e950ba2", func := "copyist/copyistlaw6.LinesTile", spec := "linesTile", unfollowed := true, recurses := true, apart := false }
def LinesTileSaid : Prop := linesTileRow.holds Try.pinned (OpenSpec.ofChange linesTileSpec)

/-- ITS FALSE NEIGHBOUR: 'it returns false'. Refute it at one input. -/
def linesTileWrong : ChangeSpec := { name := "linesTile", fn := fun _ => fun
  | [d1, d2] => { results := [.lit (.bool false)], args := [d1, d2] }
  | _ => none }
def LinesTileWrongFalsely : Prop := linesTileRow.holds Try.pinned (OpenSpec.ofChange linesTileWrong)

/-- 'copyistlaw6.LinesSeam': WHATEVER THE INPUT: true; the input reads as it did. -/
def linesSeamSpec : ChangeSpec := { name := "linesSeam", fn := fun _ => fun
  | [d1, d2] => { results := [.lit (.bool true)], args := [d1, d2] }
  | _ => none }
def linesSeamRow : OpenClaim := { program := "ytaebgdhdldfigaa", sum := "1036c365c70eb9c7b3e21a5d37f4b75d5042f694ca129e494e3eb80a8e950ba2", func := "copyist/copyistlaw6.LinesSeam", spec := "linesSeam", unfollowed := true, recurses := true, apart := false }
def LinesSeamSaid : Prop := linesSeamRow.holds Try.pinned (OpenSpec.ofChange linesSeamSpec)

/-- ITS FALSE NEIGHBOUR: 'it returns false'. Refute it at one input. -/
def linesSeamWrong : ChangeSpec := { name := "linesSeam", fn := fun _ => fun
  | [d1, d2] => { results := [.lit (.bool false)], args := [d1, d2] }
  | _ => none }
def LinesSeamWrongFalsely : Prop := linesSeamRow.holds Try.pinned (OpenSpec.ofChange linesSeamWrong)

/-- 'copyistlaw6.LinesDeleted': WHATEVER THE INPUT: true; the input reads as it did. -/
def linesDeletedSpec : ChangeSpec := { name := "linesDeleted", fn := fun _ => fun
  | [d1, d2, d3] => { results := [.lit (.bool true)], args := [d1, d2, d3] }
  | _ => none }
def linesDeletedRow : OpenClaim := { program := "ytaebgdhdldfigaa", sum := "1036c365c70eb9c7b3e21a5d37f4b75d5042f694ca129e494e3eb80a8e950ba2", func := "copyist/copyistlaw6.LinesDeleted", spec := "linesDeleted", unfollowed := true, recurses := true, apart := false }
def LinesDeletedSaid : Prop := linesDeletedRow.holds Try.pinned (OpenSpec.ofChange linesDeletedSpec)

/-- ITS FALSE NEIGHBOUR: 'it returns false'. Refute it at one input. -/
def linesDeletedWrong : ChangeSpec := { name := "linesDeleted", fn := fun _ => fun
  | [d1, d2, d3] => { results := [.lit (.bool false)], args := [d1, d2, d3] }
  | _ => none }
def LinesDeletedWrongFalsely : Prop := linesDeletedRow.holds Try.pinned (OpenSpec.ofChange linesDeletedWrong)

/-- 'copyistlaw6.LinesGrow': WHATEVER THE INPUT: true; the input reads as it did. -/
def linesGrowSpec : ChangeSpec := { name := "linesGrow", fn := fun _ => fun
  | [d1, d2, d3, d4] => { results := [.lit (.bool true)], args := [d1, d2, d3, d4] }
  | _ => none }
def linesGrowRow : OpenClaim := { program := "ytaebgdhdldfigaa", sum := "1036c365c70eb9c7b3e21a5d37f4b75d5042f694ca129e494e3eb80a8e950ba2", func := "copyist/copyistlaw6.LinesGrow", spec := "linesGrow", unfollowed := true, recurses := true, apart := false }
def LinesGrowSaid : Prop := linesGrowRow.holds Try.pinned (OpenSpec.ofChange linesGrowSpec)

/-- ITS FALSE NEIGHBOUR: 'it returns false'. Refute it at one input. -/
def linesGrowWrong : ChangeSpec := { name := "linesGrow", fn := fun _ => fun
  | [d1, d2, d3, d4] => { results := [.lit (.bool false)], args := [d1, d2, d3, d4] }
  | _ => none }
def LinesGrowWrongFalsely : Prop := linesGrowRow.holds Try.pinned (OpenSpec.ofChange linesGrowWrong)

/- THE SECOND FORM. 'bulk': how many values and letters a reading holds, each counted each time it is reached (what is shared counts as often as it is met; a slice's spare places count too). A statement '..UptoSaid' is the law's where the arguments, and the package variables that the reading takes, are together of bulk at most 1048576: NARROWER than '..Said'. Prove '..Said' where nothing that the law and all that it calls make is longer than what came in: it says more and counts as full. Else prove '..UptoSaid'. A law counts once. -/
mutual
def uptoBulk {H : Type} : DataW H → Nat
  | .lit (.string bytes) => bytes.length + 1
  | .lit _ => 1
  | .nil => 1
  | .ptr d => uptoBulk d + 1
  | .slice elems spare => uptoBulkAll elems + uptoBulkAll spare + 1
  | .agg parts => uptoBulkAll parts + 1
  | .iface _ d => uptoBulk d + 1
  | .map entries => uptoBulkEntries entries + 1
  | .held _ => 1
def uptoBulkAll {H : Type} : List (DataW H) → Nat
  | [] => 0
  | d :: r => uptoBulk d + uptoBulkAll r
def uptoBulkEntries {H : Type} : List (Lit × DataW H) → Nat
  | [] => 0
  | x :: r => uptoBulkEntry x + uptoBulkEntries r
def uptoBulkEntry {H : Type} : Lit × DataW H → Nat
  | (.string bytes, d) => bytes.length + uptoBulk d + 1
  | (_, d) => uptoBulk d + 1
 end
def uptoSmall : (H : Type) → List (DataW H) → Bool := fun _ ds => decide (uptoBulkAll ds ≤ 1048576)
def OpenSpec.upto (s : _root_.Go.ChangeSpec) : _root_.Go.OpenSpec := { _root_.Go.OpenSpec.ofChange s with cond := some uptoSmall }

/-- 'copyistlaw6.LinesKept', WHERE WHAT IT READS IS OF BULK AT MOST 1048576: true; the input reads as it did. -/
def linesKeptUptoRow : OpenClaim := { program := "ytaebgdhdldfigaa", sum := "1036c365c70eb9c7b3e21a5d37f4b75d5042f694ca129e494e3eb80a8e950ba2", func := "copyist/copyistlaw6.LinesKept", spec := "linesKept", unfollowed := true, recurses := true, apart := false, narrowed := true }
def LinesKeptUptoSaid : Prop := linesKeptUptoRow.holds Try.pinned (OpenSpec.upto linesKeptSpec)

/-- 'copyistlaw6.LinesTurned', WHERE WHAT IT READS IS OF BULK AT MOST 1048576: true; the input reads as it did. -/
def linesTurnedUptoRow : OpenClaim := { program := "ytaebgdhdldfigaa", sum := "1036c365c70eb9c7b3e21a5d37f4b75d5042f694ca129e494e3eb80a8e950ba2", func := "copyist/copyistlaw6.LinesTurned", spec := "linesTurned", unfollowed := true, recurses := true, apart := false, narrowed := true }
def LinesTurnedUptoSaid : Prop := linesTurnedUptoRow.holds Try.pinned (OpenSpec.upto linesTurnedSpec)

/-- 'copyistlaw6.LinesLater', WHERE WHAT IT READS IS OF BULK AT MOST 1048576: true; the input reads as it did. -/
def linesLaterUptoRow : OpenClaim := { program := "ytaebgdhdldfigaa", sum := "1036c365c70eb9c7b3e21a5d37f4b75d5042f694ca129e494e3eb80a8e950ba2", func := "copyist/copyistlaw6.LinesLater", spec := "linesLater", unfollowed := true, recurses := true, apart := false, narrowed := true }
def LinesLaterUptoSaid : Prop := linesLaterUptoRow.holds Try.pinned (OpenSpec.upto linesLaterSpec)

/-- 'copyistlaw6.LinesTile', WHERE WHAT IT READS IS OF BULK AT MOST 1048576: true; the input reads as it did. -/
def linesTileUptoRow : OpenClaim := { program := "ytaebgdhdldfigaa", sum := "1036c365c70eb9c7b3e21a5d37f4b75d5042f694ca129e494e3eb80a8e950ba2", func := "copyist/copyistlaw6.LinesTile", spec := "linesTile", unfollowed := true, recurses := true, apart := false, narrowed := true }
def LinesTileUptoSaid : Prop := linesTileUptoRow.holds Try.pinned (OpenSpec.upto linesTileSpec)

/-- 'copyistlaw6.LinesSeam', WHERE WHAT IT READS IS OF BULK AT MOST 1048576: true; the input reads as it did. -/
def linesSeamUptoRow : OpenClaim := { program := "ytaebgdhdldfigaa", sum := "1036c365c70eb9c7b3e21a5d37f4b75d5042f694ca129e494e3eb80a8e950ba2", func := "copyist/copyistlaw6.LinesSeam", spec := "linesSeam", unfollowed := true, recurses := true, apart := false, narrowed := true }
def LinesSeamUptoSaid : Prop := linesSeamUptoRow.holds Try.pinned (OpenSpec.upto linesSeamSpec)

/-- 'copyistlaw6.LinesDeleted', WHERE WHAT IT READS IS OF BULK AT MOST 1048576: true; the input reads as it did. -/
def linesDeletedUptoRow : OpenClaim := { program := "ytaebgdhdldfigaa", sum := "1036c365c70eb9c7b3e21a5d37f4b75d5042f694ca129e494e3eb80a8e950ba2", func := "copyist/copyistlaw6.LinesDeleted", spec := "linesDeleted", unfollowed := true, recurses := true, apart := false, narrowed := true }
def LinesDeletedUptoSaid : Prop := linesDeletedUptoRow.holds Try.pinned (OpenSpec.upto linesDeletedSpec)

/-- 'copyistlaw6.LinesGrow', WHERE WHAT IT READS IS OF BULK AT MOST 1048576: true; the input reads as it did. -/
def linesGrowUptoRow : OpenClaim := { program := "ytaebgdhdldfigaa", sum := "1036c365c70eb9c7b3e21a5d37f4b75d5042f694ca129e494e3eb80a8e950ba2", func := "copyist/copyistlaw6.LinesGrow", spec := "linesGrow", unfollowed := true, recurses := true, apart := false, narrowed := true }
def LinesGrowUptoSaid : Prop := linesGrowUptoRow.holds Try.pinned (OpenSpec.upto linesGrowSpec)

end Rows
end Go.Proofs.Ytaebgdhdldfigaa
