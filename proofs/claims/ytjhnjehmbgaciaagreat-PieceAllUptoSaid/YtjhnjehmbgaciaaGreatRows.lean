/-
  No cell of these rows narrows 'for every input' (looked for: loops, veiled, ifaces, maps, wideKeys, modest, calm, conditions, laid).
  DERIVED. THE GIVEN ROWS OF THIS SEAT. 5 by the template 'for every input the law returns true; each argument reads behind the call as it read before'; 0 by the template 'total and deterministic' (their statements: YtjhnjehmbgaciaaGreatTotals.lean).
  GIVEN WITH THE SEED: the statements are not yours to turn. If you find one false, say at which input.
  Laid BY PROGRAM, IN A SANDBOX (cutbox-rows.mjs): the forced cells as the released guide's own fill.sh prints them over the translation 1f6bb12b9cae597f… (all of the seat's roots in one cut). By AI agents, Wed Nov 11 2026. No macro, syntax, notation, axiom, sorry.
-/
import Derived.Test.YtjhnjehmbgaciaaGreatChecked
import GoSem.Claim
import GoSem.ClaimJoined
import GoSem.ClaimMapViews
import Derived.JoinedTies
import Derived.KernelRfl
namespace Go.Proofs.YtjhnjehmbgaciaaGreat
/- THE CELL 'sum', in the pinned program and in every row, IS THE sha256 OF THE DUMP (.gsa) THAT YtjhnjehmbgaciaaGreatProg.lean LOADS. Nothing in Lean hashes anything: it is a label: what it is worth is what the hold of that sum in a sandbox is worth. -/
noncomputable def Tryz.pinned : Pinned := { name := "ytjhnjehmbgaciaagreat", sum := "1f6bb12b9cae597f127700b00705703270c5abe8fd082ceb68da0799262b774c", checked := Tryz.checked }
namespace Rows
def none {H : Type} : Left H := { results := [], args := [] }

/-- 'copyistlaw5.PieceChange': WHATEVER THE INPUT: true; the input reads as it did. -/
def pieceChangeSpec : ChangeSpec := { name := "pieceChange", fn := fun _ => fun
  | [d] => { results := [.lit (.bool true)], args := [d] }
  | _ => none }
def pieceChangeRow : OpenClaim := { program := "ytjhnjehmbgaciaagreat", sum := "1f6bb12b9cae597f127700b00705703270c5abe8fd082ceb68da0799262b774c", func := "copyist/copyistlaw5.PieceChange", spec := "pieceChange", unfollowed := true, recurses := true, apart := false }
def PieceChangeSaid : Prop := pieceChangeRow.holds Tryz.pinned (OpenSpec.ofChange pieceChangeSpec)

/-- ITS FALSE NEIGHBOUR: 'it returns false'. Refute it at one input. -/
def pieceChangeWrong : ChangeSpec := { name := "pieceChange", fn := fun _ => fun
  | [d] => { results := [.lit (.bool false)], args := [d] }
  | _ => none }
def PieceChangeWrongFalsely : Prop := pieceChangeRow.holds Tryz.pinned (OpenSpec.ofChange pieceChangeWrong)

/-- 'copyistlaw5.PieceBreaks': WHATEVER THE INPUT: true; the input reads as it did. -/
def pieceBreaksSpec : ChangeSpec := { name := "pieceBreaks", fn := fun _ => fun
  | [d] => { results := [.lit (.bool true)], args := [d] }
  | _ => none }
def pieceBreaksRow : OpenClaim := { program := "ytjhnjehmbgaciaagreat", sum := "1f6bb12b9cae597f127700b00705703270c5abe8fd082ceb68da0799262b774c", func := "copyist/copyistlaw5.PieceBreaks", spec := "pieceBreaks", unfollowed := true, recurses := true, apart := false }
def PieceBreaksSaid : Prop := pieceBreaksRow.holds Tryz.pinned (OpenSpec.ofChange pieceBreaksSpec)

/-- ITS FALSE NEIGHBOUR: 'it returns false'. Refute it at one input. -/
def pieceBreaksWrong : ChangeSpec := { name := "pieceBreaks", fn := fun _ => fun
  | [d] => { results := [.lit (.bool false)], args := [d] }
  | _ => none }
def PieceBreaksWrongFalsely : Prop := pieceBreaksRow.holds Tryz.pinned (OpenSpec.ofChange pieceBreaksWrong)

/-- 'copyistlaw5.PieceChunks': WHATEVER THE INPUT: true; the input reads as it did. -/
def pieceChunksSpec : ChangeSpec := { name := "pieceChunks", fn := fun _ => fun
  | [d] => { results := [.lit (.bool true)], args := [d] }
  | _ => none }
def pieceChunksRow : OpenClaim := { program := "ytjhnjehmbgaciaagreat", sum := "1f6bb12b9cae597f127700b00705703270c5abe8fd082ceb68da0799262b774c", func := "copyist/copyistlaw5.PieceChunks", spec := "pieceChunks", unfollowed := true, recurses := true, apart := false }
def PieceChunksSaid : Prop := pieceChunksRow.holds Tryz.pinned (OpenSpec.ofChange pieceChunksSpec)

/-- ITS FALSE NEIGHBOUR: 'it returns false'. Refute it at one input. -/
def pieceChunksWrong : ChangeSpec := { name := "pieceChunks", fn := fun _ => fun
  | [d] => { results := [.lit (.bool false)], args := [d] }
  | _ => none }
def PieceChunksWrongFalsely : Prop := pieceChunksRow.holds Tryz.pinned (OpenSpec.ofChange pieceChunksWrong)

/-- 'copyistlaw5.PieceSnaps': WHATEVER THE INPUT: true; the input reads as it did. -/
def pieceSnapsSpec : ChangeSpec := { name := "pieceSnaps", fn := fun _ => fun
  | [d] => { results := [.lit (.bool true)], args := [d] }
  | _ => none }
def pieceSnapsRow : OpenClaim := { program := "ytjhnjehmbgaciaagreat", sum := "1f6bb12b9cae597f127700b00705703270c5abe8fd082ceb68da0799262b774c", func := "copyist/copyistlaw5.PieceSnaps", spec := "pieceSnaps", unfollowed := true, recurses := true, apart := false }
def PieceSnapsSaid : Prop := pieceSnapsRow.holds Tryz.pinned (OpenSpec.ofChange pieceSnapsSpec)

/-- ITS FALSE NEIGHBOUR: 'it returns false'. Refute it at one input. -/
def pieceSnapsWrong : ChangeSpec := { name := "pieceSnaps", fn := fun _ => fun
  | [d] => { results := [.lit (.bool false)], args := [d] }
  | _ => none }
def PieceSnapsWrongFalsely : Prop := pieceSnapsRow.holds Tryz.pinned (OpenSpec.ofChange pieceSnapsWrong)

/-- 'copyistlaw5.PieceAll': WHATEVER THE INPUT: true; the input reads as it did. -/
def pieceAllSpec : ChangeSpec := { name := "pieceAll", fn := fun _ => fun
  | [d] => { results := [.lit (.bool true)], args := [d] }
  | _ => none }
def pieceAllRow : OpenClaim := { program := "ytjhnjehmbgaciaagreat", sum := "1f6bb12b9cae597f127700b00705703270c5abe8fd082ceb68da0799262b774c", func := "copyist/copyistlaw5.PieceAll", spec := "pieceAll", unfollowed := true, recurses := true, apart := false }
def PieceAllSaid : Prop := pieceAllRow.holds Tryz.pinned (OpenSpec.ofChange pieceAllSpec)

/-- ITS FALSE NEIGHBOUR: 'it returns false'. Refute it at one input. -/
def pieceAllWrong : ChangeSpec := { name := "pieceAll", fn := fun _ => fun
  | [d] => { results := [.lit (.bool false)], args := [d] }
  | _ => none }
def PieceAllWrongFalsely : Prop := pieceAllRow.holds Tryz.pinned (OpenSpec.ofChange pieceAllWrong)

/- THE SECOND FORM. 'bulk': how many values and letters a reading holds, each counted each time it is reached (what is shared counts as often as it is met; a slice's spare places count too). A statement '..UptoSaid' is the law's where the arguments, and the package variables that the reading takes, are together of bulk at most 1048576: NARROWER than '..Said'. Prove '..Said' where nothing that the law and all that it calls make is longer than what came in: it says more and counts as full. Else prove '..UptoSaid'. A law counts once. -/
mutual
def uptoBulk {H : Type} : DataW H → Nat
  | .lit (.string bytes) => bytes.length + 1
  | .lit _ => 1
  | .nil => 1
  | .ptr d => uptoBulk d + 1
  | .slice elems spare => uptoBulkAll elems + uptoBulkAll spare + 1
  | .agg parts => uptoBulkAll parts + 1
  | .iface _ d => uptoBulk d + 1
  | .map entries => uptoBulkEntries entries + 1
  | .held _ => 1
def uptoBulkAll {H : Type} : List (DataW H) → Nat
  | [] => 0
  | d :: r => uptoBulk d + uptoBulkAll r
def uptoBulkEntries {H : Type} : List (Lit × DataW H) → Nat
  | [] => 0
  | x :: r => uptoBulkEntry x + uptoBulkEntries r
def uptoBulkEntry {H : Type} : Lit × DataW H → Nat
  | (.string bytes, d) => bytes.length + uptoBulk d + 1
  | (_, d) => uptoBulk d + 1
 end
def uptoSmall : (H : Type) → List (DataW H) → Bool := fun _ ds => decide (uptoBulkAll ds ≤ 1048576)
def OpenSpec.upto (s : _root_.Go.ChangeSpec) : _root_.Go.OpenSpec := { _root_.Go.OpenSpec.ofChange s with cond := some uptoSmall }

/-- 'copyistlaw5.PieceChange', WHERE WHAT IT READS IS OF BULK AT MOST 1048576: true; the input reads as it did. -/
def pieceChangeUptoRow : OpenClaim := { program := "ytjhnjehmbgaciaagreat", sum := "1f6bb12b9cae597f127700b00705703270c5abe8fd082ceb68da0799262b774c", func := "copyist/copyistlaw5.PieceChange", spec := "pieceChange", unfollowed := true, recurses := true, apart := false, narrowed := true }
def PieceChangeUptoSaid : Prop := pieceChangeUptoRow.holds Tryz.pinned (OpenSpec.upto pieceChangeSpec)

/-- 'copyistlaw5.PieceBreaks', WHERE WHAT IT READS IS OF BULK AT MOST 1048576: true; the input reads as it did. -/
def pieceBreaksUptoRow : OpenClaim := { program := "ytjhnjehmbgaciaagreat", sum := "1f6bb12b9cae597f127700b00705703270c5abe8fd082ceb68da0799262b774c", func := "copyist/copyistlaw5.PieceBreaks", spec := "pieceBreaks", unfollowed := true, recurses := true, apart := false, narrowed := true }
def PieceBreaksUptoSaid : Prop := pieceBreaksUptoRow.holds Tryz.pinned (OpenSpec.upto pieceBreaksSpec)

/-- 'copyistlaw5.PieceChunks', WHERE WHAT IT READS IS OF BULK AT MOST 1048576: true; the input reads as it did. -/
def pieceChunksUptoRow : OpenClaim := { program := "ytjhnjehmbgaciaagreat", sum := "1f6bb12b9cae597f127700b00705703270c5abe8fd082ceb68da0799262b774c", func := "copyist/copyistlaw5.PieceChunks", spec := "pieceChunks", unfollowed := true, recurses := true, apart := false, narrowed := true }
def PieceChunksUptoSaid : Prop := pieceChunksUptoRow.holds Tryz.pinned (OpenSpec.upto pieceChunksSpec)

/-- 'copyistlaw5.PieceSnaps', WHERE WHAT IT READS IS OF BULK AT MOST 1048576: true; the input reads as it did. -/
def pieceSnapsUptoRow : OpenClaim := { program := "ytjhnjehmbgaciaagreat", sum := "1f6bb12b9cae597f127700b00705703270c5abe8fd082ceb68da0799262b774c", func := "copyist/copyistlaw5.PieceSnaps", spec := "pieceSnaps", unfollowed := true, recurses := true, apart := false, narrowed := true }
def PieceSnapsUptoSaid : Prop := pieceSnapsUptoRow.holds Tryz.pinned (OpenSpec.upto pieceSnapsSpec)

/-- 'copyistlaw5.PieceAll', WHERE WHAT IT READS IS OF BULK AT MOST 1048576: true; the input reads as it did. -/
def pieceAllUptoRow : OpenClaim := { program := "ytjhnjehmbgaciaagreat", sum := "1f6bb12b9cae597f127700b00705703270c5abe8fd082ceb68da0799262b774c", func := "copyist/copyistlaw5.PieceAll", spec := "pieceAll", unfollowed := true, recurses := true, apart := false, narrowed := true }
def PieceAllUptoSaid : Prop := pieceAllUptoRow.holds Tryz.pinned (OpenSpec.upto pieceAllSpec)

end Rows
end Go.Proofs.YtjhnjehmbgaciaaGreat
