/-
  No cell of these rows narrows 'for every input' (looked for: loops, veiled, ifaces, maps, wideKeys, modest, calm, conditions, laid).
  DERIVED. THE GIVEN ROWS OF THIS SEAT. 7 by the template 'for every input the law returns true; each argument reads behind the call as it read before'; 0 by the template 'total and deterministic' (their statements: YtjhnjehmbgaciaaTotals.lean).
  GIVEN WITH THE SEED: the statements are not yours to turn. If you find one false, say at which input.
  Laid BY PROGRAM, IN A SANDBOX (cutbox-rows.mjs): the forced cells as the released guide's own fill.sh prints them over the translation 89195ef1e97607a9… (all of the seat's roots in one cut). By AI agents, Wed Nov 11 2026. No macro, syntax, notation, axiom, sorry.
-/
import Derived.Test.YtjhnjehmbgaciaaChecked
import GoSem.Claim
import GoSem.ClaimJoined
import GoSem.ClaimMapViews
import Derived.JoinedTies
import Derived.KernelRfl
namespace Go.Proofs.Ytjhnjehmbgaciaa
/- THE CELL 'sum', in the pinned program and in every row, IS THE sha256 OF THE DUMP (.gsa) THAT YtjhnjehmbgaciaaProg.lean LOADS. Nothing in Lean hashes anything: it is a label: what it is worth is what the hold of that sum in a sandbox is worth. -/
noncomputable def Try.pinned : Pinned := { name := "ytjhnjehmbgaciaa", sum := "89195ef1e97607a92bc7022929266eaf23d1ec299e6aea39f81d81a22e7ecb69", checked := Try.checked }
namespace Rows
def none {H : Type} : Left H := { results := [], args := [] }

/-- 'copyistlaw5.PieceFlow': WHATEVER THE INPUT: true; the input reads as it did. -/
def pieceFlowSpec : ChangeSpec := { name := "pieceFlow", fn := fun _ => fun
  | [d1, d2, d3, d4] => { results := [.lit (.bool true)], args := [d1, d2, d3, d4] }
  | _ => none }
def pieceFlowRow : OpenClaim := { program := "ytjhnjehmbgaciaa", sum := "89195ef1e97607a92bc7022929266eaf23d1ec299e6aea39f81d81a22e7ecb69", func := "copyist/copyistlaw5.PieceFlow", spec := "pieceFlow", unfollowed := true, recurses := true, apart := false }
def PieceFlowSaid : Prop := pieceFlowRow.holds Try.pinned (OpenSpec.ofChange pieceFlowSpec)

/-- ITS FALSE NEIGHBOUR: 'it returns false'. Refute it at one input. -/
def pieceFlowWrong : ChangeSpec := { name := "pieceFlow", fn := fun _ => fun
  | [d1, d2, d3, d4] => { results := [.lit (.bool false)], args := [d1, d2, d3, d4] }
  | _ => none }
def PieceFlowWrongFalsely : Prop := pieceFlowRow.holds Try.pinned (OpenSpec.ofChange pieceFlowWrong)

/-- 'copyistlaw5.PieceOpen': WHATEVER THE INPUT: true; the input reads as it did. -/
def pieceOpenSpec : ChangeSpec := { name := "pieceOpen", fn := fun _ => fun
  | [d1, d2, d3] => { results := [.lit (.bool true)], args := [d1, d2, d3] }
  | _ => none }
def pieceOpenRow : OpenClaim := { program := "ytjhnjehmbgaciaa", sum := "89195ef1e97607a92bc7022929266eaf23d1ec299e6aea39f81d81a22e7ecb69", func := "copyist/copyistlaw5.PieceOpen", spec := "pieceOpen", unfollowed := true, recurses := true, apart := false }
def PieceOpenSaid : Prop := pieceOpenRow.holds Try.pinned (OpenSpec.ofChange pieceOpenSpec)

/-- ITS FALSE NEIGHBOUR: 'it returns false'. Refute it at one input. -/
def pieceOpenWrong : ChangeSpec := { name := "pieceOpen", fn := fun _ => fun
  | [d1, d2, d3] => { results := [.lit (.bool false)], args := [d1, d2, d3] }
  | _ => none }
def PieceOpenWrongFalsely : Prop := pieceOpenRow.holds Try.pinned (OpenSpec.ofChange pieceOpenWrong)

/-- 'copyistlaw5.PieceLocal': WHATEVER THE INPUT: true; the input reads as it did. -/
def pieceLocalSpec : ChangeSpec := { name := "pieceLocal", fn := fun _ => fun
  | [d1, d2, d3, d4] => { results := [.lit (.bool true)], args := [d1, d2, d3, d4] }
  | _ => none }
def pieceLocalRow : OpenClaim := { program := "ytjhnjehmbgaciaa", sum := "89195ef1e97607a92bc7022929266eaf23d1ec299e6aea39f81d81a22e7ecb69", func := "copyist/copyistlaw5.PieceLocal", spec := "pieceLocal", unfollowed := true, recurses := true, apart := false }
def PieceLocalSaid : Prop := pieceLocalRow.holds Try.pinned (OpenSpec.ofChange pieceLocalSpec)

/-- ITS FALSE NEIGHBOUR: 'it returns false'. Refute it at one input. -/
def pieceLocalWrong : ChangeSpec := { name := "pieceLocal", fn := fun _ => fun
  | [d1, d2, d3, d4] => { results := [.lit (.bool false)], args := [d1, d2, d3, d4] }
  | _ => none }
def PieceLocalWrongFalsely : Prop := pieceLocalRow.holds Try.pinned (OpenSpec.ofChange pieceLocalWrong)

/-- 'copyistlaw5.PieceMelts': WHATEVER THE INPUT: true; the input reads as it did. -/
def pieceMeltsSpec : ChangeSpec := { name := "pieceMelts", fn := fun _ => fun
  | [d1, d2, d3] => { results := [.lit (.bool true)], args := [d1, d2, d3] }
  | _ => none }
def pieceMeltsRow : OpenClaim := { program := "ytjhnjehmbgaciaa", sum := "89195ef1e97607a92bc7022929266eaf23d1ec299e6aea39f81d81a22e7ecb69", func := "copyist/copyistlaw5.PieceMelts", spec := "pieceMelts", unfollowed := true, recurses := true, apart := false }
def PieceMeltsSaid : Prop := pieceMeltsRow.holds Try.pinned (OpenSpec.ofChange pieceMeltsSpec)

/-- ITS FALSE NEIGHBOUR: 'it returns false'. Refute it at one input. -/
def pieceMeltsWrong : ChangeSpec := { name := "pieceMelts", fn := fun _ => fun
  | [d1, d2, d3] => { results := [.lit (.bool false)], args := [d1, d2, d3] }
  | _ => none }
def PieceMeltsWrongFalsely : Prop := pieceMeltsRow.holds Try.pinned (OpenSpec.ofChange pieceMeltsWrong)

/-- 'copyistlaw5.PieceFaithful': WHATEVER THE INPUT: true; the input reads as it did. -/
def pieceFaithfulSpec : ChangeSpec := { name := "pieceFaithful", fn := fun _ => fun
  | [d1, d2, d3] => { results := [.lit (.bool true)], args := [d1, d2, d3] }
  | _ => none }
def pieceFaithfulRow : OpenClaim := { program := "ytjhnjehmbgaciaa", sum := "89195ef1e97607a92bc7022929266eaf23d1ec299e6aea39f81d81a22e7ecb69", func := "copyist/copyistlaw5.PieceFaithful", spec := "pieceFaithful", unfollowed := true, recurses := true, apart := false }
def PieceFaithfulSaid : Prop := pieceFaithfulRow.holds Try.pinned (OpenSpec.ofChange pieceFaithfulSpec)

/-- ITS FALSE NEIGHBOUR: 'it returns false'. Refute it at one input. -/
def pieceFaithfulWrong : ChangeSpec := { name := "pieceFaithful", fn := fun _ => fun
  | [d1, d2, d3] => { results := [.lit (.bool false)], args := [d1, d2, d3] }
  | _ => none }
def PieceFaithfulWrongFalsely : Prop := pieceFaithfulRow.holds Try.pinned (OpenSpec.ofChange pieceFaithfulWrong)

/-- 'copyistlaw5.PieceApart': WHATEVER THE INPUT: true; the input reads as it did. -/
def pieceApartSpec : ChangeSpec := { name := "pieceApart", fn := fun _ => fun
  | [d1, d2, d3] => { results := [.lit (.bool true)], args := [d1, d2, d3] }
  | _ => none }
def pieceApartRow : OpenClaim := { program := "ytjhnjehmbgaciaa", sum := "89195ef1e97607a92bc7022929266eaf23d1ec299e6aea39f81d81a22e7ecb69", func := "copyist/copyistlaw5.PieceApart", spec := "pieceApart", unfollowed := true, recurses := true, apart := false }
def PieceApartSaid : Prop := pieceApartRow.holds Try.pinned (OpenSpec.ofChange pieceApartSpec)

/-- ITS FALSE NEIGHBOUR: 'it returns false'. Refute it at one input. -/
def pieceApartWrong : ChangeSpec := { name := "pieceApart", fn := fun _ => fun
  | [d1, d2, d3] => { results := [.lit (.bool false)], args := [d1, d2, d3] }
  | _ => none }
def PieceApartWrongFalsely : Prop := pieceApartRow.holds Try.pinned (OpenSpec.ofChange pieceApartWrong)

/-- 'copyistlaw5.PieceSeam': WHATEVER THE INPUT: true; the input reads as it did. -/
def pieceSeamSpec : ChangeSpec := { name := "pieceSeam", fn := fun _ => fun
  | [d1, d2, d3, d4] => { results := [.lit (.bool true)], args := [d1, d2, d3, d4] }
  | _ => none }
def pieceSeamRow : OpenClaim := { program := "ytjhnjehmbgaciaa", sum := "89195ef1e97607a92bc7022929266eaf23d1ec299e6aea39f81d81a22e7ecb69", func := "copyist/copyistlaw5.PieceSeam", spec := "pieceSeam", unfollowed := true, recurses := true, apart := false }
def PieceSeamSaid : Prop := pieceSeamRow.holds Try.pinned (OpenSpec.ofChange pieceSeamSpec)

/-- ITS FALSE NEIGHBOUR: 'it returns false'. Refute it at one input. -/
def pieceSeamWrong : ChangeSpec := { name := "pieceSeam", fn := fun _ => fun
  | [d1, d2, d3, d4] => { results := [.lit (.bool false)], args := [d1, d2, d3, d4] }
  | _ => none }
def PieceSeamWrongFalsely : Prop := pieceSeamRow.holds Try.pinned (OpenSpec.ofChange pieceSeamWrong)

/- THE SECOND FORM. 'bulk': how many values and letters a reading holds, each counted each time it is reached (what is shared counts as often as it is met; a slice's spare places count too). A statement '..UptoSaid' is the law's where the arguments, and the package variables that the reading takes, are together of bulk at most 1048576: NARROWER than '..Said'. Prove '..Said' where nothing that the law and all that it calls make is longer than what came in: it says more and counts as full. Else prove '..UptoSaid'. A law counts once. -/
mutual
def uptoBulk {H : Type} : DataW H → Nat
  | .lit (.string bytes) => bytes.length + 1
  | .lit _ => 1
  | .nil => 1
  | .ptr d => uptoBulk d + 1
  | .slice elems spare => uptoBulkAll elems + uptoBulkAll spare + 1
  | .agg parts => uptoBulkAll parts + 1
  | .iface _ d => uptoBulk d + 1
  | .map entries => uptoBulkEntries entries + 1
  | .held _ => 1
def uptoBulkAll {H : Type} : List (DataW H) → Nat
  | [] => 0
  | d :: r => uptoBulk d + uptoBulkAll r
def uptoBulkEntries {H : Type} : List (Lit × DataW H) → Nat
  | [] => 0
  | x :: r => uptoBulkEntry x + uptoBulkEntries r
def uptoBulkEntry {H : Type} : Lit × DataW H → Nat
  | (.string bytes, d) => bytes.length + uptoBulk d + 1
  | (_, d) => uptoBulk d + 1
 end
def uptoSmall : (H : Type) → List (DataW H) → Bool := fun _ ds => decide (uptoBulkAll ds ≤ 1048576)
def OpenSpec.upto (s : _root_.Go.ChangeSpec) : _root_.Go.OpenSpec := { _root_.Go.OpenSpec.ofChange s with cond := some uptoSmall }

/-- 'copyistlaw5.PieceFlow', WHERE WHAT IT READS IS OF BULK AT MOST 1048576: true; the input reads as it did. -/
def pieceFlowUptoRow : OpenClaim := { program := "ytjhnjehmbgaciaa", sum := "89195ef1e97607a92bc7022929266eaf23d1ec299e6aea39f81d81a22e7ecb69", func := "copyist/copyistlaw5.PieceFlow", spec := "pieceFlow", unfollowed := true, recurses := true, apart := false, narrowed := true }
def PieceFlowUptoSaid : Prop := pieceFlowUptoRow.holds Try.pinned (OpenSpec.upto pieceFlowSpec)

/-- 'copyistlaw5.PieceOpen', WHERE WHAT IT READS IS OF BULK AT MOST 1048576: true; the input reads as it did. -/
def pieceOpenUptoRow : OpenClaim := { program := "ytjhnjehmbgaciaa", sum := "89195ef1e97607a92bc7022929266eaf23d1ec299e6aea39f81d81a22e7ecb69", func := "copyist/copyistlaw5.PieceOpen", spec := "pieceOpen", unfollowed := true, recurses := true, apart := false, narrowed := true }
def PieceOpenUptoSaid : Prop := pieceOpenUptoRow.holds Try.pinned (OpenSpec.upto pieceOpenSpec)

/-- 'copyistlaw5.PieceLocal', WHERE WHAT IT READS IS OF BULK AT MOST 1048576: true; the input reads as it did. -/
def pieceLocalUptoRow : OpenClaim := { program := "ytjhnjehmbgaciaa", sum := "89195ef1e97607a92bc7022929266eaf23d1ec299e6aea39f81d81a22e7ecb69", func := "copyist/copyistlaw5.PieceLocal", spec := "pieceLocal", unfollowed := true, recurses := true, apart := false, narrowed := true }
def PieceLocalUptoSaid : Prop := pieceLocalUptoRow.holds Try.pinned (OpenSpec.upto pieceLocalSpec)

/-- 'copyistlaw5.PieceMelts', WHERE WHAT IT READS IS OF BULK AT MOST 1048576: true; the input reads as it did. -/
def pieceMeltsUptoRow : OpenClaim := { program := "ytjhnjehmbgaciaa", sum := "89195ef1e97607a92bc7022929266eaf23d1ec299e6aea39f81d81a22e7ecb69", func := "copyist/copyistlaw5.PieceMelts", spec := "pieceMelts", unfollowed := true, recurses := true, apart := false, narrowed := true }
def PieceMeltsUptoSaid : Prop := pieceMeltsUptoRow.holds Try.pinned (OpenSpec.upto pieceMeltsSpec)

/-- 'copyistlaw5.PieceFaithful', WHERE WHAT IT READS IS OF BULK AT MOST 1048576: true; the input reads as it did. -/
def pieceFaithfulUptoRow : OpenClaim := { program := "ytjhnjehmbgaciaa", sum := "89195ef1e97607a92bc7022929266eaf23d1ec299e6aea39f81d81a22e7ecb69", func := "copyist/copyistlaw5.PieceFaithful", spec := "pieceFaithful", unfollowed := true, recurses := true, apart := false, narrowed := true }
def PieceFaithfulUptoSaid : Prop := pieceFaithfulUptoRow.holds Try.pinned (OpenSpec.upto pieceFaithfulSpec)

/-- 'copyistlaw5.PieceApart', WHERE WHAT IT READS IS OF BULK AT MOST 1048576: true; the input reads as it did. -/
def pieceApartUptoRow : OpenClaim := { program := "ytjhnjehmbgaciaa", sum := "89195ef1e97607a92bc7022929266eaf23d1ec299e6aea39f81d81a22e7ecb69", func := "copyist/copyistlaw5.PieceApart", spec := "pieceApart", unfollowed := true, recurses := true, apart := false, narrowed := true }
def PieceApartUptoSaid : Prop := pieceApartUptoRow.holds Try.pinned (OpenSpec.upto pieceApartSpec)

/-- 'copyistlaw5.PieceSeam', WHERE WHAT IT READS IS OF BULK AT MOST 1048576: true; the input reads as it did. -/
def pieceSeamUptoRow : OpenClaim := { program := "ytjhnjehmbgaciaa", sum := "89195ef1e97607a92bc7022929266eaf23d1ec299e6aea39f81d81a22e7ecb69", func := "copyist/copyistlaw5.PieceSeam", spec := "pieceSeam", unfollowed := true, recurses := true, apart := false, narrowed := true }
def PieceSeamUptoSaid : Prop := pieceSeamUptoRow.holds Try.pinned (OpenSpec.upto pieceSeamSpec)

end Rows
end Go.Proofs.Ytjhnjehmbgaciaa
