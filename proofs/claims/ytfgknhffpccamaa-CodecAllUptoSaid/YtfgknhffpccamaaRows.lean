/-
  No cell of these rows narrows 'for every input' (looked for: loops, veiled, ifaces, maps, wideKeys, modest, calm, conditions, laid).
  DERIVED. THE GIVEN ROWS OF THIS SEAT. 13 by the template 'for every input the law returns true; each argument reads behind the call as it read before'; 0 by the template 'total and deterministic' (their statements: YtfgknhffpccamaaTotals.lean).
  GIVEN WITH THE SEED: the statements are not yours to turn. If you find one false, say at which input.
  Laid BY PROGRAM, IN A SANDBOX (cutbox-rows.mjs): the forced cells as the released guide's own fill.sh prints them over the translation 35f32f51007aa6cb… (all of the seat's roots in one cut). By AI agents, Wed Nov 11 2026. No macro, syntax, notation, axiom, sorry.
-/
import Derived.Test.YtfgknhffpccamaaChecked
import GoSem.Claim
import GoSem.ClaimJoined
import GoSem.ClaimMapViews
import Derived.JoinedTies
import Derived.KernelRfl
namespace Go.Proofs.Ytfgknhffpccamaa
/- THE CELL 'sum', in the pinned program and in every row, IS THE sha256 OF THE DUMP (.gsa) THAT YtfgknhffpccamaaProg.lean LOADS. Nothing in Lean hashes anything: it is a label: what it is worth is what the hold of that sum in a sandbox is worth. -/
noncomputable def Try.pinned : Pinned := { name := "ytfgknhffpccamaa", sum := "35f32f51007aa6cbf0af4d06b9263c958e9e3108e89d7d148a76149c938bdac2", checked := Try.checked }
namespace Rows
def none {H : Type} : Left H := { results := [], args := [] }

/-- 'copyistlaw1.CodecMarks': WHATEVER THE INPUT: true; the input reads as it did. -/
def codecMarksSpec : ChangeSpec := { name := "codecMarks", fn := fun _ => fun
  | [d1, d2] => { results := [.lit (.bool true)], args := [d1, d2] }
  | _ => none }
def codecMarksRow : OpenClaim := { program := "ytfgknhffpccamaa", sum := "35f32f51007aa6cbf0af4d06b9263c958e9e3108e89d7d148a76149c938bdac2", func := "copyist/copyistlaw1.CodecMarks", spec := "codecMarks", apart := false }
def CodecMarksSaid : Prop := codecMarksRow.holds Try.pinned (OpenSpec.ofChange codecMarksSpec)

/-- ITS FALSE NEIGHBOUR: 'it returns false'. Refute it at one input. -/
def codecMarksWrong : ChangeSpec := { name := "codecMarks", fn := fun _ => fun
  | [d1, d2] => { results := [.lit (.bool false)], args := [d1, d2] }
  | _ => none }
def CodecMarksWrongFalsely : Prop := codecMarksRow.holds Try.pinned (OpenSpec.ofChange codecMarksWrong)

/-- 'copyistlaw1.CodecSizes': WHATEVER THE INPUT: true; the input reads as it did. -/
def codecSizesSpec : ChangeSpec := { name := "codecSizes", fn := fun _ => fun
  | [d1, d2] => { results := [.lit (.bool true)], args := [d1, d2] }
  | _ => none }
def codecSizesRow : OpenClaim := { program := "ytfgknhffpccamaa", sum := "35f32f51007aa6cbf0af4d06b9263c958e9e3108e89d7d148a76149c938bdac2", func := "copyist/copyistlaw1.CodecSizes", spec := "codecSizes", unfollowed := true, recurses := true, apart := false }
def CodecSizesSaid : Prop := codecSizesRow.holds Try.pinned (OpenSpec.ofChange codecSizesSpec)

/-- ITS FALSE NEIGHBOUR: 'it returns false'. Refute it at one input. -/
def codecSizesWrong : ChangeSpec := { name := "codecSizes", fn := fun _ => fun
  | [d1, d2] => { results := [.lit (.bool false)], args := [d1, d2] }
  | _ => none }
def CodecSizesWrongFalsely : Prop := codecSizesRow.holds Try.pinned (OpenSpec.ofChange codecSizesWrong)

/-- 'copyistlaw1.CodecEncode': WHATEVER THE INPUT: true; the input reads as it did. -/
def codecEncodeSpec : ChangeSpec := { name := "codecEncode", fn := fun _ => fun
  | [d1, d2] => { results := [.lit (.bool true)], args := [d1, d2] }
  | _ => none }
def codecEncodeRow : OpenClaim := { program := "ytfgknhffpccamaa", sum := "35f32f51007aa6cbf0af4d06b9263c958e9e3108e89d7d148a76149c938bdac2", func := "copyist/copyistlaw1.CodecEncode", spec := "codecEncode", unfollowed := true, recurses := true, apart := false }
def CodecEncodeSaid : Prop := codecEncodeRow.holds Try.pinned (OpenSpec.ofChange codecEncodeSpec)

/-- ITS FALSE NEIGHBOUR: 'it returns false'. Refute it at one input. -/
def codecEncodeWrong : ChangeSpec := { name := "codecEncode", fn := fun _ => fun
  | [d1, d2] => { results := [.lit (.bool false)], args := [d1, d2] }
  | _ => none }
def CodecEncodeWrongFalsely : Prop := codecEncodeRow.holds Try.pinned (OpenSpec.ofChange codecEncodeWrong)

/-- 'copyistlaw1.CodecDecode': WHATEVER THE INPUT: true; the input reads as it did. -/
def codecDecodeSpec : ChangeSpec := { name := "codecDecode", fn := fun _ => fun
  | [d1, d2] => { results := [.lit (.bool true)], args := [d1, d2] }
  | _ => none }
def codecDecodeRow : OpenClaim := { program := "ytfgknhffpccamaa", sum := "35f32f51007aa6cbf0af4d06b9263c958e9e3108e89d7d148a76149c938bdac2", func := "copyist/copyistlaw1.CodecDecode", spec := "codecDecode", unfollowed := true, recurses := true, apart := false }
def CodecDecodeSaid : Prop := codecDecodeRow.holds Try.pinned (OpenSpec.ofChange codecDecodeSpec)

/-- ITS FALSE NEIGHBOUR: 'it returns false'. Refute it at one input. -/
def codecDecodeWrong : ChangeSpec := { name := "codecDecode", fn := fun _ => fun
  | [d1, d2] => { results := [.lit (.bool false)], args := [d1, d2] }
  | _ => none }
def CodecDecodeWrongFalsely : Prop := codecDecodeRow.holds Try.pinned (OpenSpec.ofChange codecDecodeWrong)

/-- 'copyistlaw1.CodecGuess': WHATEVER THE INPUT: true; the input reads as it did. -/
def codecGuessSpec : ChangeSpec := { name := "codecGuess", fn := fun _ => fun
  | [d] => { results := [.lit (.bool true)], args := [d] }
  | _ => none }
def codecGuessRow : OpenClaim := { program := "ytfgknhffpccamaa", sum := "35f32f51007aa6cbf0af4d06b9263c958e9e3108e89d7d148a76149c938bdac2", func := "copyist/copyistlaw1.CodecGuess", spec := "codecGuess", apart := false }
def CodecGuessSaid : Prop := codecGuessRow.holds Try.pinned (OpenSpec.ofChange codecGuessSpec)

/-- ITS FALSE NEIGHBOUR: 'it returns false'. Refute it at one input. -/
def codecGuessWrong : ChangeSpec := { name := "codecGuess", fn := fun _ => fun
  | [d] => { results := [.lit (.bool false)], args := [d] }
  | _ => none }
def CodecGuessWrongFalsely : Prop := codecGuessRow.holds Try.pinned (OpenSpec.ofChange codecGuessWrong)

/-- 'copyistlaw1.CodecTokens': WHATEVER THE INPUT: true; the input reads as it did. -/
def codecTokensSpec : ChangeSpec := { name := "codecTokens", fn := fun _ => fun
  | [d1, d2, d3] => { results := [.lit (.bool true)], args := [d1, d2, d3] }
  | _ => none }
def codecTokensRow : OpenClaim := { program := "ytfgknhffpccamaa", sum := "35f32f51007aa6cbf0af4d06b9263c958e9e3108e89d7d148a76149c938bdac2", func := "copyist/copyistlaw1.CodecTokens", spec := "codecTokens", unfollowed := true, recurses := true, apart := false }
def CodecTokensSaid : Prop := codecTokensRow.holds Try.pinned (OpenSpec.ofChange codecTokensSpec)

/-- ITS FALSE NEIGHBOUR: 'it returns false'. Refute it at one input. -/
def codecTokensWrong : ChangeSpec := { name := "codecTokens", fn := fun _ => fun
  | [d1, d2, d3] => { results := [.lit (.bool false)], args := [d1, d2, d3] }
  | _ => none }
def CodecTokensWrongFalsely : Prop := codecTokensRow.holds Try.pinned (OpenSpec.ofChange codecTokensWrong)

/-- 'copyistlaw1.CodecStream': WHATEVER THE INPUT: true; the input reads as it did. -/
def codecStreamSpec : ChangeSpec := { name := "codecStream", fn := fun _ => fun
  | [d1, d2, d3] => { results := [.lit (.bool true)], args := [d1, d2, d3] }
  | _ => none }
def codecStreamRow : OpenClaim := { program := "ytfgknhffpccamaa", sum := "35f32f51007aa6cbf0af4d06b9263c958e9e3108e89d7d148a76149c938bdac2", func := "copyist/copyistlaw1.CodecStream", spec := "codecStream", unfollowed := true, recurses := true, apart := false }
def CodecStreamSaid : Prop := codecStreamRow.holds Try.pinned (OpenSpec.ofChange codecStreamSpec)

/-- ITS FALSE NEIGHBOUR: 'it returns false'. Refute it at one input. -/
def codecStreamWrong : ChangeSpec := { name := "codecStream", fn := fun _ => fun
  | [d1, d2, d3] => { results := [.lit (.bool false)], args := [d1, d2, d3] }
  | _ => none }
def CodecStreamWrongFalsely : Prop := codecStreamRow.holds Try.pinned (OpenSpec.ofChange codecStreamWrong)

/-- 'copyistlaw1.CodecWalk': WHATEVER THE INPUT: true; the input reads as it did. -/
def codecWalkSpec : ChangeSpec := { name := "codecWalk", fn := fun _ => fun
  | [d1, d2] => { results := [.lit (.bool true)], args := [d1, d2] }
  | _ => none }
def codecWalkRow : OpenClaim := { program := "ytfgknhffpccamaa", sum := "35f32f51007aa6cbf0af4d06b9263c958e9e3108e89d7d148a76149c938bdac2", func := "copyist/copyistlaw1.CodecWalk", spec := "codecWalk", unfollowed := true, recurses := true, apart := false }
def CodecWalkSaid : Prop := codecWalkRow.holds Try.pinned (OpenSpec.ofChange codecWalkSpec)

/-- ITS FALSE NEIGHBOUR: 'it returns false'. Refute it at one input. -/
def codecWalkWrong : ChangeSpec := { name := "codecWalk", fn := fun _ => fun
  | [d1, d2] => { results := [.lit (.bool false)], args := [d1, d2] }
  | _ => none }
def CodecWalkWrongFalsely : Prop := codecWalkRow.holds Try.pinned (OpenSpec.ofChange codecWalkWrong)

/-- 'copyistlaw1.CodecParts': WHATEVER THE INPUT: true; the input reads as it did. -/
def codecPartsSpec : ChangeSpec := { name := "codecParts", fn := fun _ => fun
  | [d1, d2, d3] => { results := [.lit (.bool true)], args := [d1, d2, d3] }
  | _ => none }
def codecPartsRow : OpenClaim := { program := "ytfgknhffpccamaa", sum := "35f32f51007aa6cbf0af4d06b9263c958e9e3108e89d7d148a76149c938bdac2", func := "copyist/copyistlaw1.CodecParts", spec := "codecParts", unfollowed := true, recurses := true, apart := false }
def CodecPartsSaid : Prop := codecPartsRow.holds Try.pinned (OpenSpec.ofChange codecPartsSpec)

/-- ITS FALSE NEIGHBOUR: 'it returns false'. Refute it at one input. -/
def codecPartsWrong : ChangeSpec := { name := "codecParts", fn := fun _ => fun
  | [d1, d2, d3] => { results := [.lit (.bool false)], args := [d1, d2, d3] }
  | _ => none }
def CodecPartsWrongFalsely : Prop := codecPartsRow.holds Try.pinned (OpenSpec.ofChange codecPartsWrong)

/-- 'copyistlaw1.CodecScalars': WHATEVER THE INPUT: true; the input reads as it did. -/
def codecScalarsSpec : ChangeSpec := { name := "codecScalars", fn := fun _ => fun
  | [d1, d2] => { results := [.lit (.bool true)], args := [d1, d2] }
  | _ => none }
def codecScalarsRow : OpenClaim := { program := "ytfgknhffpccamaa", sum := "35f32f51007aa6cbf0af4d06b9263c958e9e3108e89d7d148a76149c938bdac2", func := "copyist/copyistlaw1.CodecScalars", spec := "codecScalars", unfollowed := true, recurses := true, apart := false }
def CodecScalarsSaid : Prop := codecScalarsRow.holds Try.pinned (OpenSpec.ofChange codecScalarsSpec)

/-- ITS FALSE NEIGHBOUR: 'it returns false'. Refute it at one input. -/
def codecScalarsWrong : ChangeSpec := { name := "codecScalars", fn := fun _ => fun
  | [d1, d2] => { results := [.lit (.bool false)], args := [d1, d2] }
  | _ => none }
def CodecScalarsWrongFalsely : Prop := codecScalarsRow.holds Try.pinned (OpenSpec.ofChange codecScalarsWrong)

/-- 'copyistlaw1.CodecBack': WHATEVER THE INPUT: true; the input reads as it did. -/
def codecBackSpec : ChangeSpec := { name := "codecBack", fn := fun _ => fun
  | [d1, d2] => { results := [.lit (.bool true)], args := [d1, d2] }
  | _ => none }
def codecBackRow : OpenClaim := { program := "ytfgknhffpccamaa", sum := "35f32f51007aa6cbf0af4d06b9263c958e9e3108e89d7d148a76149c938bdac2", func := "copyist/copyistlaw1.CodecBack", spec := "codecBack", unfollowed := true, recurses := true, apart := false }
def CodecBackSaid : Prop := codecBackRow.holds Try.pinned (OpenSpec.ofChange codecBackSpec)

/-- ITS FALSE NEIGHBOUR: 'it returns false'. Refute it at one input. -/
def codecBackWrong : ChangeSpec := { name := "codecBack", fn := fun _ => fun
  | [d1, d2] => { results := [.lit (.bool false)], args := [d1, d2] }
  | _ => none }
def CodecBackWrongFalsely : Prop := codecBackRow.holds Try.pinned (OpenSpec.ofChange codecBackWrong)

/-- 'copyistlaw1.CodecFresh': WHATEVER THE INPUT: true; the input reads as it did. -/
def codecFreshSpec : ChangeSpec := { name := "codecFresh", fn := fun _ => fun
  | [d1, d2, d3] => { results := [.lit (.bool true)], args := [d1, d2, d3] }
  | _ => none }
def codecFreshRow : OpenClaim := { program := "ytfgknhffpccamaa", sum := "35f32f51007aa6cbf0af4d06b9263c958e9e3108e89d7d148a76149c938bdac2", func := "copyist/copyistlaw1.CodecFresh", spec := "codecFresh", unfollowed := true, recurses := true, apart := false }
def CodecFreshSaid : Prop := codecFreshRow.holds Try.pinned (OpenSpec.ofChange codecFreshSpec)

/-- ITS FALSE NEIGHBOUR: 'it returns false'. Refute it at one input. -/
def codecFreshWrong : ChangeSpec := { name := "codecFresh", fn := fun _ => fun
  | [d1, d2, d3] => { results := [.lit (.bool false)], args := [d1, d2, d3] }
  | _ => none }
def CodecFreshWrongFalsely : Prop := codecFreshRow.holds Try.pinned (OpenSpec.ofChange codecFreshWrong)

/-- 'copyistlaw1.CodecAll': WHATEVER THE INPUT: true; the input reads as it did. -/
def codecAllSpec : ChangeSpec := { name := "codecAll", fn := fun _ => fun
  | [d1, d2, d3] => { results := [.lit (.bool true)], args := [d1, d2, d3] }
  | _ => none }
def codecAllRow : OpenClaim := { program := "ytfgknhffpccamaa", sum := "35f32f51007aa6cbf0af4d06b9263c958e9e3108e89d7d148a76149c938bdac2", func := "copyist/copyistlaw1.CodecAll", spec := "codecAll", unfollowed := true, recurses := true, apart := false }
def CodecAllSaid : Prop := codecAllRow.holds Try.pinned (OpenSpec.ofChange codecAllSpec)

/-- ITS FALSE NEIGHBOUR: 'it returns false'. Refute it at one input. -/
def codecAllWrong : ChangeSpec := { name := "codecAll", fn := fun _ => fun
  | [d1, d2, d3] => { results := [.lit (.bool false)], args := [d1, d2, d3] }
  | _ => none }
def CodecAllWrongFalsely : Prop := codecAllRow.holds Try.pinned (OpenSpec.ofChange codecAllWrong)

/- THE SECOND FORM. 'bulk': how many values and letters a reading holds, each counted each time it is reached (what is shared counts as often as it is met; a slice's spare places count too). A statement '..UptoSaid' is the law's where the arguments, and the package variables that the reading takes, are together of bulk at most 1048576: NARROWER than '..Said'. Prove '..Said' where nothing that the law and all that it calls make is longer than what came in: it says more and counts as full. Else prove '..UptoSaid'. A law counts once. -/
mutual
def uptoBulk {H : Type} : DataW H → Nat
  | .lit (.string bytes) => bytes.length + 1
  | .lit _ => 1
  | .nil => 1
  | .ptr d => uptoBulk d + 1
  | .slice elems spare => uptoBulkAll elems + uptoBulkAll spare + 1
  | .agg parts => uptoBulkAll parts + 1
  | .iface _ d => uptoBulk d + 1
  | .map entries => uptoBulkEntries entries + 1
  | .held _ => 1
def uptoBulkAll {H : Type} : List (DataW H) → Nat
  | [] => 0
  | d :: r => uptoBulk d + uptoBulkAll r
def uptoBulkEntries {H : Type} : List (Lit × DataW H) → Nat
  | [] => 0
  | x :: r => uptoBulkEntry x + uptoBulkEntries r
def uptoBulkEntry {H : Type} : Lit × DataW H → Nat
  | (.string bytes, d) => bytes.length + uptoBulk d + 1
  | (_, d) => uptoBulk d + 1
 end
def uptoSmall : (H : Type) → List (DataW H) → Bool := fun _ ds => decide (uptoBulkAll ds ≤ 1048576)
def OpenSpec.upto (s : _root_.Go.ChangeSpec) : _root_.Go.OpenSpec := { _root_.Go.OpenSpec.ofChange s with cond := some uptoSmall }

/-- 'copyistlaw1.CodecMarks', WHERE WHAT IT READS IS OF BULK AT MOST 1048576: true; the input reads as it did. -/
def codecMarksUptoRow : OpenClaim := { program := "ytfgknhffpccamaa", sum := "35f32f51007aa6cbf0af4d06b9263c958e9e3108e89d7d148a76149c938bdac2", func := "copyist/copyistlaw1.CodecMarks", spec := "codecMarks", apart := false, narrowed := true }
def CodecMarksUptoSaid : Prop := codecMarksUptoRow.holds Try.pinned (OpenSpec.upto codecMarksSpec)

/-- 'copyistlaw1.CodecSizes', WHERE WHAT IT READS IS OF BULK AT MOST 1048576: true; the input reads as it did. -/
def codecSizesUptoRow : OpenClaim := { program := "ytfgknhffpccamaa", sum := "35f32f51007aa6cbf0af4d06b9263c958e9e3108e89d7d148a76149c938bdac2", func := "copyist/copyistlaw1.CodecSizes", spec := "codecSizes", unfollowed := true, recurses := true, apart := false, narrowed := true }
def CodecSizesUptoSaid : Prop := codecSizesUptoRow.holds Try.pinned (OpenSpec.upto codecSizesSpec)

/-- 'copyistlaw1.CodecEncode', WHERE WHAT IT READS IS OF BULK AT MOST 1048576: true; the input reads as it did. -/
def codecEncodeUptoRow : OpenClaim := { program := "ytfgknhffpccamaa", sum := "35f32f51007aa6cbf0af4d06b9263c958e9e3108e89d7d148a76149c938bdac2", func := "copyist/copyistlaw1.CodecEncode", spec := "codecEncode", unfollowed := true, recurses := true, apart := false, narrowed := true }
def CodecEncodeUptoSaid : Prop := codecEncodeUptoRow.holds Try.pinned (OpenSpec.upto codecEncodeSpec)

/-- 'copyistlaw1.CodecDecode', WHERE WHAT IT READS IS OF BULK AT MOST 1048576: true; the input reads as it did. -/
def codecDecodeUptoRow : OpenClaim := { program := "ytfgknhffpccamaa", sum := "35f32f51007aa6cbf0af4d06b9263c958e9e3108e89d7d148a76149c938bdac2", func := "copyist/copyistlaw1.CodecDecode", spec := "codecDecode", unfollowed := true, recurses := true, apart := false, narrowed := true }
def CodecDecodeUptoSaid : Prop := codecDecodeUptoRow.holds Try.pinned (OpenSpec.upto codecDecodeSpec)

/-- 'copyistlaw1.CodecGuess', WHERE WHAT IT READS IS OF BULK AT MOST 1048576: true; the input reads as it did. -/
def codecGuessUptoRow : OpenClaim := { program := "ytfgknhffpccamaa", sum := "35f32f51007aa6cbf0af4d06b9263c958e9e3108e89d7d148a76149c938bdac2", func := "copyist/copyistlaw1.CodecGuess", spec := "codecGuess", apart := false, narrowed := true }
def CodecGuessUptoSaid : Prop := codecGuessUptoRow.holds Try.pinned (OpenSpec.upto codecGuessSpec)

/-- 'copyistlaw1.CodecTokens', WHERE WHAT IT READS IS OF BULK AT MOST 1048576: true; the input reads as it did. -/
def codecTokensUptoRow : OpenClaim := { program := "ytfgknhffpccamaa", sum := "35f32f51007aa6cbf0af4d06b9263c958e9e3108e89d7d148a76149c938bdac2", func := "copyist/copyistlaw1.CodecTokens", spec := "codecTokens", unfollowed := true, recurses := true, apart := false, narrowed := true }
def CodecTokensUptoSaid : Prop := codecTokensUptoRow.holds Try.pinned (OpenSpec.upto codecTokensSpec)

/-- 'copyistlaw1.CodecStream', WHERE WHAT IT READS IS OF BULK AT MOST 1048576: true; the input reads as it did. -/
def codecStreamUptoRow : OpenClaim := { program := "ytfgknhffpccamaa", sum := "35f32f51007aa6cbf0af4d06b9263c958e9e3108e89d7d148a76149c938bdac2", func := "copyist/copyistlaw1.CodecStream", spec := "codecStream", unfollowed := true, recurses := true, apart := false, narrowed := true }
def CodecStreamUptoSaid : Prop := codecStreamUptoRow.holds Try.pinned (OpenSpec.upto codecStreamSpec)

/-- 'copyistlaw1.CodecWalk', WHERE WHAT IT READS IS OF BULK AT MOST 1048576: true; the input reads as it did. -/
def codecWalkUptoRow : OpenClaim := { program := "ytfgknhffpccamaa", sum := "35f32f51007aa6cbf0af4d06b9263c958e9e3108e89d7d148a76149c938bdac2", func := "copyist/copyistlaw1.CodecWalk", spec := "codecWalk", unfollowed := true, recurses := true, apart := false, narrowed := true }
def CodecWalkUptoSaid : Prop := codecWalkUptoRow.holds Try.pinned (OpenSpec.upto codecWalkSpec)

/-- 'copyistlaw1.CodecParts', WHERE WHAT IT READS IS OF BULK AT MOST 1048576: true; the input reads as it did. -/
def codecPartsUptoRow : OpenClaim := { program := "ytfgknhffpccamaa", sum := "35f32f51007aa6cbf0af4d06b9263c958e9e3108e89d7d148a76149c938bdac2", func := "copyist/copyistlaw1.CodecParts", spec := "codecParts", unfollowed := true, recurses := true, apart := false, narrowed := true }
def CodecPartsUptoSaid : Prop := codecPartsUptoRow.holds Try.pinned (OpenSpec.upto codecPartsSpec)

/-- 'copyistlaw1.CodecScalars', WHERE WHAT IT READS IS OF BULK AT MOST 1048576: true; the input reads as it did. -/
def codecScalarsUptoRow : OpenClaim := { program := "ytfgknhffpccamaa", sum := "35f32f51007aa6cbf0af4d06b9263c958e9e3108e89d7d148a76149c938bdac2", func := "copyist/copyistlaw1.CodecScalars", spec := "codecScalars", unfollowed := true, recurses := true, apart := false, narrowed := true }
def CodecScalarsUptoSaid : Prop := codecScalarsUptoRow.holds Try.pinned (OpenSpec.upto codecScalarsSpec)

/-- 'copyistlaw1.CodecBack', WHERE WHAT IT READS IS OF BULK AT MOST 1048576: true; the input reads as it did. -/
def codecBackUptoRow : OpenClaim := { program := "ytfgknhffpccamaa", sum := "35f32f51007aa6cbf0af4d06b9263c958e9e3108e89d7d148a76149c938bdac2", func := "copyist/copyistlaw1.CodecBack", spec := "codecBack", unfollowed := true, recurses := true, apart := false, narrowed := true }
def CodecBackUptoSaid : Prop := codecBackUptoRow.holds Try.pinned (OpenSpec.upto codecBackSpec)

/-- 'copyistlaw1.CodecFresh', WHERE WHAT IT READS IS OF BULK AT MOST 1048576: true; the input reads as it did. -/
def codecFreshUptoRow : OpenClaim := { program := "ytfgknhffpccamaa", sum := "35f32f51007aa6cbf0af4d06b9263c958e9e3108e89d7d148a76149c938bdac2", func := "copyist/copyistlaw1.CodecFresh", spec := "codecFresh", unfollowed := true, recurses := true, apart := false, narrowed := true }
def CodecFreshUptoSaid : Prop := codecFreshUptoRow.holds Try.pinned (OpenSpec.upto codecFreshSpec)

/-- 'copyistlaw1.CodecAll', WHERE WHAT IT READS IS OF BULK AT MOST 1048576: true; the input reads as it did. -/
def codecAllUptoRow : OpenClaim := { program := "ytfgknhffpccamaa", sum := "35f32f51007aa6cbf0af4d06b9263c958e9e3108e89d7d148a76149c938bdac2", func := "copyist/copyistlaw1.CodecAll", spec := "codecAll", unfollowed := true, recurses := true, apart := false, narrowed := true }
def CodecAllUptoSaid : Prop := codecAllUptoRow.holds Try.pinned (OpenSpec.upto codecAllSpec)

end Rows
end Go.Proofs.Ytfgknhffpccamaa
