/-
  No cell of these rows narrows 'for every input' (looked for: loops, veiled, ifaces, maps, wideKeys, modest, calm, conditions, laid).
  DERIVED. THE GIVEN ROWS OF THIS SEAT. 8 by the template 'for every input the law returns true; each argument reads behind the call as it read before'; 0 by the template 'total and deterministic' (their statements: YtaebgdhdldfigaaGreatTotals.lean).
  GIVEN WITH THE SEED: the statements are not yours to turn. If you find one false, say at which input.
  Laid BY PROGRAM, IN A SANDBOX (cutbox-rows.mjs): the forced cells as the released guide's own fill.sh prints them over the translation 38a1bf6c9e423b9f… (all of the seat's roots in one cut). By AI agents, Wed Nov 11 2026. No macro, syntax, notation, axiom, sorry.
-/
import Derived.Test.YtaebgdhdldfigaaGreatChecked
import GoSem.Claim
import GoSem.ClaimJoined
import GoSem.ClaimMapViews
import Derived.JoinedTies
import Derived.KernelRfl
namespace Go.Proofs.YtaebgdhdldfigaaGreat
/- THE CELL 'sum', in the pinned program and in every row, IS THE sha256 OF THE DUMP (.gsa) THAT YtaebgdhdldfigaaGreatProg.lean LOADS. Nothing in Lean hashes anything: it is a label: what it is worth is what the hold of that sum in a sandbox is worth. -/
noncomputable def Tryz.pinned : Pinned := { name := "ytaebgdhdldfigaagreat", sum := "38a1bf6c9e423b9f9c7d40184433abe40bbc982a86933858ef8261ee8eb8157c", checked := Tryz.checked }
namespace Rows
def none {H : Type} : Left H := { results := [], args := [] }

/-- 'copyistlaw6.LinesCounts': WHATEVER THE INPUT: true; the input reads as it did. -/
def linesCountsSpec : ChangeSpec := { name := "linesCounts", fn := fun _ => fun
  | [d1, d2, d3] => { results := [.lit (.bool true)], args := [d1, d2, d3] }
  | _ => none }
def linesCountsRow : OpenClaim := { program := "ytaebgdhdldfigaagreat", sum := "38a1bf6c9e423b9f9c7d40184433abe40bbc982a86933858ef8261ee8eb8157c", func := "copyist/copyistlaw6.LinesCounts", spec := "linesCounts", unfollowed := true, recurses := true, apart := false }
def LinesCountsSaid : Prop := linesCountsRow.holds Tryz.pinned (OpenSpec.ofChange linesCountsSpec)

/-- ITS FALSE NEIGHBOUR: 'it returns false'. Refute it at one input. -/
def linesCountsWrong : ChangeSpec := { name := "linesCounts", fn := fun _ => fun
  | [d1, d2, d3] => { results := [.lit (.bool false)], args := [d1, d2, d3] }
  | _ => none }
def LinesCountsWrongFalsely : Prop := linesCountsRow.holds Tryz.pinned (OpenSpec.ofChange linesCountsWrong)

/-- 'copyistlaw6.LinesAt': WHATEVER THE INPUT: true; the input reads as it did. -/
def linesAtSpec : ChangeSpec := { name := "linesAt", fn := fun _ => fun
  | [d1, d2, d3] => { results := [.lit (.bool true)], args := [d1, d2, d3] }
  | _ => none }
def linesAtRow : OpenClaim := { program := "ytaebgdhdldfigaagreat", sum := "38a1bf6c9e423b9f9c7d40184433abe40bbc982a86933858ef8261ee8eb8157c", func := "copyist/copyistlaw6.LinesAt", spec := "linesAt", unfollowed := true, recurses := true, apart := false }
def LinesAtSaid : Prop := linesAtRow.holds Tryz.pinned (OpenSpec.ofChange linesAtSpec)

/-- ITS FALSE NEIGHBOUR: 'it returns false'. Refute it at one input. -/
def linesAtWrong : ChangeSpec := { name := "linesAt", fn := fun _ => fun
  | [d1, d2, d3] => { results := [.lit (.bool false)], args := [d1, d2, d3] }
  | _ => none }
def LinesAtWrongFalsely : Prop := linesAtRow.holds Tryz.pinned (OpenSpec.ofChange linesAtWrong)

/-- 'copyistlaw6.LinesOf': WHATEVER THE INPUT: true; the input reads as it did. -/
def linesOfSpec : ChangeSpec := { name := "linesOf", fn := fun _ => fun
  | [d1, d2, d3] => { results := [.lit (.bool true)], args := [d1, d2, d3] }
  | _ => none }
def linesOfRow : OpenClaim := { program := "ytaebgdhdldfigaagreat", sum := "38a1bf6c9e423b9f9c7d40184433abe40bbc982a86933858ef8261ee8eb8157c", func := "copyist/copyistlaw6.LinesOf", spec := "linesOf", unfollowed := true, recurses := true, apart := false }
def LinesOfSaid : Prop := linesOfRow.holds Tryz.pinned (OpenSpec.ofChange linesOfSpec)

/-- ITS FALSE NEIGHBOUR: 'it returns false'. Refute it at one input. -/
def linesOfWrong : ChangeSpec := { name := "linesOf", fn := fun _ => fun
  | [d1, d2, d3] => { results := [.lit (.bool false)], args := [d1, d2, d3] }
  | _ => none }
def LinesOfWrongFalsely : Prop := linesOfRow.holds Tryz.pinned (OpenSpec.ofChange linesOfWrong)

/-- 'copyistlaw6.LinesKinds': WHATEVER THE INPUT: true; the input reads as it did. -/
def linesKindsSpec : ChangeSpec := { name := "linesKinds", fn := fun _ => fun
  | [d1, d2, d3] => { results := [.lit (.bool true)], args := [d1, d2, d3] }
  | _ => none }
def linesKindsRow : OpenClaim := { program := "ytaebgdhdldfigaagreat", sum := "38a1bf6c9e423b9f9c7d40184433abe40bbc982a86933858ef8261ee8eb8157c", func := "copyist/copyistlaw6.LinesKinds", spec := "linesKinds", unfollowed := true, recurses := true, apart := false }
def LinesKindsSaid : Prop := linesKindsRow.holds Tryz.pinned (OpenSpec.ofChange linesKindsSpec)

/-- ITS FALSE NEIGHBOUR: 'it returns false'. Refute it at one input. -/
def linesKindsWrong : ChangeSpec := { name := "linesKinds", fn := fun _ => fun
  | [d1, d2, d3] => { results := [.lit (.bool false)], args := [d1, d2, d3] }
  | _ => none }
def LinesKindsWrongFalsely : Prop := linesKindsRow.holds Tryz.pinned (OpenSpec.ofChange linesKindsWrong)

/-- 'copyistlaw6.LinesGone': WHATEVER THE INPUT: true; the input reads as it did. -/
def linesGoneSpec : ChangeSpec := { name := "linesGone", fn := fun _ => fun
  | [d1, d2, d3] => { results := [.lit (.bool true)], args := [d1, d2, d3] }
  | _ => none }
def linesGoneRow : OpenClaim := { program := "ytaebgdhdldfigaagreat", sum := "38a1bf6c9e423b9f9c7d40184433abe40bbc982a86933858ef8261ee8eb8157c", func := "copyist/copyistlaw6.LinesGone", spec := "linesGone", unfollowed := true, recurses := true, apart := false }
def LinesGoneSaid : Prop := linesGoneRow.holds Tryz.pinned (OpenSpec.ofChange linesGoneSpec)

/-- ITS FALSE NEIGHBOUR: 'it returns false'. Refute it at one input. -/
def linesGoneWrong : ChangeSpec := { name := "linesGone", fn := fun _ => fun
  | [d1, d2, d3] => { results := [.lit (.bool false)], args := [d1, d2, d3] }
  | _ => none }
def LinesGoneWrongFalsely : Prop := linesGoneRow.holds Tryz.pinned (OpenSpec.ofChange linesGoneWrong)

/-- 'copyistlaw6.LinesTyped': WHATEVER THE INPUT: true; the input reads as it did. -/
def linesTypedSpec : ChangeSpec := { name := "linesTyped", fn := fun _ => fun
  | [d1, d2, d3] => { results := [.lit (.bool true)], args := [d1, d2, d3] }
  | _ => none }
def linesTypedRow : OpenClaim := { program := "ytaebgdhdldfigaagreat", sum := "38a1bf6c9e423b9f9c7d40184433abe40bbc982a86933858ef8261ee8eb8157c", func := "copyist/copyistlaw6.LinesTyped", spec := "linesTyped", unfollowed := true, recurses := true, apart := false }
def LinesTypedSaid : Prop := linesTypedRow.holds Tryz.pinned (OpenSpec.ofChange linesTypedSpec)

/-- ITS FALSE NEIGHBOUR: 'it returns false'. Refute it at one input. -/
def linesTypedWrong : ChangeSpec := { name := "linesTyped", fn := fun _ => fun
  | [d1, d2, d3] => { results := [.lit (.bool false)], args := [d1, d2, d3] }
  | _ => none }
def LinesTypedWrongFalsely : Prop := linesTypedRow.holds Tryz.pinned (OpenSpec.ofChange linesTypedWrong)

/-- 'copyistlaw6.LinesWhole': WHATEVER THE INPUT: true; the input reads as it did. -/
def linesWholeSpec : ChangeSpec := { name := "linesWhole", fn := fun _ => fun
  | [d1, d2, d3] => { results := [.lit (.bool true)], args := [d1, d2, d3] }
  | _ => none }
def linesWholeRow : OpenClaim := { program := "ytaebgdhdldfigaagreat", sum := "38a1bf6c9e423b9f9c7d40184433abe40bbc982a86933858ef8261ee8eb8157c", func := "copyist/copyistlaw6.LinesWhole", spec := "linesWhole", unfollowed := true, recurses := true, apart := false }
def LinesWholeSaid : Prop := linesWholeRow.holds Tryz.pinned (OpenSpec.ofChange linesWholeSpec)

/-- ITS FALSE NEIGHBOUR: 'it returns false'. Refute it at one input. -/
def linesWholeWrong : ChangeSpec := { name := "linesWhole", fn := fun _ => fun
  | [d1, d2, d3] => { results := [.lit (.bool false)], args := [d1, d2, d3] }
  | _ => none }
def LinesWholeWrongFalsely : Prop := linesWholeRow.holds Tryz.pinned (OpenSpec.ofChange linesWholeWrong)

/-- 'copyistlaw6.LinesScript': WHATEVER THE INPUT: true; the input reads as it did. -/
def linesScriptSpec : ChangeSpec := { name := "linesScript", fn := fun _ => fun
  | [d1, d2, d3] => { results := [.lit (.bool true)], args := [d1, d2, d3] }
  | _ => none }
def linesScriptRow : OpenClaim := { program := "ytaebgdhdldfigaagreat", sum := "38a1bf6c9e423b9f9c7d40184433abe40bbc982a86933858ef8261ee8eb8157c", func := "copyist/copyistlaw6.LinesScript", spec := "linesScript", unfollowed := true, recurses := true, apart := false }
def LinesScriptSaid : Prop := linesScriptRow.holds Tryz.pinned (OpenSpec.ofChange linesScriptSpec)

/-- ITS FALSE NEIGHBOUR: 'it returns false'. Refute it at one input. -/
def linesScriptWrong : ChangeSpec := { name := "linesScript", fn := fun _ => fun
  | [d1, d2, d3] => { results := [.lit (.bool false)], args := [d1, d2, d3] }
  | _ => none }
def LinesScriptWrongFalsely : Prop := linesScriptRow.holds Tryz.pinned (OpenSpec.ofChange linesScriptWrong)

/- THE SECOND FORM. 'bulk': how many values and letters a reading holds, each counted each time it is reached (what is shared counts as often as it is met; a slice's spare places count too). A statement '..UptoSaid' is the law's where the arguments, and the package variables that the reading takes, are together of bulk at most 1048576: NARROWER than '..Said'. Prove '..Said' where nothing that the law and all that it calls make is longer than what came in: it says more and counts as full. Else prove '..UptoSaid'. A law counts once. -/
mutual
def uptoBulk {H : Type} : DataW H → Nat
  | .lit (.string bytes) => bytes.length + 1
  | .lit _ => 1
  | .nil => 1
  | .ptr d => uptoBulk d + 1
  | .slice elems spare => uptoBulkAll elems + uptoBulkAll spare + 1
  | .agg parts => uptoBulkAll parts + 1
  | .iface _ d => uptoBulk d + 1
  | .map entries => uptoBulkEntries entries + 1
  | .held _ => 1
def uptoBulkAll {H : Type} : List (DataW H) → Nat
  | [] => 0
  | d :: r => uptoBulk d + uptoBulkAll r
def uptoBulkEntries {H : Type} : List (Lit × DataW H) → Nat
  | [] => 0
  | x :: r => uptoBulkEntry x + uptoBulkEntries r
def uptoBulkEntry {H : Type} : Lit × DataW H → Nat
  | (.string bytes, d) => bytes.length + uptoBulk d + 1
  | (_, d) => uptoBulk d + 1
 end
def uptoSmall : (H : Type) → List (DataW H) → Bool := fun _ ds => decide (uptoBulkAll ds ≤ 1048576)
def OpenSpec.upto (s : _root_.Go.ChangeSpec) : _root_.Go.OpenSpec := { _root_.Go.OpenSpec.ofChange s with cond := some uptoSmall }

/-- 'copyistlaw6.LinesCounts', WHERE WHAT IT READS IS OF BULK AT MOST 1048576: true; the input reads as it did. -/
def linesCountsUptoRow : OpenClaim := { program := "ytaebgdhdldfigaagreat", sum := "38a1bf6c9e423b9f9c7d40184433abe40bbc982a86933858ef8261ee8eb8157c", func := "copyist/copyistlaw6.LinesCounts", spec := "linesCounts", unfollowed := true, recurses := true, apart := false, narrowed := true }
def LinesCountsUptoSaid : Prop := linesCountsUptoRow.holds Tryz.pinned (OpenSpec.upto linesCountsSpec)

/-- 'copyistlaw6.LinesAt', WHERE WHAT IT READS IS OF BULK AT MOST 1048576: true; the input reads as it did. -/
def linesAtUptoRow : OpenClaim := { program := "ytaebgdhdldfigaagreat", sum := "38a1bf6c9e423b9f9c7d40184433abe40bbc982a86933858ef8261ee8eb8157c", func := "copyist/copyistlaw6.LinesAt", spec := "linesAt", unfollowed := true, recurses := true, apart := false, narrowed := true }
def LinesAtUptoSaid : Prop := linesAtUptoRow.holds Tryz.pinned (OpenSpec.upto linesAtSpec)

/-- 'copyistlaw6.LinesOf', WHERE WHAT IT READS IS OF BULK AT MOST 1048576: true; the input reads as it did. -/
def linesOfUptoRow : OpenClaim := { program := "ytaebgdhdldfigaagreat", sum := "38a1bf6c9e423b9f9c7d40184433abe40bbc982a86933858ef8261ee8eb8157c", func := "copyist/copyistlaw6.LinesOf", spec := "linesOf", unfollowed := true, recurses := true, apart := false, narrowed := true }
def LinesOfUptoSaid : Prop := linesOfUptoRow.holds Tryz.pinned (OpenSpec.upto linesOfSpec)

/-- 'copyistlaw6.LinesKinds', WHERE WHAT IT READS IS OF BULK AT MOST 1048576: true; the input reads as it did. -/
def linesKindsUptoRow : OpenClaim := { program := "ytaebgdhdldfigaagreat", sum := "38a1bf6c9e423b9f9c7d40184433abe40bbc982a86933858ef8261ee8eb8157c", func := "copyist/copyistlaw6.LinesKinds", spec := "linesKinds", unfollowed := true, recurses := true, apart := false, narrowed := true }
def LinesKindsUptoSaid : Prop := linesKindsUptoRow.holds Tryz.pinned (OpenSpec.upto linesKindsSpec)

/-- 'copyistlaw6.LinesGone', WHERE WHAT IT READS IS OF BULK AT MOST 1048576: true; the input reads as it did. -/
def linesGoneUptoRow : OpenClaim := { program := "ytaebgdhdldfigaagreat", sum := "38a1bf6c9e423b9f9c7d40184433abe40bbc982a86933858ef8261ee8eb8157c", func := "copyist/copyistlaw6.LinesGone", spec := "linesGone", unfollowed := true, recurses := true, apart := false, narrowed := true }
def LinesGoneUptoSaid : Prop := linesGoneUptoRow.holds Tryz.pinned (OpenSpec.upto linesGoneSpec)

/-- 'copyistlaw6.LinesTyped', WHERE WHAT IT READS IS OF BULK AT MOST 1048576: true; the input reads as it did. -/
def linesTypedUptoRow : OpenClaim := { program := "ytaebgdhdldfigaagreat", sum := "38a1bf6c9e423b9f9c7d40184433abe40bbc982a86933858ef8261ee8eb8157c", func := "copyist/copyistlaw6.LinesTyped", spec := "linesTyped", unfollowed := true, recurses := true, apart := false, narrowed := true }
def LinesTypedUptoSaid : Prop := linesTypedUptoRow.holds Tryz.pinned (OpenSpec.upto linesTypedSpec)

/-- 'copyistlaw6.LinesWhole', WHERE WHAT IT READS IS OF BULK AT MOST 1048576: true; the input reads as it did. -/
def linesWholeUptoRow : OpenClaim := { program := "ytaebgdhdldfigaagreat", sum := "38a1bf6c9e423b9f9c7d40184433abe40bbc982a86933858ef8261ee8eb8157c", func := "copyist/copyistlaw6.LinesWhole", spec := "linesWhole", unfollowed := true, recurses := true, apart := false, narrowed := true }
def LinesWholeUptoSaid : Prop := linesWholeUptoRow.holds Tryz.pinned (OpenSpec.upto linesWholeSpec)

/-- 'copyistlaw6.LinesScript', WHERE WHAT IT READS IS OF BULK AT MOST 1048576: true; the input reads as it did. -/
def linesScriptUptoRow : OpenClaim := { program := "ytaebgdhdldfigaagreat", sum := "38a1bf6c9e423b9f9c7d40184433abe40bbc982a86933858ef8261ee8eb8157c", func := "copyist/copyistlaw6.LinesScript", spec := "linesScript", unfollowed := true, recurses := true, apart := false, narrowed := true }
def LinesScriptUptoSaid : Prop := linesScriptUptoRow.holds Tryz.pinned (OpenSpec.upto linesScriptSpec)

end Rows
end Go.Proofs.YtaebgdhdldfigaaGreat
