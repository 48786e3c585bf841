/-
  No cell of these rows narrows 'for every input' (looked for: loops, veiled, ifaces, maps, wideKeys, modest, calm, conditions, laid).
  DERIVED. THE GIVEN ROWS OF THIS SEAT. 6 by the template 'for every input the law returns true; each argument reads behind the call as it read before'; 0 by the template 'total and deterministic' (their statements: YtncolficnfcdcaaGreatTotals.lean).
  GIVEN WITH THE SEED: the statements are not yours to turn. If you find one false, say at which input.
  Laid BY PROGRAM, IN A SANDBOX (cutbox-rows.mjs): the forced cells as the released guide's own fill.sh prints them over the translation cd1580b53784f864… (all of the seat's roots in one cut). By AI agents, Wed Nov 11 2026. No macro, syntax, notation, axiom, sorry.
-/
import Derived.Test.YtncolficnfcdcaaGreatChecked
import GoSem.Claim
import GoSem.ClaimJoined
import GoSem.ClaimMapViews
import Derived.JoinedTies
import Derived.KernelRfl
namespace Go.Proofs.YtncolficnfcdcaaGreat
/- THE CELL 'sum', in the pinned program and in every row, IS THE sha256 OF THE DUMP (.gsa) THAT YtncolficnfcdcaaGreatProg.lean LOADS. Nothing in Lean hashes anything: it is a label: what it is worth is what the hold of that sum in a sandbox is worth. -/
noncomputable def Tryz.pinned : Pinned := { name := "ytncolficnfcdcaagreat", sum := "cd1580b53784f864fb13aa2438d75c59be08c2d6eca466ac1cce66093cf272ad", checked := Tryz.checked }
namespace Rows
def none {H : Type} : Left H := { results := [], args := [] }

/-- 'copyistlaw7.HistoryUndone': WHATEVER THE INPUT: true; the input reads as it did. -/
def historyUndoneSpec : ChangeSpec := { name := "historyUndone", fn := fun _ => fun
  | [d1, d2, d3, d4] => { results := [.lit (.bool true)], args := [d1, d2, d3, d4] }
  | _ => none }
def historyUndoneRow : OpenClaim := { program := "ytncolficnfcdcaagreat", sum := "cd1580b53784f864fb13aa2438d75c59be08c2d6eca466ac1cce66093cf272ad", func := "copyist/copyistlaw7.HistoryUndone", spec := "historyUndone", unfollowed := true, recurses := true, apart := false }
def HistoryUndoneSaid : Prop := historyUndoneRow.holds Tryz.pinned (OpenSpec.ofChange historyUndoneSpec)

/-- ITS FALSE NEIGHBOUR: 'it returns false'. Refute it at one input. -/
def historyUndoneWrong : ChangeSpec := { name := "historyUndone", fn := fun _ => fun
  | [d1, d2, d3, d4] => { results := [.lit (.bool false)], args := [d1, d2, d3, d4] }
  | _ => none }
def HistoryUndoneWrongFalsely : Prop := historyUndoneRow.holds Tryz.pinned (OpenSpec.ofChange historyUndoneWrong)

/-- 'copyistlaw7.HistoryDropped': WHATEVER THE INPUT: true; the input reads as it did. -/
def historyDroppedSpec : ChangeSpec := { name := "historyDropped", fn := fun _ => fun
  | [d1, d2, d3, d4, d5, d6] => { results := [.lit (.bool true)], args := [d1, d2, d3, d4, d5, d6] }
  | _ => none }
def historyDroppedRow : OpenClaim := { program := "ytncolficnfcdcaagreat", sum := "cd1580b53784f864fb13aa2438d75c59be08c2d6eca466ac1cce66093cf272ad", func := "copyist/copyistlaw7.HistoryDropped", spec := "historyDropped", unfollowed := true, recurses := true, apart := false }
def HistoryDroppedSaid : Prop := historyDroppedRow.holds Tryz.pinned (OpenSpec.ofChange historyDroppedSpec)

/-- ITS FALSE NEIGHBOUR: 'it returns false'. Refute it at one input. -/
def historyDroppedWrong : ChangeSpec := { name := "historyDropped", fn := fun _ => fun
  | [d1, d2, d3, d4, d5, d6] => { results := [.lit (.bool false)], args := [d1, d2, d3, d4, d5, d6] }
  | _ => none }
def HistoryDroppedWrongFalsely : Prop := historyDroppedRow.holds Tryz.pinned (OpenSpec.ofChange historyDroppedWrong)

/-- 'copyistlaw7.HistoryText': WHATEVER THE INPUT: true; the input reads as it did. -/
def historyTextSpec : ChangeSpec := { name := "historyText", fn := fun _ => fun
  | [d1, d2] => { results := [.lit (.bool true)], args := [d1, d2] }
  | _ => none }
def historyTextRow : OpenClaim := { program := "ytncolficnfcdcaagreat", sum := "cd1580b53784f864fb13aa2438d75c59be08c2d6eca466ac1cce66093cf272ad", func := "copyist/copyistlaw7.HistoryText", spec := "historyText", unfollowed := true, recurses := true, apart := false }
def HistoryTextSaid : Prop := historyTextRow.holds Tryz.pinned (OpenSpec.ofChange historyTextSpec)

/-- ITS FALSE NEIGHBOUR: 'it returns false'. Refute it at one input. -/
def historyTextWrong : ChangeSpec := { name := "historyText", fn := fun _ => fun
  | [d1, d2] => { results := [.lit (.bool false)], args := [d1, d2] }
  | _ => none }
def HistoryTextWrongFalsely : Prop := historyTextRow.holds Tryz.pinned (OpenSpec.ofChange historyTextWrong)

/-- 'copyistlaw7.HistoryMarks': WHATEVER THE INPUT: true; the input reads as it did. -/
def historyMarksSpec : ChangeSpec := { name := "historyMarks", fn := fun _ => fun
  | [d1, d2] => { results := [.lit (.bool true)], args := [d1, d2] }
  | _ => none }
def historyMarksRow : OpenClaim := { program := "ytncolficnfcdcaagreat", sum := "cd1580b53784f864fb13aa2438d75c59be08c2d6eca466ac1cce66093cf272ad", func := "copyist/copyistlaw7.HistoryMarks", spec := "historyMarks", unfollowed := true, recurses := true, apart := false }
def HistoryMarksSaid : Prop := historyMarksRow.holds Tryz.pinned (OpenSpec.ofChange historyMarksSpec)

/-- ITS FALSE NEIGHBOUR: 'it returns false'. Refute it at one input. -/
def historyMarksWrong : ChangeSpec := { name := "historyMarks", fn := fun _ => fun
  | [d1, d2] => { results := [.lit (.bool false)], args := [d1, d2] }
  | _ => none }
def HistoryMarksWrongFalsely : Prop := historyMarksRow.holds Tryz.pinned (OpenSpec.ofChange historyMarksWrong)

/-- 'copyistlaw7.HistoryStates': WHATEVER THE INPUT: true; the input reads as it did. -/
def historyStatesSpec : ChangeSpec := { name := "historyStates", fn := fun _ => fun
  | [d1, d2] => { results := [.lit (.bool true)], args := [d1, d2] }
  | _ => none }
def historyStatesRow : OpenClaim := { program := "ytncolficnfcdcaagreat", sum := "cd1580b53784f864fb13aa2438d75c59be08c2d6eca466ac1cce66093cf272ad", func := "copyist/copyistlaw7.HistoryStates", spec := "historyStates", unfollowed := true, recurses := true, apart := false }
def HistoryStatesSaid : Prop := historyStatesRow.holds Tryz.pinned (OpenSpec.ofChange historyStatesSpec)

/-- ITS FALSE NEIGHBOUR: 'it returns false'. Refute it at one input. -/
def historyStatesWrong : ChangeSpec := { name := "historyStates", fn := fun _ => fun
  | [d1, d2] => { results := [.lit (.bool false)], args := [d1, d2] }
  | _ => none }
def HistoryStatesWrongFalsely : Prop := historyStatesRow.holds Tryz.pinned (OpenSpec.ofChange historyStatesWrong)

/-- 'copyistlaw7.HistoryAll': WHATEVER THE INPUT: true; the input reads as it did. -/
def historyAllSpec : ChangeSpec := { name := "historyAll", fn := fun _ => fun
  | [d1, d2, d3] => { results := [.lit (.bool true)], args := [d1, d2, d3] }
  | _ => none }
def historyAllRow : OpenClaim := { program := "ytncolficnfcdcaagreat", sum := "cd1580b53784f864fb13aa2438d75c59be08c2d6eca466ac1cce66093cf272ad", func := "copyist/copyistlaw7.HistoryAll", spec := "historyAll", unfollowed := true, recurses := true, apart := false }
def HistoryAllSaid : Prop := historyAllRow.holds Tryz.pinned (OpenSpec.ofChange historyAllSpec)

/-- ITS FALSE NEIGHBOUR: 'it returns false'. Refute it at one input. -/
def historyAllWrong : ChangeSpec := { name := "historyAll", fn := fun _ => fun
  | [d1, d2, d3] => { results := [.lit (.bool false)], args := [d1, d2, d3] }
  | _ => none }
def HistoryAllWrongFalsely : Prop := historyAllRow.holds Tryz.pinned (OpenSpec.ofChange historyAllWrong)

/- THE SECOND FORM. 'bulk': how many values and letters a reading holds, each counted each time it is reached (what is shared counts as often as it is met; a slice's spare places count too). A statement '..UptoSaid' is the law's where the arguments, and the package variables that the reading takes, are together of bulk at most 1048576: NARROWER than '..Said'. Prove '..Said' where nothing that the law and all that it calls make is longer than what came in: it says more and counts as full. Else prove '..UptoSaid'. A law counts once. -/
mutual
def uptoBulk {H : Type} : DataW H → Nat
  | .lit (.string bytes) => bytes.length + 1
  | .lit _ => 1
  | .nil => 1
  | .ptr d => uptoBulk d + 1
  | .slice elems spare => uptoBulkAll elems + uptoBulkAll spare + 1
  | .agg parts => uptoBulkAll parts + 1
  | .iface _ d => uptoBulk d + 1
  | .map entries => uptoBulkEntries entries + 1
  | .held _ => 1
def uptoBulkAll {H : Type} : List (DataW H) → Nat
  | [] => 0
  | d :: r => uptoBulk d + uptoBulkAll r
def uptoBulkEntries {H : Type} : List (Lit × DataW H) → Nat
  | [] => 0
  | x :: r => uptoBulkEntry x + uptoBulkEntries r
def uptoBulkEntry {H : Type} : Lit × DataW H → Nat
  | (.string bytes, d) => bytes.length + uptoBulk d + 1
  | (_, d) => uptoBulk d + 1
 end
def uptoSmall : (H : Type) → List (DataW H) → Bool := fun _ ds => decide (uptoBulkAll ds ≤ 1048576)
def OpenSpec.upto (s : _root_.Go.ChangeSpec) : _root_.Go.OpenSpec := { _root_.Go.OpenSpec.ofChange s with cond := some uptoSmall }

/-- 'copyistlaw7.HistoryUndone', WHERE WHAT IT READS IS OF BULK AT MOST 1048576: true; the input reads as it did. -/
def historyUndoneUptoRow : OpenClaim := { program := "ytncolficnfcdcaagreat", sum := "cd1580b53784f864fb13aa2438d75c59be08c2d6eca466ac1cce66093cf272ad", func := "copyist/copyistlaw7.HistoryUndone", spec := "historyUndone", unfollowed := true, recurses := true, apart := false, narrowed := true }
def HistoryUndoneUptoSaid : Prop := historyUndoneUptoRow.holds Tryz.pinned (OpenSpec.upto historyUndoneSpec)

/-- 'copyistlaw7.HistoryDropped', WHERE WHAT IT READS IS OF BULK AT MOST 1048576: true; the input reads as it did. -/
def historyDroppedUptoRow : OpenClaim := { program := "ytncolficnfcdcaagreat", sum := "cd1580b53784f864fb13aa2438d75c59be08c2d6eca466ac1cce66093cf272ad", func := "copyist/copyistlaw7.HistoryDropped", spec := "historyDropped", unfollowed := true, recurses := true, apart := false, narrowed := true }
def HistoryDroppedUptoSaid : Prop := historyDroppedUptoRow.holds Tryz.pinned (OpenSpec.upto historyDroppedSpec)

/-- 'copyistlaw7.HistoryText', WHERE WHAT IT READS IS OF BULK AT MOST 1048576: true; the input reads as it did. -/
def historyTextUptoRow : OpenClaim := { program := "ytncolficnfcdcaagreat", sum := "cd1580b53784f864fb13aa2438d75c59be08c2d6eca466ac1cce66093cf272ad", func := "copyist/copyistlaw7.HistoryText", spec := "historyText", unfollowed := true, recurses := true, apart := false, narrowed := true }
def HistoryTextUptoSaid : Prop := historyTextUptoRow.holds Tryz.pinned (OpenSpec.upto historyTextSpec)

/-- 'copyistlaw7.HistoryMarks', WHERE WHAT IT READS IS OF BULK AT MOST 1048576: true; the input reads as it did. -/
def historyMarksUptoRow : OpenClaim := { program := "ytncolficnfcdcaagreat", sum := "cd1580b53784f864fb13aa2438d75c59be08c2d6eca466ac1cce66093cf272ad", func := "copyist/copyistlaw7.HistoryMarks", spec := "historyMarks", unfollowed := true, recurses := true, apart := false, narrowed := true }
def HistoryMarksUptoSaid : Prop := historyMarksUptoRow.holds Tryz.pinned (OpenSpec.upto historyMarksSpec)

/-- 'copyistlaw7.HistoryStates', WHERE WHAT IT READS IS OF BULK AT MOST 1048576: true; the input reads as it did. -/
def historyStatesUptoRow : OpenClaim := { program := "ytncolficnfcdcaagreat", sum := "cd1580b53784f864fb13aa2438d75c59be08c2d6eca466ac1cce66093cf272ad", func := "copyist/copyistlaw7.HistoryStates", spec := "historyStates", unfollowed := true, recurses := true, apart := false, narrowed := true }
def HistoryStatesUptoSaid : Prop := historyStatesUptoRow.holds Tryz.pinned (OpenSpec.upto historyStatesSpec)

/-- 'copyistlaw7.HistoryAll', WHERE WHAT IT READS IS OF BULK AT MOST 1048576: true; the input reads as it did. -/
def historyAllUptoRow : OpenClaim := { program := "ytncolficnfcdcaagreat", sum := "cd1580b53784f864fb13aa2438d75c59be08c2d6eca466ac1cce66093cf272ad", func := "copyist/copyistlaw7.HistoryAll", spec := "historyAll", unfollowed := true, recurses := true, apart := false, narrowed := true }
def HistoryAllUptoSaid : Prop := historyAllUptoRow.holds Tryz.pinned (OpenSpec.upto historyAllSpec)

end Rows
end Go.Proofs.YtncolficnfcdcaaGreat
