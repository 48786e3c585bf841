/-
  No cell of these rows narrows 'for every input' (looked for: loops, veiled, ifaces, maps, wideKeys, modest, calm, conditions, laid).
  DERIVED. THE GIVEN ROWS OF THIS SEAT. 10 by the template 'for every input the law returns true; each argument reads behind the call as it read before'; 0 by the template 'total and deterministic' (their statements: YteoloieadjeneaaTotals.lean).
  GIVEN WITH THE SEED: the statements are not yours to turn. If you find one false, say at which input.
  Laid BY PROGRAM, IN A SANDBOX (cutbox-rows.mjs): the forced cells as the released guide's own fill.sh prints them over the translation a3cee759271c55d7… (all of the seat's roots in one cut). By AI agents, Wed Nov 11 2026. No macro, syntax, notation, axiom, sorry.
-/
import Derived.Test.YteoloieadjeneaaChecked
import GoSem.Claim
import GoSem.ClaimJoined
import GoSem.ClaimMapViews
import Derived.JoinedTies
import Derived.KernelRfl
namespace Go.Proofs.Yteoloieadjeneaa
/- THE CELL 'sum', in the pinned program and in every row, IS THE sha256 OF THE DUMP (.gsa) THAT YteoloieadjeneaaProg.lean LOADS. Nothing in Lean hashes anything: it is a label: what it is worth is what the hold of that sum in a sandbox is worth. -/
noncomputable def Try.pinned : Pinned := { name := "yteoloieadjeneaa", sum := "a3cee759271c55d72daecfe32fa7df42e2bcd4bdf3535c759ba9f366bbed3f5f", checked := Try.checked }
namespace Rows
def none {H : Type} : Left H := { results := [], args := [] }

/-- 'copyistlaw4.TreeRuns': WHATEVER THE INPUT: true; the input reads as it did. -/
def treeRunsSpec : ChangeSpec := { name := "treeRuns", fn := fun _ => fun
  | [d1, d2, d3] => { results := [.lit (.bool true)], args := [d1, d2, d3] }
  | _ => none }
def treeRunsRow : OpenClaim := { program := "yteoloieadjeneaa", sum := "a3cee759271c55d72daecfe32fa7df42e2bcd4bdf3535c759ba9f366bbed3f5f", func := "copyist/copyistlaw4.TreeRuns", spec := "treeRuns", apart := false }
def TreeRunsSaid : Prop := treeRunsRow.holds Try.pinned (OpenSpec.ofChange treeRunsSpec)

/-- ITS FALSE NEIGHBOUR: 'it returns false'. Refute it at one input. -/
def treeRunsWrong : ChangeSpec := { name := "treeRuns", fn := fun _ => fun
  | [d1, d2, d3] => { results := [.lit (.bool false)], args := [d1, d2, d3] }
  | _ => none }
def TreeRunsWrongFalsely : Prop := treeRunsRow.holds Try.pinned (OpenSpec.ofChange treeRunsWrong)

/-- 'copyistlaw4.TreeFinds': WHATEVER THE INPUT: true; the input reads as it did. -/
def treeFindsSpec : ChangeSpec := { name := "treeFinds", fn := fun _ => fun
  | [d1, d2, d3] => { results := [.lit (.bool true)], args := [d1, d2, d3] }
  | _ => none }
def treeFindsRow : OpenClaim := { program := "yteoloieadjeneaa", sum := "a3cee759271c55d72daecfe32fa7df42e2bcd4bdf3535c759ba9f366bbed3f5f", func := "copyist/copyistlaw4.TreeFinds", spec := "treeFinds", unfollowed := true, recurses := true, apart := false }
def TreeFindsSaid : Prop := treeFindsRow.holds Try.pinned (OpenSpec.ofChange treeFindsSpec)

/-- ITS FALSE NEIGHBOUR: 'it returns false'. Refute it at one input. -/
def treeFindsWrong : ChangeSpec := { name := "treeFinds", fn := fun _ => fun
  | [d1, d2, d3] => { results := [.lit (.bool false)], args := [d1, d2, d3] }
  | _ => none }
def TreeFindsWrongFalsely : Prop := treeFindsRow.holds Try.pinned (OpenSpec.ofChange treeFindsWrong)

/-- 'copyistlaw4.TreeGrows': WHATEVER THE INPUT: true; the input reads as it did. -/
def treeGrowsSpec : ChangeSpec := { name := "treeGrows", fn := fun _ => fun
  | [d1, d2] => { results := [.lit (.bool true)], args := [d1, d2] }
  | _ => none }
def treeGrowsRow : OpenClaim := { program := "yteoloieadjeneaa", sum := "a3cee759271c55d72daecfe32fa7df42e2bcd4bdf3535c759ba9f366bbed3f5f", func := "copyist/copyistlaw4.TreeGrows", spec := "treeGrows", unfollowed := true, recurses := true, apart := false }
def TreeGrowsSaid : Prop := treeGrowsRow.holds Try.pinned (OpenSpec.ofChange treeGrowsSpec)

/-- ITS FALSE NEIGHBOUR: 'it returns false'. Refute it at one input. -/
def treeGrowsWrong : ChangeSpec := { name := "treeGrows", fn := fun _ => fun
  | [d1, d2] => { results := [.lit (.bool false)], args := [d1, d2] }
  | _ => none }
def TreeGrowsWrongFalsely : Prop := treeGrowsRow.holds Try.pinned (OpenSpec.ofChange treeGrowsWrong)

/-- 'copyistlaw4.TreeCuts': WHATEVER THE INPUT: true; the input reads as it did. -/
def treeCutsSpec : ChangeSpec := { name := "treeCuts", fn := fun _ => fun
  | [d1, d2, d3, d4] => { results := [.lit (.bool true)], args := [d1, d2, d3, d4] }
  | _ => none }
def treeCutsRow : OpenClaim := { program := "yteoloieadjeneaa", sum := "a3cee759271c55d72daecfe32fa7df42e2bcd4bdf3535c759ba9f366bbed3f5f", func := "copyist/copyistlaw4.TreeCuts", spec := "treeCuts", unfollowed := true, recurses := true, apart := false }
def TreeCutsSaid : Prop := treeCutsRow.holds Try.pinned (OpenSpec.ofChange treeCutsSpec)

/-- ITS FALSE NEIGHBOUR: 'it returns false'. Refute it at one input. -/
def treeCutsWrong : ChangeSpec := { name := "treeCuts", fn := fun _ => fun
  | [d1, d2, d3, d4] => { results := [.lit (.bool false)], args := [d1, d2, d3, d4] }
  | _ => none }
def TreeCutsWrongFalsely : Prop := treeCutsRow.holds Try.pinned (OpenSpec.ofChange treeCutsWrong)

/-- 'copyistlaw4.TreeWords': WHATEVER THE INPUT: true; the input reads as it did. -/
def treeWordsSpec : ChangeSpec := { name := "treeWords", fn := fun _ => fun
  | [d1, d2, d3, d4, d5, d6] => { results := [.lit (.bool true)], args := [d1, d2, d3, d4, d5, d6] }
  | _ => none }
def treeWordsRow : OpenClaim := { program := "yteoloieadjeneaa", sum := "a3cee759271c55d72daecfe32fa7df42e2bcd4bdf3535c759ba9f366bbed3f5f", func := "copyist/copyistlaw4.TreeWords", spec := "treeWords", unfollowed := true, recurses := true, apart := false }
def TreeWordsSaid : Prop := treeWordsRow.holds Try.pinned (OpenSpec.ofChange treeWordsSpec)

/-- ITS FALSE NEIGHBOUR: 'it returns false'. Refute it at one input. -/
def treeWordsWrong : ChangeSpec := { name := "treeWords", fn := fun _ => fun
  | [d1, d2, d3, d4, d5, d6] => { results := [.lit (.bool false)], args := [d1, d2, d3, d4, d5, d6] }
  | _ => none }
def TreeWordsWrongFalsely : Prop := treeWordsRow.holds Try.pinned (OpenSpec.ofChange treeWordsWrong)

/-- 'copyistlaw4.TreeLooks': WHATEVER THE INPUT: true; the input reads as it did. -/
def treeLooksSpec : ChangeSpec := { name := "treeLooks", fn := fun _ => fun
  | [d] => { results := [.lit (.bool true)], args := [d] }
  | _ => none }
def treeLooksRow : OpenClaim := { program := "yteoloieadjeneaa", sum := "a3cee759271c55d72daecfe32fa7df42e2bcd4bdf3535c759ba9f366bbed3f5f", func := "copyist/copyistlaw4.TreeLooks", spec := "treeLooks", unfollowed := true, recurses := true, apart := false }
def TreeLooksSaid : Prop := treeLooksRow.holds Try.pinned (OpenSpec.ofChange treeLooksSpec)

/-- ITS FALSE NEIGHBOUR: 'it returns false'. Refute it at one input. -/
def treeLooksWrong : ChangeSpec := { name := "treeLooks", fn := fun _ => fun
  | [d] => { results := [.lit (.bool false)], args := [d] }
  | _ => none }
def TreeLooksWrongFalsely : Prop := treeLooksRow.holds Try.pinned (OpenSpec.ofChange treeLooksWrong)

/-- 'copyistlaw4.TreeSums': WHATEVER THE INPUT: true; the input reads as it did. -/
def treeSumsSpec : ChangeSpec := { name := "treeSums", fn := fun _ => fun
  | [d] => { results := [.lit (.bool true)], args := [d] }
  | _ => none }
def treeSumsRow : OpenClaim := { program := "yteoloieadjeneaa", sum := "a3cee759271c55d72daecfe32fa7df42e2bcd4bdf3535c759ba9f366bbed3f5f", func := "copyist/copyistlaw4.TreeSums", spec := "treeSums", unfollowed := true, recurses := true, apart := false }
def TreeSumsSaid : Prop := treeSumsRow.holds Try.pinned (OpenSpec.ofChange treeSumsSpec)

/-- ITS FALSE NEIGHBOUR: 'it returns false'. Refute it at one input. -/
def treeSumsWrong : ChangeSpec := { name := "treeSums", fn := fun _ => fun
  | [d] => { results := [.lit (.bool false)], args := [d] }
  | _ => none }
def TreeSumsWrongFalsely : Prop := treeSumsRow.holds Try.pinned (OpenSpec.ofChange treeSumsWrong)

/-- 'copyistlaw4.TreeFind': WHATEVER THE INPUT: true; the input reads as it did. -/
def treeFindSpec : ChangeSpec := { name := "treeFind", fn := fun _ => fun
  | [d] => { results := [.lit (.bool true)], args := [d] }
  | _ => none }
def treeFindRow : OpenClaim := { program := "yteoloieadjeneaa", sum := "a3cee759271c55d72daecfe32fa7df42e2bcd4bdf3535c759ba9f366bbed3f5f", func := "copyist/copyistlaw4.TreeFind", spec := "treeFind", unfollowed := true, recurses := true, apart := false }
def TreeFindSaid : Prop := treeFindRow.holds Try.pinned (OpenSpec.ofChange treeFindSpec)

/-- ITS FALSE NEIGHBOUR: 'it returns false'. Refute it at one input. -/
def treeFindWrong : ChangeSpec := { name := "treeFind", fn := fun _ => fun
  | [d] => { results := [.lit (.bool false)], args := [d] }
  | _ => none }
def TreeFindWrongFalsely : Prop := treeFindRow.holds Try.pinned (OpenSpec.ofChange treeFindWrong)

/-- 'copyistlaw4.TreeItems': WHATEVER THE INPUT: true; the input reads as it did. -/
def treeItemsSpec : ChangeSpec := { name := "treeItems", fn := fun _ => fun
  | [d] => { results := [.lit (.bool true)], args := [d] }
  | _ => none }
def treeItemsRow : OpenClaim := { program := "yteoloieadjeneaa", sum := "a3cee759271c55d72daecfe32fa7df42e2bcd4bdf3535c759ba9f366bbed3f5f", func := "copyist/copyistlaw4.TreeItems", spec := "treeItems", unfollowed := true, recurses := true, apart := false }
def TreeItemsSaid : Prop := treeItemsRow.holds Try.pinned (OpenSpec.ofChange treeItemsSpec)

/-- ITS FALSE NEIGHBOUR: 'it returns false'. Refute it at one input. -/
def treeItemsWrong : ChangeSpec := { name := "treeItems", fn := fun _ => fun
  | [d] => { results := [.lit (.bool false)], args := [d] }
  | _ => none }
def TreeItemsWrongFalsely : Prop := treeItemsRow.holds Try.pinned (OpenSpec.ofChange treeItemsWrong)

/-- 'copyistlaw4.TreeAll': WHATEVER THE INPUT: true; the input reads as it did. -/
def treeAllSpec : ChangeSpec := { name := "treeAll", fn := fun _ => fun
  | [d] => { results := [.lit (.bool true)], args := [d] }
  | _ => none }
def treeAllRow : OpenClaim := { program := "yteoloieadjeneaa", sum := "a3cee759271c55d72daecfe32fa7df42e2bcd4bdf3535c759ba9f366bbed3f5f", func := "copyist/copyistlaw4.TreeAll", spec := "treeAll", unfollowed := true, recurses := true, apart := false }
def TreeAllSaid : Prop := treeAllRow.holds Try.pinned (OpenSpec.ofChange treeAllSpec)

/-- ITS FALSE NEIGHBOUR: 'it returns false'. Refute it at one input. -/
def treeAllWrong : ChangeSpec := { name := "treeAll", fn := fun _ => fun
  | [d] => { results := [.lit (.bool false)], args := [d] }
  | _ => none }
def TreeAllWrongFalsely : Prop := treeAllRow.holds Try.pinned (OpenSpec.ofChange treeAllWrong)

/- THE SECOND FORM. 'bulk': how many values and letters a reading holds, each counted each time it is reached (what is shared counts as often as it is met; a slice's spare places count too). A statement '..UptoSaid' is the law's where the arguments, and the package variables that the reading takes, are together of bulk at most 1048576: NARROWER than '..Said'. Prove '..Said' where nothing that the law and all that it calls make is longer than what came in: it says more and counts as full. Else prove '..UptoSaid'. A law counts once. -/
mutual
def uptoBulk {H : Type} : DataW H → Nat
  | .lit (.string bytes) => bytes.length + 1
  | .lit _ => 1
  | .nil => 1
  | .ptr d => uptoBulk d + 1
  | .slice elems spare => uptoBulkAll elems + uptoBulkAll spare + 1
  | .agg parts => uptoBulkAll parts + 1
  | .iface _ d => uptoBulk d + 1
  | .map entries => uptoBulkEntries entries + 1
  | .held _ => 1
def uptoBulkAll {H : Type} : List (DataW H) → Nat
  | [] => 0
  | d :: r => uptoBulk d + uptoBulkAll r
def uptoBulkEntries {H : Type} : List (Lit × DataW H) → Nat
  | [] => 0
  | x :: r => uptoBulkEntry x + uptoBulkEntries r
def uptoBulkEntry {H : Type} : Lit × DataW H → Nat
  | (.string bytes, d) => bytes.length + uptoBulk d + 1
  | (_, d) => uptoBulk d + 1
 end
def uptoSmall : (H : Type) → List (DataW H) → Bool := fun _ ds => decide (uptoBulkAll ds ≤ 1048576)
def OpenSpec.upto (s : _root_.Go.ChangeSpec) : _root_.Go.OpenSpec := { _root_.Go.OpenSpec.ofChange s with cond := some uptoSmall }

/-- 'copyistlaw4.TreeRuns', WHERE WHAT IT READS IS OF BULK AT MOST 1048576: true; the input reads as it did. -/
def treeRunsUptoRow : OpenClaim := { program := "yteoloieadjeneaa", sum := "a3cee759271c55d72daecfe32fa7df42e2bcd4bdf3535c759ba9f366bbed3f5f", func := "copyist/copyistlaw4.TreeRuns", spec := "treeRuns", apart := false, narrowed := true }
def TreeRunsUptoSaid : Prop := treeRunsUptoRow.holds Try.pinned (OpenSpec.upto treeRunsSpec)

/-- 'copyistlaw4.TreeFinds', WHERE WHAT IT READS IS OF BULK AT MOST 1048576: true; the input reads as it did. -/
def treeFindsUptoRow : OpenClaim := { program := "yteoloieadjeneaa", sum := "a3cee759271c55d72daecfe32fa7df42e2bcd4bdf3535c759ba9f366bbed3f5f", func := "copyist/copyistlaw4.TreeFinds", spec := "treeFinds", unfollowed := true, recurses := true, apart := false, narrowed := true }
def TreeFindsUptoSaid : Prop := treeFindsUptoRow.holds Try.pinned (OpenSpec.upto treeFindsSpec)

/-- 'copyistlaw4.TreeGrows', WHERE WHAT IT READS IS OF BULK AT MOST 1048576: true; the input reads as it did. -/
def treeGrowsUptoRow : OpenClaim := { program := "yteoloieadjeneaa", sum := "a3cee759271c55d72daecfe32fa7df42e2bcd4bdf3535c759ba9f366bbed3f5f", func := "copyist/copyistlaw4.TreeGrows", spec := "treeGrows", unfollowed := true, recurses := true, apart := false, narrowed := true }
def TreeGrowsUptoSaid : Prop := treeGrowsUptoRow.holds Try.pinned (OpenSpec.upto treeGrowsSpec)

/-- 'copyistlaw4.TreeCuts', WHERE WHAT IT READS IS OF BULK AT MOST 1048576: true; the input reads as it did. -/
def treeCutsUptoRow : OpenClaim := { program := "yteoloieadjeneaa", sum := "a3cee759271c55d72daecfe32fa7df42e2bcd4bdf3535c759ba9f366bbed3f5f", func := "copyist/copyistlaw4.TreeCuts", spec := "treeCuts", unfollowed := true, recurses := true, apart := false, narrowed := true }
def TreeCutsUptoSaid : Prop := treeCutsUptoRow.holds Try.pinned (OpenSpec.upto treeCutsSpec)

/-- 'copyistlaw4.TreeWords', WHERE WHAT IT READS IS OF BULK AT MOST 1048576: true; the input reads as it did. -/
def treeWordsUptoRow : OpenClaim := { program := "yteoloieadjeneaa", sum := "a3cee759271c55d72daecfe32fa7df42e2bcd4bdf3535c759ba9f366bbed3f5f", func := "copyist/copyistlaw4.TreeWords", spec := "treeWords", unfollowed := true, recurses := true, apart := false, narrowed := true }
def TreeWordsUptoSaid : Prop := treeWordsUptoRow.holds Try.pinned (OpenSpec.upto treeWordsSpec)

/-- 'copyistlaw4.TreeLooks', WHERE WHAT IT READS IS OF BULK AT MOST 1048576: true; the input reads as it did. -/
def treeLooksUptoRow : OpenClaim := { program := "yteoloieadjeneaa", sum := "a3cee759271c55d72daecfe32fa7df42e2bcd4bdf3535c759ba9f366bbed3f5f", func := "copyist/copyistlaw4.TreeLooks", spec := "treeLooks", unfollowed := true, recurses := true, apart := false, narrowed := true }
def TreeLooksUptoSaid : Prop := treeLooksUptoRow.holds Try.pinned (OpenSpec.upto treeLooksSpec)

/-- 'copyistlaw4.TreeSums', WHERE WHAT IT READS IS OF BULK AT MOST 1048576: true; the input reads as it did. -/
def treeSumsUptoRow : OpenClaim := { program := "yteoloieadjeneaa", sum := "a3cee759271c55d72daecfe32fa7df42e2bcd4bdf3535c759ba9f366bbed3f5f", func := "copyist/copyistlaw4.TreeSums", spec := "treeSums", unfollowed := true, recurses := true, apart := false, narrowed := true }
def TreeSumsUptoSaid : Prop := treeSumsUptoRow.holds Try.pinned (OpenSpec.upto treeSumsSpec)

/-- 'copyistlaw4.TreeFind', WHERE WHAT IT READS IS OF BULK AT MOST 1048576: true; the input reads as it did. -/
def treeFindUptoRow : OpenClaim := { program := "yteoloieadjeneaa", sum := "a3cee759271c55d72daecfe32fa7df42e2bcd4bdf3535c759ba9f366bbed3f5f", func := "copyist/copyistlaw4.TreeFind", spec := "treeFind", unfollowed := true, recurses := true, apart := false, narrowed := true }
def TreeFindUptoSaid : Prop := treeFindUptoRow.holds Try.pinned (OpenSpec.upto treeFindSpec)

/-- 'copyistlaw4.TreeItems', WHERE WHAT IT READS IS OF BULK AT MOST 1048576: true; the input reads as it did. -/
def treeItemsUptoRow : OpenClaim := { program := "yteoloieadjeneaa", sum := "a3cee759271c55d72daecfe32fa7df42e2bcd4bdf3535c759ba9f366bbed3f5f", func := "copyist/copyistlaw4.TreeItems", spec := "treeItems", unfollowed := true, recurses := true, apart := false, narrowed := true }
def TreeItemsUptoSaid : Prop := treeItemsUptoRow.holds Try.pinned (OpenSpec.upto treeItemsSpec)

/-- 'copyistlaw4.TreeAll', WHERE WHAT IT READS IS OF BULK AT MOST 1048576: true; the input reads as it did. -/
def treeAllUptoRow : OpenClaim := { program := "yteoloieadjeneaa", sum := "a3cee759271c55d72daecfe32fa7df42e2bcd4bdf3535c759ba9f366bbed3f5f", func := "copyist/copyistlaw4.TreeAll", spec := "treeAll", unfollowed := true, recurses := true, apart := false, narrowed := true }
def TreeAllUptoSaid : Prop := treeAllUptoRow.holds Try.pinned (OpenSpec.upto treeAllSpec)

end Rows
end Go.Proofs.Yteoloieadjeneaa
