/-
  The words' function values are their shallow programs.
-/
import Derived.Test.YteoloieadjeneaaSwLtree2
import Derived.Test.YteoloieadjeneaaSwW2
set_option maxRecDepth 100000
namespace Go.Proofs.Yteoloieadjeneaa
open Go
theorem closW : Sw.Words.ClosW Try.prog ids where
  tree := {
    it := fun y a b => Sw.dyn_of (i := 80) (caps := [.pointer a, .pointer b]) (args := [y]) l_Tree_Word_Items_1 (y, a, b, ()) rfl
    wk := fun p i a b => Sw.dyn_of (i := 81) (caps := [.pointer a, .pointer b]) (args := [.pointer p, .int .i64 i]) l_Tree_Word_Items_1_1 (p, i, a, b, ()) rfl }
  wd r a b c d e := Sw.dyn_of (i := 82) (caps := [.pointer a, .pointer b, .pointer c, .pointer d, .pointer e]) (args := [.agg #[.string r.1]]) l_law4_walked_1 (r, a, b, c, d, e, ()) rfl
end Go.Proofs.Yteoloieadjeneaa
