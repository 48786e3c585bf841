/-
  The tree's function values are their shallow programs.
-/
import Derived.Test.YteoloieadjeneaaSwLtree2
import Derived.Test.YteoloieadjeneaaSwG3
set_option maxRecDepth 100000
namespace Go.Proofs.Yteoloieadjeneaa
open Go
theorem clos : Sw.Tree.Clos Try.prog ids where
  it y a b := Sw.dyn_of (i := 86) (caps := [.pointer a, .pointer b]) (args := [y]) l_Tree_Run_Items_1 (y, a, b, ()) rfl
  wk p i a b := Sw.dyn_of (i := 87) (caps := [.pointer a, .pointer b]) (args := [.pointer p, .int .i64 i]) l_Tree_Run_Items_1_1 (p, i, a, b, ()) rfl
  tk r a b c := Sw.dyn_of (i := 88) (caps := [.pointer a, .pointer b, .pointer c]) (args := [Sw.Tree.ag r]) l_law4_take_1 ((r.1, r.2, ()), a, b, c, ()) rfl
  nt r a b c d e := Sw.dyn_of (i := 89) (caps := [.pointer a, .pointer b, .pointer c, .pointer d, .pointer e]) (args := [Sw.Tree.ag r]) l_law4_nested_1 ((r.1, r.2, ()), a, b, c, d, e, ()) rfl
end Go.Proofs.Yteoloieadjeneaa
