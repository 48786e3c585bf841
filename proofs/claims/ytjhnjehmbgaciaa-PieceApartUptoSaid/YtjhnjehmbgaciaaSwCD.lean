/-
  Codec: the document's own functions, as far as pieces need them.
-/
import Derived.Test.YtjhnjehmbgaciaaSwCC
set_option linter.unusedVariables false
set_option linter.unusedSimpArgs false
set_option maxRecDepth 100000
namespace Go.Sw.Codec
variable {P : Program} {S : Ids} {h : Heap} {Q : Nat → List Value → Heap → Prop}
end Go.Sw.Codec
