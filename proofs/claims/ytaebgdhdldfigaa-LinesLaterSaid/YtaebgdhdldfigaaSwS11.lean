/-
  A function that ranges over an iterator and whose results lie in memory.
-/
import Derived.Test.YtaebgdhdldfigaaSwS10
set_option linter.unusedSimpArgs false
set_option linter.unusedVariables false
namespace Go.Sw
variable {P : Program} {An : Ann}
end Go.Sw
