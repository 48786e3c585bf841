/-
  A function value that is called, out of its shallow program.
-/
import Derived.Test.YtncolficnfcdcaaSwS10
import Derived.Test.YtncolficnfcdcaaSwU2
set_option linter.unusedSimpArgs false
set_option linter.unusedVariables false
namespace Go.Sw
variable {P : Program} {h : Heap} {Q : Nat → List Value → Heap → Prop}
def Dyn (P : Program) (f : Value) (args : List Value) (m : Prog) : Prop :=
 ∀ (h : Heap) (Q : List Value → Heap → Prop), wp P m h (fun tag vs h' => tag = 0 ∧ Q vs h') → DynE P f args h Q
end Go.Sw
