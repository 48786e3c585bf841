/-
  From a contract over heaps to the row's words.
-/
import Derived.Test.YtncolficnfcdcaaGreatSwS10
import Derived.Test.YtncolficnfcdcaaGreatSwU1
import Derived.Below
set_option linter.unusedSimpArgs false
set_option linter.unusedVariables false
namespace Go.Sw
theorem calls_of {P:Program} {i:FuncId} {e:Shallow} (hf:FnOk P i e) {tys:List Ty} {R:Ts.den tys→Heap→Prop} (x:Ts.den e.tys) (w:World) (g:Gives P (e.prog x) tys w.heap R) :
  Calls P i (Ts.inj e.tys x).toArray w fun r w'=>∃ y,r = .returned (resV (Ts.inj tys y))∧R y w'.heap∧RowKit.Below w.heap.size w w'∧∀ a,w'.frozen? a=w.frozen? a:=by
 have:=hf.2 x w.heap (fun vs h'=>Ext w.heap h'∧∃ y,vs=Ts.inj tys y∧R y h') (wp_mono _ (fun _ _ _ ⟨a,b,c⟩=>⟨a,b,c⟩) g)
 refine (this w rfl).mono fun r w' ⟨vs,e1,e2,k,y,e3,hr⟩=>⟨y,by rw [e1,e3],hr,⟨e2.os,e2.tape,e2.output,k.1,k.2.1⟩,fun a=>?_⟩
 rw [frz_eq,frz_eq]
 by_cases ha:a.block<w.heap.size
 ·unfold frz; rw [k.2.1 _ ha]
 ·have:frz w.heap a=false:=by unfold frz; rw [Array.getElem?_eq_none (by omega)]
  rw [this,k.2.2 a this]
end Go.Sw
