
/- Steps. -/
import Derived.Test.YtncolficnfcdcaaGreatSwS10
import Derived.Test.YtncolficnfcdcaaGreatSwU1
import Derived.Below
set_option linter.unusedVariables false
set_option linter.unusedSimpArgs false
namespace Go.Sw
section
theorem Y4{P:Program}{i:FuncId}{e:aO}(n:cB P i e){tys:List Ty}{R:Ts.den tys->aG->Prop}(x:Ts.den e.tys)(w:World)(g:aS P (e.prog x) tys w.heap R) :
  Calls P i (Ts.inj e.tys x).toArray w λr d=>∃y,r = .returned (Bv (Ts.inj tys y))/\R y d.heap/\RowKit.Below w.heap.size w d/\∀a,d.frozen? a=w.frozen? a:=by
 have:=n.2 x w.heap (λj h=>Ext w.heap h/\∃y,j=Ts.inj tys y/\R y h) (cM _ (λ_ _ _ ⟨a,b,c⟩=>⟨a,b,c⟩) g);refine(this w rfl).mono λr d ⟨j,l,f,k,y,m,o⟩=>⟨y,by rw[l,m],o,⟨f.os,f.tape,f.output,k.1,k.2.1⟩,λa=>?_⟩;rw[Zu,Zu];by_cases ha:a.block<w.heap.size
 .unfold IX;rw[k.2.1 _ ha]
 .have:IX w.heap a=false:=by unfold IX;rw[KG (by omega)]
  rw[this,k.2.2 a this]
end
end Go.Sw
