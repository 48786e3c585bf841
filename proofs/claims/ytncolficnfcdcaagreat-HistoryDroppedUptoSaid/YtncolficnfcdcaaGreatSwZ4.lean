/-
  A function value that is called, out of its shallow program.
-/
import Derived.Test.YtncolficnfcdcaaGreatSwS10
import Derived.Test.YtncolficnfcdcaaGreatSwU2
set_option linter.unusedSimpArgs false
set_option linter.unusedVariables false
namespace Go.Sw
variable {P:Program} {h:Heap} {Q:Nat→List Value→Heap→Prop}
def Dyn (P:Program) (f:Value) (args:List Value) (m:Prog):Prop:=
 ∀ (h:Heap) (Q:List Value→Heap→Prop),wp P m h (fun tag vs h'=>tag=0∧Q vs h')→DynE P f args h Q
theorem dyn_of {i:FuncId} {caps args:List Value} {e:Shallow} (hf:FnOk P i e) (x:Ts.den e.tys) (hx:args++caps=Ts.inj e.tys x):Dyn P (.func (.func i) #[] caps.toArray) args (e.prog x):=by
 intro h Q hq w hw
 have h1:=hf.2 x h Q hq w hw
 rw [← hx] at h1
 refine ⟨{ target:=.fn (.func i) caps.toArray,args:=#[]++args.toArray },i,(args++caps).toArray,rfl,?_,h1⟩
 have h2:=hf.1 (args++caps).toArray w
 show (callFunc i ((#[]++args.toArray)++caps.toArray)).run P w=_
 rw [show (#[]++args.toArray)++caps.toArray=(args++caps).toArray by simp]
 exact h2
theorem wp_callv {f:Value} {args:List Value} {tys:List Ty} {K:Ts.den tys→Prog} (hd:DynV P f args h fun vs h'=>∃ x,vs=Ts.inj tys x∧wp P (K x) h' Q):wp P (.callv f args tys K) h Q:=hd
theorem wp_dyn {f:Value} {args:List Value} {m:Prog} {tys:List Ty} {K:Ts.den tys→Prog} (d:Dyn P f args m)
  (hw:wp P m h fun tag vs h'=>tag=0∧∃ x,vs=Ts.inj tys x∧wp P (K x) h' Q):wp P (.callv f args tys K) h Q:=(d h _ hw).toV
end Go.Sw
