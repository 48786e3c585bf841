
/- Steps. -/
import Derived.Test.YtncolficnfcdcaaGreatSwS10
import Derived.Test.YtncolficnfcdcaaGreatSwU2
set_option linter.unusedVariables false
set_option linter.unusedSimpArgs false
namespace Go.Sw
section
variable{P:Program}{h:aG}{Q:Nat->List Value->aG->Prop}
variable{args:List Value}
def dw(P:Program)(f:Value)(args:List Value)(m:aK):Prop:=
 ∀(h:aG) (Q:List Value->aG->Prop),wp P m h (λtag vs h'=>tag=0/\Q vs h')->OE P f args h Q
theorem Ho{i:FuncId}{caps:List Value}{e:aO}(b:cB P i e)(x:Ts.den e.tys)(f:args++caps=Ts.inj e.tys x):dw P (.func (.func i) #[] caps.toArray) args (e.prog x):=by
 intro h Q d w hw;have a:=b.2 x h Q d w hw;rw[<-f]at a;refine⟨{target:=.fn (.func i) caps.toArray,args:=#[]++args.toArray},i,(args++caps).toArray,rfl,?_,a⟩;have c:=b.1 (args++caps).toArray w;show(callFunc i ((#[]++args.toArray)++caps.toArray)).run P w=_;rw[show(#[]++args.toArray)++caps.toArray=(args++caps).toArray by simp];exact c
theorem dh{f:Value}{tys:List Ty}{K:Ts.den tys->aK}(b:OF P f args h λc a=>∃x,c=Ts.inj tys x/\wp P (K x) a Q):wp P (.kC f args tys K) h Q:=b
theorem Ky{f:Value}{m:aK}{tys:List Ty}{K:Ts.den tys->aK}(d:dw P f args m)
  (hw:wp P m h λtag b a=>tag=0/\∃x,b=Ts.inj tys x/\wp P (K x) a Q):wp P (.kC f args tys K) h Q:=(d h _ hw).toV
end
end Go.Sw
