
/- Steps. -/
import Derived.Test.YtncolficnfcdcaaGreatSwS10
import Derived.Test.YtncolficnfcdcaaGreatSwU2
set_option linter.unusedVariables false
set_option linter.unusedSimpArgs false
namespace Go.Sw
section
theorem DP{P:Program}{t:TypeId}{v:Value}{name:String}{f:FuncId}{recv:Value}{args:List Value}{e:aO}
  (hm:∀w:World,(method (P.types.size+Made.depth) t v name).run P w = .ok (f,recv) w) (b:cB P f e) (x:Ts.den e.tys) (i:recv::args=Ts.inj e.tys x) :
  Inv P (.iface t v) name args (e.prog x):=by
 intro h Q g w hw;have a:=b.2 x h Q g w hw;rw[<-i]at a;refine⟨f,(recv::args).toArray,?_,a⟩;have c:=b.1 (recv::args).toArray w;have d:(#[recv]++args.toArray:Array Value)=(recv::args).toArray:=by simp
 show(callMethod (.iface t v) name args.toArray).run P w=_;unfold callMethod;simp only[Sem.run_bind,run_program,Result.andThen_ok,hm w,d,c]
end
end Go.Sw
