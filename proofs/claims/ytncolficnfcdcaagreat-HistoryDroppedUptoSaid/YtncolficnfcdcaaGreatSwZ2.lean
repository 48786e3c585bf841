/-
  A method that an interface value has, out of its shallow program.
-/
import Derived.Test.YtncolficnfcdcaaGreatSwS10
import Derived.Test.YtncolficnfcdcaaGreatSwU2
set_option linter.unusedSimpArgs false
set_option linter.unusedVariables false
namespace Go.Sw
theorem inv_of {P:Program} {t:TypeId} {v:Value} {name:String} {f:FuncId} {recv:Value} {args:List Value} {e:Shallow}
  (hm:∀ w:World,(method (P.types.size+Made.depth) t v name).run P w = .ok (f,recv) w) (hf:FnOk P f e) (x:Ts.den e.tys) (hx:recv::args=Ts.inj e.tys x) :
  Inv P (.iface t v) name args (e.prog x):=by
 intro h Q hq w hw
 have h1:=hf.2 x h Q hq w hw
 rw [← hx] at h1
 refine ⟨f,(recv::args).toArray,?_,h1⟩
 have h2:=hf.1 (recv::args).toArray w
 have h3:(#[recv]++args.toArray:Array Value)=(recv::args).toArray:=by simp
 show (callMethod (.iface t v) name args.toArray).run P w=_
 unfold callMethod
 simp only [Sem.run_bind,run_program,Result.andThen_ok,hm w,h3,h2]
end Go.Sw
