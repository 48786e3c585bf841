
/- Steps. -/
import Derived.Test.YtncolficnfcdcaaGreatSwS10
import Derived.KernelRfl
set_option linter.unusedVariables false
set_option linter.unusedSimpArgs false
namespace Go.Sw
section
variable{P:Program}{An:Um}
variable{i:FuncId}
theorem Xz{Γ:Ctx}(E:KJ P Γ)(hm:P.follows .mixedOrders=true){fn:Func}{c:Code}(y:P.funcs[i]?=some fn)(hb:fn.body=some c){n:Nat}(z:fn.ntmps=n)(s:LM P An n c=true)
  (A:eU c=false) (r:oL c=false)
  {args:List Value} (ha:Nat.ble args.length n=true) {h:aG} {Q:aG->Prop} (hw:wp P (Om P Γ An fn args) h (λtag _ o=>tag=0/\Q o)):yJ P i args h Q:=by
 intro u w x;subst x;refine CallsDIn.mono (callsDIn_of_wp (F:=Fence.wide) (R:=λe b=>∃v,e = .returned v/\Env w b/\Q b.heap) y hb trivial ?_) λe M b h=>h;rw[<-Sp];simp only[Om,hb]at hw;have hle:args.length<=n:=fZ ha;have t:(args.toArray++Array.replicate (fn.ntmps-args.toArray.size) undef).size=n:=by simp[z];omega
 refine P0 (D:=False) (w0:=w) (df:=[]) (G:=λ_=>True) E hm c s (λ_ _ _ _ h=>h) (λ_ _ h=>h) (λ_=>rfl) (λh=>by rw[r]at h;cases h) ⟨?_,t,Env.refl w,trivial,rfl⟩ hw λe f a b K J L H q j=>?_
 .intro k v B
  obtain⟨h0,d⟩:=Np B;have m:k<args.length:=(cR.1 d).1;simp only[Mi]at d;have p:args[k]=v:=by rw[cL m]at d;exact dU d
  simp[Array.getElem?_append,m,p]
 .obtain⟨rfl,rfl⟩:=H A
  have key:wp P (yZ P f fn.results.toList λl=>.ret 0 l) b.heap (λtag _ o=>tag=0/\Q o)->a.defers=[]/\∃v,(results fn a.tmps).run P b = .ok v b/\∃I,Ending.returned v = .returned I/\Env w b/\Q b.heap:=by
   intro C;obtain⟨l,d,p, -⟩:=Hc q.fr C;exact⟨q.g.2,Bv l,HN d,Bv l,rfl,q.env,p.2⟩
  cases e with
  |Dh=>exact key j
  |ret=>exact key j
  |ex id=>exact j.elim
def j7(P:Program)(i:FuncId)(e:aO):Prop:=
 ∀x h Q,wp P (e.prog x) h (λtag _ h'=>tag=0/\Q h')->yJ P i (Ts.inj e.tys x) h Q
theorem rh{P:Program}(hm:P.follows .mixedOrders=true){l:List (Nat×aO)}(j:WU P l){An:Um}{fn:Func}{c:Code}(d:P.funcs[i]?=some fn)(hb:fn.body=some c){n:Nat}
  (f:fn.ntmps=n) (b:LM P An n c=true) (e:aO) (hlen:Nat.ble e.tys.length n=true)
  (heq:∀x,Om P (SQ l) An fn (Ts.inj e.tys x)=e.prog x) (g:eU c=false) (a:oL c=false):j7 P i e:=
 λx h Q hw=>Xz (SR j) hm d hb f b g a (by rw[Ts.DO];exact hlen) (by rw[heq];exact hw)
end
end Go.Sw
