
/- Steps. -/
import Derived.Test.YtncolficnfcdcaaGreatSwS10
import Derived.KernelRfl
set_option linter.unusedVariables false
set_option linter.unusedSimpArgs false
namespace Go.Sw
section
variable{P:Program}{An:TB}
variable{i:FuncId}
theorem WN{Γ:Ctx}(E:Kf P Γ)(hm:P.follows .mixedOrders=true){fn:Func}{c:Code}(y:P.funcs[i]?=some fn)(hb:fn.body=some c){n:Nat}(z:fn.ntmps=n)(s:Lj P An n c=true)
  (A:eP c=false) (r:oF c=false)
  {args:List Value} (ha:Nat.ble args.length n=true) {h:aE} {Q:aE->Prop} (hw:wp P (NM P Γ An fn args) h (λtag _ o=>tag=0/\Q o)):xT P i args h Q:=by
 intro u w x;subst x;refine CallsDIn.mono (callsDIn_of_wp (F:=Fence.wide) (R:=λe b=>∃v,e = .returned v/\Env w b/\Q b.heap) y hb trivial ?_) λe M b h=>h;rw[<-RG];simp only[NM,hb]at hw;have hle:args.length<=n:=fO ha;have t:(args.toArray++Array.replicate (fn.ntmps-args.toArray.size) undef).size=n:=by simp[z];omega
 refine Po (D:=False) (w0:=w) (df:=[]) (G:=λ_=>True) E hm c s (λ_ _ _ _ h=>h) (λ_ _ h=>h) (λ_=>rfl) (λh=>by rw[r]at h;cases h) ⟨?_,t,Env.refl w,trivial,rfl⟩ hw λe f a b K J L H q j=>?_
 .intro k v B
  obtain⟨h0,d⟩:=MN B;have m:k<args.length:=(eK.1 d).1;simp only[LM]at d;have p:args[k]=v:=by rw[cM m]at d;exact dW d
  simp[Array.getElem?_append,m,p]
 .obtain⟨rfl,rfl⟩:=H A
  have key:wp P (yI P f fn.results.toList λl=>.ret 0 l) b.heap (λtag _ o=>tag=0/\Q o)->a.defers=[]/\∃v,(results fn a.tmps).run P b = .ok v b/\∃I,Ending.returned v = .returned I/\Env w b/\Q b.heap:=by
   intro C;obtain⟨l,d,p, -⟩:=GQ q.fr C;exact⟨q.g.2,Bb l,Hp d,Bb l,rfl,q.env,p.2⟩
  cases e with
  |CV=>exact key j
  |ret=>exact key j
  |ex id=>exact j.elim
def fw(P:Program)(i:FuncId)(e:aO):Prop:=
 ∀x h Q,wp P (e.prog x) h (λtag _ h'=>tag=0/\Q h')->xT P i (Ts.inj e.tys x) h Q
theorem kl{P:Program}(hm:P.follows .mixedOrders=true){l:List (Nat×aO)}(j:V9 P l){An:TB}{fn:Func}{c:Code}(d:P.funcs[i]?=some fn)(hb:fn.body=some c){n:Nat}
  (f:fn.ntmps=n) (b:Lj P An n c=true) (e:aO) (hlen:Nat.ble e.tys.length n=true)
  (heq:∀x,NM P (R4 l) An fn (Ts.inj e.tys x)=e.prog x) (g:eP c=false) (a:oF c=false):fw P i e:=
 λx h Q hw=>WN (R5 j) hm d hb f b g a (by rw[Ts.Du];exact hlen) (by rw[heq];exact hw)
end
end Go.Sw
