import Derived.Test.YtncolficnfcdcaaGreatSwS9
set_option linter.unusedVariables false
set_option linter.unusedSimpArgs false
namespace Go.Sw
section
variable{P:Program}{l:List (Nat×aO)}{i:FuncId}
def cB(P:Program)(i:FuncId)(e:aO):Prop:=
 (∀as (w:World),(callFunc i as).run P w = .ok (.enter i as) w) /\
 ∀x h Q,wp P (e.prog x) h (λtag vs h'=>tag=0/\Q vs h')->Ur P i (Ts.inj e.tys x) h Q
theorem Ts.DP:∀{ts:List Ty} (x:Ts.den ts),(Ts.inj ts x).length=ts.length:=by
 intro ts
 induction ts with
 |nil=>intro x;rfl
 |cons t ts a=>intro x;simp[Ts.inj,a]
def WX(P:Program):List (Nat×aO)->Prop
 |[]=>True
 | (i,e)::r=>cB P i e/\WX P r
theorem im:∀{l:List (Nat×aO)} {i:Nat} {e:aO},WX P l->look l i=some e->cB P i e:=by
 intro l
 induction l with
 |nil=>intro i e _ h;simp[look]at h
 |cons p l b=>
  intro i e a h;obtain⟨k,f⟩:=p;simp only[look]at h;cases hb:Nat.beq k i
  .simp only[hb,cond_false]at h;exact b a.2 h
  .simp only[hb,cond_true,gP]at h
   obtain rfl:=fP.1 hb;subst h;exact a.1
theorem SR(h:WX P l):KI P (SQ l):=by
 intro i args m tys hm;unfold SQ at hm;split at hm
 .rename_i e he
  split at hm
  .rename_i x c
   obtain⟨rfl,rfl⟩:=jS (dU hm);obtain⟨a,b⟩:=im h he;refine⟨a,λh Q hw=>?_⟩;rw[Ts.AU c];exact b x h Q hw
  .cases hm
 .cases hm
theorem wu(hm:P.follows .mixedOrders=true)(j:WX P l){An:Up}{fn:Func}{c:Code}(f:P.funcs[i]?=some fn)(hb:fn.body=some c){n:Nat}
  (g:fn.ntmps=n) (d:LM P An n c=true) (a:∀as (w:World),(callFunc i as).run P w = .ok (.enter i as) w) (e:aO) (hlen:Nat.ble e.tys.length n=true)
  (heq:∀x,Om P (SQ l) An fn (Ts.inj e.tys x)=e.prog x) (b:(!eW c || Jw fn.results.toList)=true:=by rfl):cB P i e:=
 ⟨a,λx h Q hw=>Zu (SR j) hm f hb g d b (by rw[Ts.DP];exact hlen) (by rw[heq];exact hw)⟩
theorem Ta{tys res:List Ty}{R:Nat->Ts.den tys->aK}(h0:∀x,R 0 x = .fail)(a:∀as (w:World),(callFunc i as).run P w = .ok (.enter i as) w)
  (e:∀n,cB P i ⟨tys,res,R n⟩->cB P i ⟨tys,res,R (n+1)⟩):cB P i ⟨tys,res,λx=>.ex λn=>R n x⟩:=by
 have h:∀n,cB P i ⟨tys,res,R n⟩:=by
  intro n
  induction n with
  |zero=>exact⟨a,λx h Q hw=>by
    have b:wp P (R 0 x) h (λtag g c=>tag=0/\Q g c):=hw;rw[h0]at b;exact b.elim⟩
  |succ n f=>exact e n f
 exact⟨a,λx d Q ⟨n,hw⟩=>(h n).2 x d Q hw⟩
def NQ(P:Program)(t i:Nat):String:=
 match P.types[t]? with
 | some ti=>match ti.methods[i]? with
  |some m=>m.name
  |none=> ""
 |none=> ""
end
end Go.Sw
