
/- Steps. -/
import Derived.Test.YtncolficnfcdcaaGreatSwU3
import Derived.Test.YtncolficnfcdcaaGreatSwZ5
set_option linter.unusedVariables false
set_option linter.unusedSimpArgs false
namespace Go.Sw
section
variable{P:Program}{h:aG}{Q:Nat->List Value->aG->Prop}
variable{i:Nat}{α:Type}
theorem Ak{n m c:Nat}{a:Addr}{old:List Value}(new:List Value){K:aK}(s:cA n 1 h ⟨some a,m,c⟩ old)(B:new.length=old.length)(q:∀v∈new,flat v=true)
  (r:∀d,cA n 1 d ⟨some a,m,c⟩ new->jU ⟨some a,m,c⟩ h d->d.size=h.size->wp P K d Q):wp P (.store (some a) new K) h Q:=by
 obtain⟨o1,o2,t,x⟩:=s;obtain⟨b,off,spot⟩:=a;obtain⟨e0,g,j,cs,elem,k,l,A⟩:=x;dsimp only at e0 g j k o1 o2 l;subst e0;subst g;obtain⟨w,f,c1,c2,c3,y,z,p⟩:=mH (vs:=new) (i:=0) (off:=0) k q (by simp;omega);refine⟨⟨b,0,none⟩,rfl,w,r _ ⟨by dsimp only;omega,o2,t,rfl,rfl,j,f,elem,c1,by rw[c2,l],λi u hi=>?_⟩
  ⟨by unfold nY;omega,λi hi o=>p i λe=>(o _ rfl) e.symm,λa e=>by unfold nY;rw[jH];exact e⟩ (by unfold nY;omega)⟩
 have:=c3 i u hi;simpa using this
theorem Ro{e:Sh}{x:Sl×List e.den}{bs:List B}{y:e.den}{z:Bs.den bs}{j:Int}{m:Nat}{K:Bs.den bs->aK}(o:(Sh.list e).ok h x)(h0:0<=j)(b:x.2[j.toNat]?=some y)(hm:m=e.size)(f:Bs.inj bs z=e.cells y)(d:wp P (K z) h Q) :
  wp P (bF (bN (aJ x.1.aD) (eV j x.1.len)) (.load (.agg bs) (aB x.1.aD (aZ (bQ j) m)) K)) h Q:=by
 obtain⟨o1,o2,l,g⟩:=o;obtain⟨a,ea,c,_⟩:=g _ _ b;have k:=(cR.1 b).1;subst hm;exact aL (fC.2 ⟨by simp[aJ,ea],kN.2 ⟨h0,by omega⟩⟩) ⟨a.add (j.toNat*e.size),by simp[aB,ea,aZ,bQ],z,by show Cells h _ (Bs.inj bs z);rw[f];exact c,d⟩
theorem A0{e:Sh}{x:Sl×List e.den}{b:B}{y:e.den}{z:b.den}{j:Int}{m:Nat}{K:b.den->aK}(o:(Sh.list e).ok h x)(h0:0<=j)(d:x.2[j.toNat]?=some y)(hm:m=e.size)(k:(e.cells y)[i]?=some (b.inj z))(g:wp P (K z) h Q) :
  wp P (bF (bN (aJ x.1.aD) (eV j x.1.len)) (bF (aJ (aB x.1.aD (aZ (bQ j) m))) (.load (.one b) (aB (aB x.1.aD (aZ (bQ j) m)) i) K))) h Q:=by
 obtain⟨o1,o2,p,l⟩:=o;obtain⟨a,ea,c,_⟩:=l _ _ d;have n:=(cR.1 d).1;subst hm;have f:aB x.1.aD (aZ (bQ j) e.size)=some (a.add (j.toNat*e.size)):=by simp[aB,ea,aZ,bQ]
 rw[f];exact aL (fC.2 ⟨by simp[aJ,ea],kN.2 ⟨h0,by omega⟩⟩) (aL rfl (bC _ z rfl (aI.1 c i _ k) g))
theorem Sh.ok.len{e:Sh}{x:Sl×List e.den}(o:(Sh.list e).ok h x):x.1.len=x.2.length:=o.1
theorem Sh.ok.el{e:Sh}{x:Sl×List e.den}{y:e.den}(o:(Sh.list e).ok h x)(hi:x.2[i]?=some y):e.ok h y:=let ⟨_,_,_,k⟩:=o.2.2.2 i y hi;k
theorem cn(f:α->Nat){l:List α}{y:α}(hi:l[i]?=some y):((l.take (i+1)).map f).sum=((l.take i).map f).sum+f y:=by
 rw[eN,hi];simp
theorem Ud(f:α->Nat)(l:List α)(i:Nat):((l.take i).map f).sum<=(l.map f).sum:=by
 have:=congrArg (λl=>(l.map f).sum) (eY i l);simp only[dP,List.sum_append_nat]at this;omega
end
end Go.Sw
