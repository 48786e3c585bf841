
/- Steps. -/
import Derived.Test.YtncolficnfcdcaaGreatSwG3
set_option linter.unusedVariables false
set_option linter.unusedSimpArgs false
set_option maxRecDepth 100000
set_option maxHeartbeats 1000000
namespace Go.Sw.Hist
open Go.Sw.Any Go.Sw.Codec Go.Sw.Piece
section
variable{P:Program}{S:cG}{h:aE}{Q:Nat->bE->aE->Prop}{n k:Nat}{rho:Nat->Nat}{X:Bk}{D:Doc}{p:Addr}{sl sw:Sl}{vs:bE}{ls:aW}{M M':Mo}{N N':Nat}
abbrev qY:Sh:=.str (.pair (.int .i64) (.pair (.int .i64) (.pair (.int .i64) (.pair (.int .i64) (.pair (.list jD) (.pair (.list (.int .i64)) .unit))))))
abbrev af:=Int×Int×Int×Int×Gr×(Sl×aW)×Unit
abbrev j_:=Sl×List af
abbrev ui(o:af):Int×Int×Int×Int×Sl×Sl×Unit:=(o.1,o.2.1,o.2.2.1,o.2.2.2.1,o.2.2.2.2.1.1,o.2.2.2.2.2.1.1,())
abbrev Y7(o:af):bE:=[aH o.1,aH o.2.1,aH o.2.2.1,aH o.2.2.2.1,dG o.2.2.2.2.1.1,dG o.2.2.2.2.2.1.1]
def RD(o:af):Nat:=1+(aU o.2.2.2.2.1.2).length+o.2.2.2.2.2.1.2.length
theorem Y8(o:af):RD o<=qY.wt o/\o.2.2.2.2.1.2.length<=qY.wt o:=by
 have b:=ka o.2.2.2.2.1;have c:=P7 (k:=.i64) o.2.2.2.2.2.1;have d:qY.wt o=(1+(1+(1+(1+((Sh.list jD).wt o.2.2.2.2.1+((Sh.list (.int .i64)).wt o.2.2.2.2.2.1+0))))))+1:=rfl;unfold RD;omega
theorem mh{x:j_}(hw:(Sh.list qY).wt x<=1048577):(x.2.map RD).sum<=1048576/\x.2.length<=1048576/\∀o∈x.2,o.2.2.2.2.1.2.length<=1048576:=by
 have e:(Sh.list qY).wt x=(x.2.map qY.wt).sum+1:=rfl;have c:=NK RD qY.wt x.2 λo _=>(Y8 o).1;have d:=Sh.pg (e:=qY) x λo=>by have:=(Y8 o).1;unfold RD at this;omega
 refine⟨by omega,by omega,λo b=>?_⟩;have f:=xP qY.wt b;have g:=(Y8 o).2;omega
theorem gM.sm{h':aE}{f:Bk}{e:Doc}(d:gM S n k h rho h' p f e M N)(sm:Sm X f)(hb:e.b=D.b):gM S n k h rho h' p X D M N:=by
 obtain⟨c,q,o,s1,s2,v,l,m,s,r,j,g⟩:=d;exact⟨c,q,o,s1,s2,v,l,m,s,r,sm.trans j,g.trans hb⟩
theorem Wn(t:jM P S)(C:V8 P S){o:af}(q:fZ S n k rho h p X D sl sw vs ls)(b:Gj X D M N)(j:N+RD o<=1048576)(m:o.2.2.2.2.1.2.length<=1048576)(e:∀d,aY (λi=>k<rho i/\rho i<=k+30) h d->qY.ok d o) :
  wp P (iK S (some p) (ui o)) h λtg vs d=>tg=0/\vs=[.bool true]/\∃M',gM S n k h rho d p X D M' (N+RD o):=by
 have r:=e h (aY.refl _ _);unfold RD at j⊢;obtain⟨o1,o2,v,w,u,⟨o6,s⟩,_⟩:=o;dsimp only at j m⊢;obtain⟨f1,f2,f3,f4,_,_,_⟩:=r;by_cases f:o1=2
 .subst f
  refine cU _ (λtg vs d ⟨a,b,M',c⟩=>⟨a,b,M',c.more (by omega)⟩) (TV (x5:=u) t q b (by omega) m (by omega) λd c=>(e d c).2.2.2.2.1)
 .by_cases g:o1=8
  .subst g
   exact cU _ (λtg vs d ⟨a,b,M',c⟩=>⟨a,b,M',c.more (by omega)⟩) (TW (l6:=s) q b (by omega) (by omega) λd c=>Sh.kZ (x:=(o6,s)) (e d c).2.2.2.2.2.1)
  .exact cU _ (λtg vs d ⟨a,b,M',c⟩=>⟨a,b,M',c.more (by omega)⟩) (TU C q b (by omega) f g f3 f4)
theorem Vi(Me:jM P S)(C:V8 P S)(C0:Cl0 P S)(Ct:Xv P S){x:j_}{lo hi:Int}(q:fZ S n k rho h p X D sl sw vs ls)(b:Gj X D M N)(hx:Mc (λh=>(Sh.list qY).ok h x) rho h)(hN:N+(x.2.map RD).sum<=1048576)(a8:x.2.length<=1048576)(hl:∀o∈x.2,o.2.2.2.2.1.2.length<=1048576)(Cm:lo<=13->13<=hi->(∃o∈x.2,o.1=13)->Lo P S) :
  wp P (vA S (some p) x.1 lo hi) h λtg vs r=>tg=0/\vs=[.bool true]/\∃M',gM S n k h rho r p X D M' (N+(x.2.map RD).sum):=by
 unfold vA;have a2:aQ x.1.len=(x.2.length:Int):=by rw[aN,hx.now.len]
 rw[a2];refine bO (λ(s:Bool×Int×Unit) r=>s.1=true/\∃(i:Nat) (M':Mo),s.2.1=i/\i<=x.2.length/\gM S n k h rho r p X D M' (N+((x.2.take i).map RD).sum)) (λs _=>((x.2.length:Int)-s.2.1).toNat)
  (λt vs r=>t=2/\vs=[.bool true]/\∃M',gM S n k h rho r p X D M' (N+(x.2.map RD).sum)) ⟨rfl,0,M,rfl,cS _,gM.ext q b (Ext.refl h)⟩ ?_ ?_
 .rintro⟨(sb:Bool),(si:Int),u⟩ h1 ⟨hb,i,J,hi,hle,pp⟩
  dsimp only at hi hb⊢;subst hi;subst hb;refine bW (i<x.2.length) (aG (λd=>aC ⟨rfl,Ext.refl _,true,rfl,?_⟩) λd=>aC ⟨rfl,Ext.refl _,false,rfl,?_⟩) λbb j e2 R=>?_
  .rw[aV]at d;exact⟨λ_=>by omega,λ_=>rfl⟩
  .rw[aZ]at d;exact⟨λf=>(by cases f),λf=>(by omega)⟩
  have I:=pp.Yt e2;refine aG (λd=>?_) λd=>aC ⟨λf=>absurd f (by decide),λ_=>⟨rfl,rfl,J,?_⟩⟩
  .have a1:=R.1 d
   obtain⟨o,L⟩:∃o,x.2[i]?=some o:=⟨x.2[i],cM a1⟩;have T:=eL L;have ab:=ZK RD L;have a5:=Tp RD x.2 (i+1);obtain⟨m,X1,D1,s1,s2,v1,l1,A,q1,Y,V,O⟩:=I;have U:Mc (λh=>(Sh.list qY).ok h x) m j:=hx.aP A.c (λi hi hf=>by omega) λi hi h0=>by rw[A.old i hi (by omega)];exact h0
   have a4:=U.now;refine eN (λt w r=>t=0/\w=[.bool true]/\∃M',gM S n k h rho r p X D M' (N+((x.2.take (i+1)).map RD).sum)) ?_ ?_
   .refine QQ (e:=qY) (x:=x) (y:=o) (z:=ui o) a4 (by omega) (by simpa using L) rfl rfl ?_
    refine λel=>?_;obtain⟨zs,H⟩:∃zs,zs=[aH 0,aH 0,aH 0,aH 0,Value.slice none 0 0, .slice none 0 0]:=⟨_,rfl⟩;show wp P _ (j.push (.cells [aH 0,aH 0,aH 0,aH 0,Value.slice none 0 0, .slice none 0 0].toArray el)) _;rw[<-H];have e3:Ext j (j.push (.cells zs.toArray el)):=Ext.push ..;have o3:cC j.size 1 (j.push (.cells zs.toArray el)) ⟨some ⟨j.size,0,none⟩,6,6⟩ zs:=bX (by rw[H];rfl) (by decide) (by decide);generalize j.push (.cells zs.toArray el)=h3 at e3 o3⊢;refine DE (Y7 o) o3 (by rw[H];rfl) (by intro v hv;simp only[Y7,eJ,lU,or_false]at hv;rcases hv with rfl|rfl|rfl|rfl|rfl|rfl<;>rfl) λh4 o4 u4 z4=>?_;have K:Ext j h4:=jE.jA e3 u4 λa ha=>by cases ha;exact bL _
    refine bW (1<=o.1/\o.1<=9) ?_ λb5 Z E a6=>?_
    .refine bY (b:=bI) o.1 rfl o4.cells rfl (aG (λd=>?_) λd=>aC ⟨rfl,Ext.refl _,false,rfl,?_⟩)
     .rw[dT]at d
      refine bY (b:=bI) o.1 rfl o4.cells rfl (aC ⟨rfl,Ext.refl _,_,rfl,?_⟩);rw[gD];exact⟨λh=>⟨d,h⟩,λh=>h.2⟩
     .rw[fC]at d;exact⟨λf=>(by cases f),λf=>(by omega)⟩
    have o5:=o4.ext E;refine aG (λ_=>?_) λ_=>?_
    .refine B3 (ui o) o5 rfl ?_
     have q5:=q1.ext (K.trans E);have W:qE k j m Z (Hist.zr j m):=(cQ.mV (k:=k) (K.trans E)).UQ ⟨bL _,by omega⟩;have a3:Mc (λh=>(Sh.list qY).ok h x) (Hist.zr j m) Z:=U.aP W.c (λi hi hf=>by omega) λi hi h0=>by rw[sM hi];exact h0
     refine eU (Wn (o:=o) Me C q5 Y (by omega) (hl o T) λg c=>(a3 g (c.mono λi _ hf=>by omega)).el L) λtg w F hq=>?_;obtain⟨rfl,rfl,M6,p6⟩:=hq;refine⟨rfl,(true,()),rfl,aC ⟨rfl,rfl,M6,?_⟩⟩;have:=(gM.pre (A.trans W) p6).sm V O;rw[ab,<-Bg];exact this
    .have G:∀{F:aE},Ext Z F->∃M',gM S n k h rho F p X D M' (N+((x.2.take (i+1)).map RD).sum):=λB=>⟨J,(((gM.ext q1 Y ((K.trans E).trans B)).pre A).sm V O).more (by omega)⟩
     refine bW (lo<=o.1/\o.1<=hi) ?_ λb6 F B ao=>?_
     .refine bY (b:=bI) o.1 rfl o5.cells rfl (aG (λd=>?_) λd=>aC ⟨rfl,Ext.refl _,false,rfl,?_⟩)
      .rw[dT]at d
       refine bY (b:=bI) o.1 rfl o5.cells rfl (aC ⟨rfl,Ext.refl _,_,rfl,?_⟩);rw[gD];exact⟨λh=>⟨d,h⟩,λh=>h.2⟩
      .rw[fC]at d;exact⟨λf=>(by cases f),λf=>(by omega)⟩
     refine aG (λaw=>?_) λ_=>aC ⟨rfl,rfl,G B⟩;have F:=ao.1 aw;refine B3 (ui o) (o5.ext B) rfl ?_;refine aM (bw Me C0 Ct (q1.ext ((K.trans E).trans B)) Y (by omega) o.1 o.2.1 o.2.2.1 o.2.2.2.1 o.2.2.2.2.1.1 o.2.2.2.2.2.1.1 λal=>Cm (by omega) (by omega) ⟨o,T,al⟩) λ⟨(y:Bool),_⟩ h7 e7 hy=>?_;have hy:y=true:=hy;subst hy;exact aC ⟨rfl,rfl,G (B.trans e7)⟩
   .rintro t w h3 ⟨rfl,rfl,M3,p3⟩
    refine bK (jQ ?_);rw[bG (by omega) (by omega)];exact aC ⟨λ_=>⟨(true,(i:Int)+1,()),rfl,⟨rfl,i+1,M3,by push_cast;rfl,by omega,p3⟩,by dsimp only;omega⟩,λf=>absurd rfl f⟩
  .have a7:¬i<x.2.length:=λf=>by have:=R.2 f;rw[this]at d;cases d
   have a0:i=x.2.length:=by omega
   rw[a0,fA]at I;exact I
 .rintro t vs h1 ⟨rfl,rfl,J,pp⟩
  exact bK (jQ (aC ⟨rfl,rfl,J,pp⟩))
end
section
variable{P:Program}{S:cG}{h:aE}{Q:Nat->bE->aE->Prop}
theorem bl{x:j_}{n0:Int}(ok:(Sh.list qY).ok h x)(hl:x.2.length<=1048576):aS P (BB S n0 x.1) [tB] h λ(y:Bool×Unit) _=>True:=by
 unfold BB aS;have U:aQ x.1.len=(x.2.length:Int):=by rw[aN,ok.len]
 rw[U];refine bO (λ(s:Int×Int×Int×Int×Int×Int×Unit) q=>Ext h q/\∃i:Nat,s.2.2.2.2.2.1=i/\i<=x.2.length/\1<=s.2.2.2.2.1/\s.2.2.2.2.1<=(i:Int)+1) (λs _=>((x.2.length:Int)-s.2.2.2.2.2.1).toNat)
  (λt vs q=>Ext h q/\t=2/\∃a b c d u:Int,vs=[aH a,aH b,aH c,aH d,aH u]/\1<=u) ⟨Ext.refl _,0,rfl,cS _,by show(1:Int)<=1;omega,by show(1:Int)<=((0:Nat):Int)+1;omega⟩ ?_ ?_
 .rintro⟨(a:Int),(b:Int),(c:Int),(d:Int),(u:Int),(si:Int),_⟩ I ⟨F,i,hi,hle,g,W⟩
  dsimp only at hi g W⊢;subst hi;refine bW (i<x.2.length/\a<=1048576) (aG (λr=>aC ⟨rfl,Ext.refl _,_,rfl,?_⟩) λr=>aC ⟨rfl,Ext.refl _,false,rfl,?_⟩) λbb B G L=>?_
  .rw[aV]at r;rw[gD];exact⟨λh=>⟨by omega,h⟩,λh=>h.2⟩
  .rw[aZ]at r;exact⟨λf=>(by cases f),λf=>(by omega)⟩
  refine aG (λr=>?_) λr=>aC ⟨λf=>absurd f (by decide),λ_=>⟨F.trans G,rfl,a,b,c,d,u,rfl,g⟩⟩;have R:=(L.1 r).1;obtain⟨o,V⟩:∃o,x.2[i]?=some o:=⟨x.2[i],cM R⟩;have H:=F.trans G;have m:=Sh.ok.ext (s:=.list qY) H ok;have v:x.2[((i:Nat):Int).toNat]?=some o:=by simpa using V
  refine eN (λt w q=>t=0/\Ext B q/\∃a b c d J:Int,w=[aH a,aH b,aH c,aH d,aH J]/\1<=J/\J<=(i:Int)+2) ?_ ?_
  .refine AI (e:=qY) (b:=.sl) (x:=x) (y:=o) (z:=o.2.2.2.2.2.1.1) m (by omega) v rfl rfl ?_
   refine AI (e:=qY) (b:=.sl) (x:=x) (y:=o) (z:=o.2.2.2.2.2.1.1) m (by omega) v rfl rfl ?_;refine AI (e:=qY) (b:=bI) (x:=x) (y:=o) (z:=o.1) m (by omega) v rfl rfl ?_;have A:aT .i64 u 1=u+1:=bG (by omega) (by omega);refine aG (λ_=>?_) λ_=>aG (λ_=>aG (λ_=>?_) λ_=>?_) λ_=>aG (λ_=>aG (λ_=>?_) λ_=>?_) λ_=>aG (λ_=>?_) λ_=>?_
   .have gx:(Sh.list jD).ok B o.2.2.2.2.1:=(m.el V).2.2.2.2.1
    have T:aQ o.2.2.2.2.1.1.len=(o.2.2.2.2.1.2.length:Int):=by rw[aN,gx.len]
    refine bO (λ(s:Int×Int×Int×Unit) q=>q=B/\∃j:Nat,s.2.2.1=j/\j<=o.2.2.2.2.1.2.length) (λs _=>((o.2.2.2.2.1.2.length:Int)-s.2.2.1).toNat)
     (λt w q=>q=B/\t=5/\∃a b:Int,w=[aH a,aH b]) ⟨rfl,0,rfl,cS _⟩ ?_ ?_
    .rintro⟨(C:Int),(E:Int),(sj:Int),_⟩ K ⟨rfl,j,O,ao⟩
     dsimp only at O⊢;subst O;refine AI (e:=qY) (b:=.sl) (x:=x) (y:=o) (z:=o.2.2.2.2.1.1) m (by omega) v rfl rfl ?_;rw[T];refine aG (λr=>?_) λr=>aC ⟨λf=>absurd f (by decide),λ_=>⟨rfl,rfl,C,E,rfl⟩⟩;rw[aV]at r;have al:=gx.2.2.1;have ab:=gx.2.1;have aw:=gx.len;obtain⟨y,hy⟩:∃y,o.2.2.2.2.1.2[j]?=some y:=⟨o.2.2.2.2.1.2[j]'(by omega),cM (by omega)⟩;refine AI (e:=qY) (b:=.sl) (x:=x) (y:=o) (z:=o.2.2.2.2.1.1) m (by omega) v rfl rfl ?_;refine jH (b:=.sl) (z:=y.2.2.1.1) gx hy rfl ?_;rw[bG (a:=(j:Int)) (by omega) (by omega)];exact aC ⟨λ_=>⟨(_,_,(j:Int)+1,()),rfl,⟨rfl,j+1,by push_cast;rfl,by omega⟩,by dsimp only;omega⟩,λf=>absurd rfl f⟩
    .rintro t w K ⟨rfl,rfl,C,E,rfl⟩
     exact bK (wC (aC ⟨rfl,Ext.refl _,_,_,_,_,_,rfl,g,by omega⟩))
   .rw[A];exact aC ⟨rfl,Ext.refl _,_,_,_,_,_,rfl,by omega,by omega⟩
   .exact aC ⟨rfl,Ext.refl _,_,_,_,_,_,rfl,g,by omega⟩
   .rw[A];exact aC ⟨rfl,Ext.refl _,_,_,_,_,_,rfl,by omega,by omega⟩
   .exact aC ⟨rfl,Ext.refl _,_,_,_,_,_,rfl,g,by omega⟩
   .rw[A];exact aC ⟨rfl,Ext.refl _,_,_,_,_,_,rfl,by omega,by omega⟩
   .exact aC ⟨rfl,Ext.refl _,_,_,_,_,_,rfl,g,by omega⟩
  .rintro t w K ⟨rfl,e3,C,E,c1,d1,Z,rfl,I,B⟩
   refine bK ⟨(C,E,c1,d1,Z,()),rfl,?_⟩;rw[bG (a:=(i:Int)) (by omega) (by omega)];exact aC ⟨λ_=>⟨(C,E,c1,d1,Z,(i:Int)+1,()),rfl,⟨H.trans e3,i+1,by push_cast;rfl,by omega,I,by push_cast;omega⟩,by dsimp only;omega⟩,λf=>absurd rfl f⟩
 .rintro t vs I ⟨F,rfl,a,b,c,d,u,rfl,hu⟩
  refine bK ⟨(a,b,c,d,u,()),rfl,?_⟩;dsimp only;refine iO (tys:=[tB]) (λ(y:Bool×Unit) _=>True) ?_ λ⟨(y:Bool),_⟩ B G _=>aC ⟨rfl,F.trans G,(y,()),rfl,trivial⟩;refine aG (λ_=>aG (λ_=>aG (λ_=>aG (λ_=>aL ?_ ?_) λ_=>?_) λ_=>?_) λ_=>?_) λ_=>?_
  .rw[dN]
   by_cases Y:fU u 0=true
   .rw[cJ]at Y;omega
   .simpa using Y
  all_goals exact aC ⟨rfl,Ext.refl _,(_,()),rfl,trivial⟩
end
section
variable{P:Program}{S:cG}{h:aE}{Q:Nat->bE->aE->Prop}
variable{a i:Nat}{l:aW}
def Tz(a n:Nat):aW:=(List.range n).map λi=>dA .u8 (aT .i64 167 ((a+i:Nat):Int))
theorem QC(a n:Nat):(Tz a n).length=n:=by simp[Tz]
theorem YX(a n:Nat):Tz a (n+1)=Tz a n++[dA .u8 (aT .i64 167 ((a+n:Nat):Int))]:=by simp[Tz,LL]
theorem dq{n:Nat}(hi:i<n):(Tz a n)[i]?=some (dA .u8 (aT .i64 167 ((a+i:Nat):Int))):=by simp[Tz,hi]
theorem YW{n:Nat}:∀x∈Tz a n,cR .u8 x:=λx b=>by
 obtain⟨i,hi,rfl⟩:=dC.1 b;exact range_u8 _
theorem tq{n:Nat}{s:Sl}{v:Int}{K:aK}(o:bR n .u8 h s l)(hi:i<l.length)(m:cR .u8 v)
  (q:∀b,bR n .u8 b s (l.set i v)->aY (iE s) h b->b.size=h.size->wp P K b Q) :
  wp P (bD (bN (aJ s.aD) (eV (i:Int) s.len))<|.store (aB s.aD (bB (bP (i:Int)) 1)) [.int .u8 v] K) h Q:=by
 have hlen:=o.len;have j:l=l.take i++(l[i]::l.drop (i+1)):=by rw[<-gK hi,eX]
 have r:cC n 1 h s ((l.take i).map (.int .u8)++[.int .u8 l[i]]++(l.drop (i+1)).map (.int .u8)):=by
  have f:=o.own;rw[j,dL,fK]at f;simpa using f
 have e:l.set i v=l.take i++(v::l.drop (i+1)):=by
  conv=>lhs;rw[j]
  have g:(l.take i).length=i:=by rw[dJ];omega
  rw[Bl (h:=by omega),g,tZ,xS]
 obtain⟨a,ea,_⟩:=o.kZ.rd.2 i (.int .u8 l[i]) (by rw[fX,cM hi];rfl);refine aL (fD.2 ⟨by rw[ea];rfl,lR.2 ⟨by omega,by omega⟩⟩) ?_;have d:bB (bP (i:Int)) 1=((l.take i).map (Value.int .u8)).length:=by rw[cD,dJ,gX,eR,cN];omega
 rw[d];refine rD (mid:=[.int .u8 l[i]]) [.int .u8 v] r rfl rfl (by simp) (by intro x c;rw[dE.1 c];rfl) λb t u w=>q b ⟨?_,λx c=>?_⟩ (aY.dP u λa ha _=>⟨a,ha,rfl⟩) w
 .rw[e,dL,fK];simpa using t
 .rcases Rk c with c|rfl
  .exact o.wf x c
  .exact m
theorem Ze{h0 h1 j m o:aE}{c:Sl}{enc limit depth:Int}{l:aW}{X:Bk}{D:Doc}{M:Mo}
  (C:Ext h0 j) (E:Ext j m) (w:Ext m o) (U:∀a,c.aD=some a->h0.size<=a.block/\a.block<j.size)
  (R:∀(k:Nat) (rho:Nat->Nat),∃b,cQ k j rho m b/\(∀i,i<j.size->b i=rho i)/\cL S j.size m b k X/\Inv X M 0)
  (T:∀(k:Nat) (rho:Nat->Nat),∃b,cQ k m rho o b/\(∀i,i<m.size->b i=rho i)/\eS k b o D) (k:Nat) (rho:Nat->Nat) {g:aE} (B:aY (iE c) o g) :
  ∃b,(∀i,i<h0.size->b i=rho i)/\(∀i,h0.size<=i->b i=0\/(k<b i/\b i<=k+30))/\(∀i,o.size<=i->b i=0)/\cL S j.size g b k X/\eS (k+11) b g D:=by
 have V:=C.1;have W:=E.1;have Y:=w.1;obtain⟨d,G,H,I⟩:∃d:Nat->Nat,(∀i,i<h0.size->d i=rho i)/\(∀i,h0.size<=i->iE c i->d i=k+27)/\∀i,h0.size<=i->d i=0\/d i=k+27:=by
  refine⟨Hist.nr h0 rho c (k+27),λi hi=>vY hi,λi hi v=>En hi v,λi hi=>?_⟩;by_cases v:iE c i
  .exact .inr (En hi v)
  .exact .inl (JS hi v)
 obtain⟨t,J,r,L,i1⟩:=R k d;obtain⟨u,K,q,d2⟩:=T (k+11) t;have s:∀i,iE c i->h0.size<=i/\i<j.size:=λi ⟨a,ha,e⟩=>by rw[<-e];exact U a ha
 have z:∀i,iE c i->t i=k+27:=λi hi=>by rw[r i (s i hi).2];exact H i (s i hi).1 hi
 have F:∀i,iE c i->u i=k+27:=λi hi=>by rw[q i (by have:=s i hi;omega)];exact z i hi
 have O:aY (iE c) m g:=(aY.bH w).trans B λ_ _ f=>f;refine⟨Hist.zr o u,λi hi=>?_,λi hi=>?_,λi hi=>qA hi,L.other O (λi hi A=>by rw[z i A];omega) λi hi _=>?_,d2.aP B (λi hi A=>by rw[F i A];omega) λi hi _=>sM hi⟩
 .rw[sM (by omega),q i (by omega),r i (by omega)];exact G i hi
 .by_cases o:i<o.size
  .rw[sM o]
   by_cases m:i<m.size
   .rw[q i m]
    by_cases j:i<j.size
    .rw[r i j]
     rcases I i hi with h|h<;>omega
    .rcases J.new i m (.inl (by omega))with h|h<;>omega
   .rcases K.new i o (.inl (by omega))with h|h<;>omega
  .exact .inl (qA (by omega))
 .rw[sM (by omega)];exact q i hi
theorem R0(Me:jM P S){enc limit depth:Int}{b:Sl}(hb:kB .u8 h b l)(hl:l.length<=1073741824) :
  aS P (sO S (enc,limit,depth,b,())) [tP, tB] h λ(y:OA×Bool×Unit) j=>y.2.1=true/\((∃e,e≠0/\Cz enc limit depth l e/\y.1=none) \/
   ∃(p:Addr) (n:Nat) (X:Bk) (D:Doc) (M:Mo),y.1=some p/\∀k rho,∃B,qE k h rho j B/\(∀i,i<h.size->B i=rho i)/\fZ S n k B j p X D ⟨none,0,0⟩ ⟨none,0,0⟩ [] []/\Gj X D M 0):=by
 unfold sO aS;refine λel=>?_;have O:Ext h (h.push (.cells [aH enc,aH limit,aH depth,dG b].toArray el)):=Ext.push ..;have oo:cC h.size 1 (h.push (.cells [aH enc,aH limit,aH depth,dG b].toArray el)) ⟨some ⟨h.size,0,none⟩,4,4⟩ [aH enc,aH limit,aH depth,dG b]:=bX rfl (by decide) (by decide);show wp P _ (h.push (.cells [aH enc,aH limit,aH depth,dG b].toArray el)) _;generalize h.push (.cells [aH enc,aH limit,aH depth,dG b].toArray el)=v at O oo⊢;have gg:=O.1;have a3:=hb.ext O;have ey:aQ b.len=(l.length:Int):=by rw[aN,hb.len]
 refine bY (b:=.sl) b rfl oo.cells rfl (bY (b:=.sl) b rfl oo.cells rfl ?_);refine uJ (bR.nil v.size .u8 v) (bL _) a3 (by simp;omega) (by simp;omega) λq0 h2 k2 o2 u2 b2 _=>?_;have e2:Ext v h2:=jE.jA (Ext.refl v) u2 λa ha=>by cases ha
 have o2:bR v.size .u8 h2 q0 l:=o2;refine bO (λ(x:Sl×Int×Unit) j=>Ext v j/\∃(i:Nat) (m:aW),x.2.1=i/\i<=40/\m.length=l.length+i/\m.take l.length=l/\bR v.size .u8 j x.1 m) (λx _=>((40:Int)-x.2.1).toNat)
  (λt vs j=>Ext v j/\t=2/\∃q m,vs=[dG q]/\m.length=l.length+40/\m.take l.length=l/\bR v.size .u8 j q m) ⟨e2,0,l,rfl,by omega,rfl,fA,o2⟩ ?_ ?_
 .rintro⟨(q:Sl),(si:Int),u⟩ h2 ⟨e2,i,m,hi,hle,bo,Z,o⟩
  dsimp only at hi o⊢;subst hi;refine aG (λd=>?_) λd=>?_
  .rw[aV]at d
   refine jG (k:=.u8) [0] (by intro z hz;rw[dE.1 hz];exact vV.2 (by omega)) (by simp) λh3 K U=>?_;have o':=(aY.bH (F:=λ_=>False) K).pW o λ_ _ x=>x;refine uJ o' (by have:=e2.1;have:=K.1;omega) U.kZ (by simp;omega) (by simp;omega) λq' h4 k4 o4 u4 b4 _=>?_;rw[bG (by omega) (by omega)];refine aC ⟨λ_=>⟨(q',(i:Int)+1,()),rfl,⟨jE.jA (e2.trans K) u4 λa ha=>(o'.own.lt ha).1,i+1,m++[0],by push_cast;rfl,by omega,by simp;omega,?_,o4⟩,by dsimp only;omega⟩,λA=>absurd rfl A⟩;rw[Aa (by omega)];exact Z
  .rw[aZ]at d
   have:i=40:=by omega
   subst this;exact aC ⟨λA=>absurd A (by decide),λ_=>⟨e2,rfl,q,m,rfl,bo,Z,o⟩⟩
 rintro t vs h3 ⟨K,rfl,q,m,rfl,bo,Z,o⟩;refine bK (lZ ?_);have fm:=o.own.2.1;have ct:=o.own.2.2.1;have hlen:=o.len;refine aL (iQ (by rw[aN];omega) (by rw[aN];exact nJ _)) ?_;dsimp only;have bb:bF q.aD q.cap 0 1=q.aD:=eQ ..;have hM:cV q.cap 0=q.cap:=rfl;have hN:aQ (cV (bP (aQ q.cap)) 0)=(q.cap:Int):=rfl;rw[bb,hN,hM,bb,ey];obtain⟨ws,ow⟩:=Nr o.own;have b9:ws.length=q.cap-m.length:=by have:=ow.1;rw[bM,cD]at this;dsimp only at this;omega
 have er:m=l++m.drop l.length:=by conv=>lhs;rw[<-eX l.length m,Z]
 obtain⟨rest,al⟩:∃rest:bE,rest=(m.drop l.length).map (.int .u8)++ws:=⟨_,rfl⟩;have gf:rest.length=q.cap-l.length:=by rw[al,bM,cD,cZ];omega
 have b1:cC v.size 1 h3 ⟨q.aD,q.cap,q.cap⟩ (l.map (.int .u8)++rest):=by
  rw[al,<-eC,<-dL,<-er];exact ow
 obtain⟨n,hn⟩:∃n,q.cap=l.length+n:=⟨q.cap-l.length,by omega⟩;have a5:∃a,q.aD=some a:=by
  cases hb:q.aD with
  |none=>
   have:=ow.2.2.2;rw[hb]at this;have:q.cap=0:=this;omega
  |some a=>exact⟨a,rfl⟩
 obtain⟨qa,ea⟩:=a5;refine bO (λ(x:Int×Unit) j=>Ext v j/\∃i:Nat,x.1=((l.length+i:Nat):Int)/\i<=n/\cC v.size 1 j ⟨q.aD,q.cap,q.cap⟩ (l.map (.int .u8)++(Tz l.length i).map (.int .u8)++rest.drop i)) (λx _=>((q.cap:Int)-x.1).toNat)
  (λt vs j=>Ext v j/\t=4/\vs=[]/\cC v.size 1 j ⟨q.aD,q.cap,q.cap⟩ (l.map (.int .u8)++(Tz l.length n).map (.int .u8))) ⟨K,0,rfl,cS _,by simpa[Tz] using b1⟩ ?_ ?_
 .rintro⟨(si:Int),u⟩ h3 ⟨K,i,hi,hle,U⟩
  dsimp only at hi⊢;subst hi;refine aG (λd=>?_) λd=>?_
  .rw[aV]at d
   have Y:i<n:=by omega
   refine aL (fD.2 ⟨by rw[ea];rfl,lR.2 ⟨by omega,by show((l.length+i:Nat):Int)<((q.cap:Nat):Int);omega⟩⟩) ?_;have hd:rest.drop i=(rest[i]'(by omega))::rest.drop (i+1):=gK (by omega);have e4:cC v.size 1 h3 ⟨q.aD,q.cap,q.cap⟩ ((l.map (.int .u8)++(Tz l.length i).map (.int .u8))++[rest[i]'(by omega)]++rest.drop (i+1)):=by
    rw[hd]at U;simpa using U
   have cx:bB (bP ((l.length+i:Nat):Int)) 1=(l.map (Value.int .u8)++(Tz l.length i).map (Value.int .u8)).length:=by
    rw[bM,cD,cD,QC,gX,eR,cN];omega
   rw[cx];refine rD (s:=⟨q.aD,q.cap,q.cap⟩) (mid:=[rest[i]'(by omega)]) [.int .u8 (dA .u8 (aT .i64 167 ((l.length+i:Nat):Int)))] e4 rfl rfl (by simp) (by intro x C;rw[dE.1 C];rfl) λh4 o4 u4 z4=>?_;rw[bG (a:=((l.length+i:Nat):Int)) (b:=1) (by omega) (by omega)];refine aC ⟨λ_=>⟨(((l.length+i:Nat):Int)+1,()),rfl,⟨jE.jA K u4 λx C=>(U.lt C).1,i+1,by push_cast;omega,by omega,?_⟩,by dsimp only;omega⟩,λA=>absurd rfl A⟩;rw[YX,dL];simpa using o4
  .rw[aZ]at d
   have:i=n:=by omega
   subst this;rw[tY (by omega),jX]at U;exact aC ⟨λA=>absurd A (by decide),λ_=>⟨K,rfl,rfl,U⟩⟩
 rintro t vs h6 ⟨E,rfl,rfl,cc⟩;refine bK (bV ?_);have o6:bR v.size .u8 h6 ⟨q.aD,q.cap,q.cap⟩ (l++Tz l.length n):=⟨by rw[dL];exact cc,λx C=>by
  rcases dD.1 C with C|C
  .exact hb.wf x C
  .exact YW x C⟩
 clear cc b1 ow;have gv:=E.1;have ao:=oo.ext E;have b8:kB .u8 h6 ⟨q.aD,cV (bP (l.length:Int)) 0,cV q.cap 0⟩ l:=by
  have:=o6.kZ.take (n:=l.length) (m:=q.cap) (by rw[bM];omega) (by omega) ct;rw[Aa (bL _),fA]at this;rw[eR,cN];exact this
 have bd:wK (l.length:Int) q.cap=true:=iQ (by omega) (by omega);refine bY (b:=bI) enc rfl ao.cells rfl (aL bd ?_);refine bY (b:=bI) limit rfl ao.cells rfl (bY (b:=bI) depth rfl ao.cells rfl ?_);refine aM (av Me (enc:=enc) (limit:=limit) (depth:=depth) b8) λ⟨(bp:OA),(be:Int),_⟩ h7 J hB=>?_;have hB:Da S h6 h7 enc limit depth l bp be:=hB;have L:=ao.ext J;refine bY (b:=bI) enc rfl L.cells rfl (bY (b:=.sl) b rfl L.cells rfl ?_);refine bY (b:=bI) limit rfl L.cells rfl (bY (b:=bI) depth rfl L.cells rfl ?_);have a6:=E.trans J;refine aM (jz (enc:=enc) (limit:=limit) (depth:=depth) (a3.ext a6) hl) λ⟨(dp:OA),(de:Int),_⟩ h8 H hD=>?_;obtain⟨a9,ba,a1⟩:=hD;obtain⟨hE,eh⟩:=ak hB;have ei:de=be:=Cz.fn a9 hE;dsimp only at a9 ba a1;subst ei;have fl:=L.ext H;have W:(de≠0/\bp=none/\dp=none)\/(de=0/\∃(X:Bk) (D:Doc),bp=some X.b/\dp=some D.b):=by
  by_cases h0:de=0
  .subst h0
   obtain⟨X,hX,_⟩:=RU hB;obtain⟨D,a2,_⟩:=a1 rfl;exact .inr ⟨rfl,X,D,hX,a2⟩
  .exact .inl ⟨h0,eh h0,ba h0⟩
 have b0:fI bp=fI dp:=by
  rcases W with⟨_,v,h2⟩|⟨_,X,D,v,h2⟩<;>rw[v,h2]<;>rfl
 have fv:=H;have o8:bR v.size .u8 h8 ⟨q.aD,q.cap,q.cap⟩ (l++Tz l.length n):=(aY.bH (F:=λ_=>False) (J.trans H)).pW o6 λ_ _ f=>f;refine iO (tys:=[tB]) (λ(y:Bool×Unit) _=>y.1=false) ?_ λ⟨(y:Bool),_⟩ h9 e9 R=>?_
 .refine aM GZ λ⟨(a:Int),_⟩ g e ha=>?_
  have ha:a=de:=ha;subst ha;refine aG (λd=>by rw[lB]at d;exact absurd rfl d) λ_=>?_;refine aG (λd=>by rw[b0]at d;unfold cO Yp at d;simp at d) λ_=>?_;refine aL bd ?_;have e6:kB .u8 g ⟨q.aD,cV (bP (l.length:Int)) 0,cV q.cap 0⟩ l:=b8.ext ((J.trans H).trans e);refine VO e6 (bY (b:=.sl) b rfl (fl.ext e).cells rfl (VO (((a3.ext a6).ext H).ext e) ?_));refine aC ⟨rfl,e,(_,()),rfl,?_⟩;show cO (WG _ _)=false;rw[kc hb.wf hb.wf];simp[cO]
 have R:y=false:=R;subst R;refine aG (λd=>by cases d) λ_=>?_;have o9:=(aY.bH (F:=λ_=>False) e9).pW o8 λ_ _ f=>f;refine bO (λ(x:Int×Unit) j=>j=h9/\∃i:Nat,x.1=((l.length+i:Nat):Int)/\i<=n) (λx _=>((q.cap:Int)-x.1).toNat)
  (λt vs j=>j=h9/\t=6/\vs=[]) ⟨rfl,0,rfl,cS _⟩ ?_ ?_
 .rintro⟨(si:Int),u⟩ g ⟨rfl,i,hi,hle⟩
  dsimp only at hi⊢;subst hi;refine aG (λd=>?_) λd=>aC ⟨λA=>absurd A (by decide),λ_=>⟨rfl,rfl,rfl⟩⟩;rw[aV]at d;have Y:i<n:=by omega
  refine qM (s:=⟨q.aD,q.cap,q.cap⟩) o9.kZ (by omega) (by rw[bM,QC];omega) λ_=>?_;have hv:(l++Tz l.length n).getD ((l.length+i:Nat):Int).toNat 0=dA .u8 (aT .i64 167 ((l.length+i:Nat):Int)):=by
   rw[cN,gF,jK (by omega),show l.length+i-l.length=i by omega,dq Y];rfl
  rw[hv];refine aG (λbs=>by rw[lB]at bs;exact absurd rfl bs) λ_=>?_;rw[bG (a:=((l.length+i:Nat):Int)) (b:=1) (by omega) (by omega)];exact aC ⟨λ_=>⟨(((l.length+i:Nat):Int)+1,()),rfl,⟨rfl,i+1,by push_cast;omega,by omega⟩,by dsimp only;omega⟩,λA=>absurd rfl A⟩
 rintro t vs g ⟨rfl,rfl,rfl⟩;refine bK (bV ?_);have c7:=(J.trans H).trans e9;have c5:=(O.trans E).trans c7;refine iO (tys:=[tB]) (λ(y:Bool×Unit) _=>y.1=fI bp) ?_ λ⟨(y:Bool),_⟩ a7 aw R=>?_
 .refine aG (λd=>aC ⟨rfl,Ext.refl _,(true,()),rfl,d.symm⟩) λd=>aC ⟨rfl,Ext.refl _,(_,()),rfl,b0.symm⟩
 have R:y=fI bp:=R;subst R;rcases W with⟨h0,dr,fy⟩|⟨h0,_⟩
 .rw[dr]
  exact aG (λ_=>aC ⟨rfl,c5.trans aw,(none,true,()),rfl,rfl, .inl ⟨de,h0,hE,rfl⟩⟩) λd=>by cases d
 subst h0;obtain⟨X,hX,cf,cr,a8⟩:=RU hB;obtain⟨D,a2,ds,dx,ec,eg⟩:=a1 rfl;subst hX;subst a2;refine aG (λd=>by cases d) λ_=>?_;have fj:=(aY.bH (F:=λ_=>False) aw).pW o9 λ_ _ f=>f;have cd:=e9.trans aw;refine bO (λ(x:Int×Unit) j=>∃(i:Nat) (w:aW),x.1=i/\i<=q.cap/\w.length=q.cap/\aY (iE q) a7 j/\bR v.size .u8 j ⟨q.aD,q.cap,q.cap⟩ w) (λx _=>((q.cap:Int)-x.1).toNat)
  (λt vs j=>t=8/\vs=[]/\aY (iE q) a7 j) ⟨0,_,rfl,cS _,by rw[bM,QC];omega,aY.refl _ _,fj⟩ ?_ ?_
 .rintro⟨(si:Int),u⟩ g ⟨i,w,hi,hle,b9,c,ow⟩
  dsimp only at hi⊢;subst hi;refine aG (λd=>?_) λd=>aC ⟨λA=>absurd A (by decide),λ_=>⟨rfl,rfl,c⟩⟩;rw[aV]at d;refine tq (s:=⟨q.aD,q.cap,q.cap⟩) ow (by omega) (range_u8 _) λg' o' c' z'=>?_;rw[bG (a:=(i:Int)) (b:=1) (by omega) (by omega)];exact aC ⟨λ_=>⟨((i:Int)+1,()),rfl,⟨i+1,_,by push_cast;rfl,by omega,by rw[FL];exact b9,c.trans c' λ_ _ h=>h,o'⟩,by dsimp only;omega⟩,λA=>absurd rfl A⟩
 rintro t vs c9 ⟨rfl,rfl,c4⟩;refine bK (bV ?_);have c8:aY (iE q) h8 c9:=(aY.bH cd).trans c4 λ_ _ f=>f;have b3:∀a,q.aD=some a->h.size<=a.block/\a.block<h6.size:=λa ha=>by have:=o6.own.lt (a:=a) ha;omega
 have new:=λk rho {g} (cg:aY (iE q) h8 g)=>Ze (h0:=h) (h1:=v) (enc:=enc) (limit:=limit) (depth:=depth) (l:=l) (O.trans E) J H b3 a8 eg k rho cg;obtain⟨rt,_,_,_,bt,_⟩:=new 0 (λ_=>0) c8;refine aM (Vc bt) λ⟨(tp:OA),_⟩ r c6 ht=>?_;have ht:tp=some X.T.p:=ht;subst ht;have V:aY (iE q) h8 r:=c8.trans (aY.bH c6) λ_ _ f=>f;refine λel=>?_;have I:Ext r (r.push (.cells [Value.pointer (some X.b), .pointer (some X.T.p), .pointer (some D.b), .slice none 0 0, .slice none 0 0].toArray el)):=Ext.push ..;have a4:cC r.size 1 (r.push (.cells [Value.pointer (some X.b), .pointer (some X.T.p), .pointer (some D.b), .slice none 0 0, .slice none 0 0].toArray el)) ⟨some ⟨r.size,0,none⟩,5,5⟩ [Value.pointer (some X.b), .pointer (some X.T.p), .pointer (some D.b), .slice none 0 0, .slice none 0 0]:=bX rfl (by decide) (by decide);show wp P _ (r.push (.cells [Value.pointer (some X.b), .pointer (some X.T.p), .pointer (some D.b), .slice none 0 0, .slice none 0 0].toArray el)) _;generalize r.push (.cells [Value.pointer (some X.b), .pointer (some X.T.p), .pointer (some D.b), .slice none 0 0, .slice none 0 0].toArray el)=df at I a4⊢;have s8:=V.1;have gm:=I.1;have gw:=(J.trans H).1;have a0:Ext h df:=by
  refine⟨by omega,λi hi=>?_,λa ha=>I.2.2 a (V.2.2 a (((O.trans E).trans (J.trans H)).2.2 a ha))⟩;rw[I.2.1 i (by omega),V.2.1 i (by omega) λ⟨a,ha,e⟩=>by have:=b3 a ha;omega];exact((O.trans E).trans (J.trans H)).2.1 i hi
 refine aC ⟨rfl,a0,(some ⟨r.size,0,none⟩,true,()),rfl,rfl, .inr ⟨⟨r.size,0,none⟩,h6.size,X,D,Mo.new (gT 0 0 (bC enc l)) depth,rfl,λk rho=>?_⟩⟩;obtain⟨B,r1,r2,r3,bk,dk⟩:=new k rho V;obtain⟨_,_,_,_,inv⟩:=a8 k rho;have ft:=(a4.lt rfl).2;obtain⟨G,ab,b6,e5⟩:∃G:Nat->Nat,(∀i,i<r.size->G i=B i)/\G r.size=k+23/\∀i,i≠r.size->G i=B i:=
  ⟨λi=>if i=r.size then k+23 else B i,λi hi=>if_neg (by omega),if_pos rfl,λi hi=>if_neg hi⟩
 refine⟨G,⟨aY.bH a0,λi hi _=>?_,λi hi C=>?_⟩,λi hi=>?_,⟨?_,?_,⟨a4.mono (cS _),λa ha=>by cases ha;exact b6⟩,⟨cC.nil .., λa ha=>by cases ha⟩,⟨bR.nil .., λa ha=>by cases ha⟩⟩,⟨inv,ec,ds.trans cf.symm,dx.trans cr.symm⟩⟩
 .rw[ab i (by omega)];exact r1 i hi
 .by_cases hp:i=r.size
  .rw[hp,b6];exact .inr (by omega)
  .rw[e5 i hp]
   by_cases Y:i<h.size
   .rw[r1 i Y]
    rcases C with C|C
    .omega
    .exact .inr C
   .exact r2 i (by omega)
 .rw[ab i (by omega)];exact r1 i hi
 .exact bk.other (aY.bH (F:=λ_=>False) I) (λ_ _ f=>f.elim) λi hi _=>ab i hi
 .exact dk.aP (aY.bH (F:=λ_=>False) I) (λ_ _ f=>f.elim) λi hi _=>ab i hi
end
section
variable{P:Program}{S:cG}{h:aE}{Q:Nat->bE->aE->Prop}
theorem PW{h1 b:aE}{F:Nat->Prop}(e:Ext h h1)(c:aY F h1 b)(d:∀i,i<h.size->¬F i):Ext h b:=by
 have s1:=e.1;refine⟨dI e.1 c.1,λi hi=>?_,λa ha=>c.2.2 a (e.2.2 a ha)⟩;rw[c.2.1 i (by omega) (d i hi)];exact e.2.1 i hi
theorem mg{n:Nat}{s:Sl}{l:List af}(o:cC n 6 h s (l.flatMap Y7))(e:∀y∈l,qY.ok h y):(Sh.list qY).ok h (s,l):=by
 have c:=o.1;rw[fT (f:=Y7) (m:=6) λ_=>rfl]at c;refine⟨by show s.len=l.length;omega,o.2.1,o.2.2.1,λi y hi=>?_⟩;obtain⟨a,ea,d⟩:=uH (f:=Y7) (m:=6) (λ_=>rfl) (by decide) o hi;refine⟨a,ea,aI.2 λj v b=>?_,e y (eL hi)⟩;refine aI.1 d j v ?_
 match j,b with
 |0,b=>exact b
 |1,b=>exact b
 |2,b=>exact b
 |3,b=>exact b
 |4,b=>exact b
 |5,b=>exact b
 |j+6,b=>simp[Sh.cells]at b
abbrev Y4:Gr:=(⟨none,0,0⟩,[])
abbrev Li(kd nm at_:Int)(e:Gr):af:=(kd,0,nm,at_,e,(⟨none,0,0⟩,[]),())
theorem dt{b nm at_:Int}{e:Gr}(h1:0<=b/\b<=100)(c:0<=nm/\nm<=100)(d:0<=at_/\at_<=100)(he:(Sh.list jD).ok h e):qY.ok h (Li b nm at_ e):=
 ⟨eO.2 (by show -9223372036854775808<=b/\b<=9223372036854775807;omega),eO.2 (by show(-9223372036854775808:Int)<=0/\(0:Int)<=9223372036854775807;omega),eO.2 (by show -9223372036854775808<=nm/\nm<=9223372036854775807;omega),eO.2 (by show -9223372036854775808<=at_/\at_<=9223372036854775807;omega),he,⟨rfl,bL _,(by show(0:Nat)<2^63;decide),λi y hi=>by simp at hi⟩,trivial⟩
theorem mf:(Sh.list jD).ok h Y4:=⟨rfl,bL _,by decide,λi y hi=>by simp at hi⟩
abbrev wX(a:Addr):List af:=[Li 10 0 0 Y4,Li 1 0 0 Y4,Li 2 0 0 (⟨some a,1,1⟩,[(0,1,(⟨none,0,0⟩,[]),())]),Li 10 0 0 Y4,Li 16 0 0 Y4,Li 3 0 1 Y4,Li 15 0 0 Y4,Li 7 97 1 Y4,Li 5 0 0 Y4,Li 10 0 0 Y4,Li 12 97 0 Y4]
theorem bj(O:jM P S)(C:V8 P S)(C0:Cl0 P S)(Ct:Xv P S):aS P (Am S) [tB] h λ(y:Bool×Unit) _=>y.1=true:=by
 unfold Am aS;refine λel=>?_;have G:Ext h (h.push (.cells [Value.int .u8 65,Value.int .u8 66].toArray el)):=Ext.push ..;have o1:cC h.size 1 (h.push (.cells [Value.int .u8 65,Value.int .u8 66].toArray el)) ⟨some ⟨h.size,0,none⟩,2,2⟩ [Value.int .u8 65,Value.int .u8 66]:=bX rfl (by decide) (by decide);show wp P _ (h.push (.cells [Value.int .u8 65,Value.int .u8 66].toArray el)) _;generalize h.push (.cells [Value.int .u8 65,Value.int .u8 66].toArray el)=m at G o1⊢;have b1:bR h.size .u8 m ⟨some ⟨h.size,0,none⟩,2,2⟩ [65,66]:=⟨o1,λx hx=>by
  simp only[eJ,lU,or_false]at hx;rcases hx with rfl|rfl<;>exact vV.2 (by omega)⟩
 refine λel=>?_;have R:Ext m (m.push (.cells [aH 0,aH 0,aH 0,Value.slice none 0 0].toArray el)):=Ext.push ..;have o2:cC m.size 1 (m.push (.cells [aH 0,aH 0,aH 0,Value.slice none 0 0].toArray el)) ⟨some ⟨m.size,0,none⟩,4,4⟩ [aH 0,aH 0,aH 0,Value.slice none 0 0]:=bX rfl (by decide) (by decide);show wp P _ (m.push (.cells [aH 0,aH 0,aH 0,Value.slice none 0 0].toArray el)) _;generalize m.push (.cells [aH 0,aH 0,aH 0,Value.slice none 0 0].toArray el)=h2 at R o2⊢;refine DE [aH 1,aH 9,aH 1, .slice (some ⟨h.size,0,none⟩) 2 2] o2 rfl (by intro v hv;simp only[eJ,lU,or_false]at hv;rcases hv with rfl|rfl|rfl|rfl<;>rfl) λW o3 u3 z3=>?_;have H:Ext m W:=jE.jA R u3 λa ha=>by cases ha;exact bL _
 refine B3 (bs:=[.int .i64, .int .i64, .int .i64, .sl]) (1,9,1,⟨some ⟨h.size,0,none⟩,2,2⟩,()) o3 rfl ?_;have b3:bR h.size .u8 W ⟨some ⟨h.size,0,none⟩,2,2⟩ [65,66]:=(aY.bH (F:=λ_=>False) H).pW b1 λ_ _ f=>f;refine aM (R0 O (enc:=1) (limit:=9) (depth:=1) b3.kZ (fO rfl)) λ⟨(pp:OA),(yy:Bool),_⟩ r T B=>?_;obtain⟨t,u⟩:=B;have t:yy=true:=t;subst t;have a4:=G.1;have a5:=H.1;have a7:=T.1;rcases u with⟨e,he,hE,_⟩|⟨p,n,X,D,M,K,u⟩
 .exact absurd (Cz.fn hE (.ok (by omega) (by unfold eE;omega) (by omega) (by show(2:Int)<=9;omega))) he
 have K:pp=some p:=K;subst K;obtain⟨z,bd,L,q4,bo⟩:=u 0 (λ_=>0);refine bW False (aG (λJ=>by cases J) λ_=>aC ⟨rfl,Ext.refl _,false,rfl,Iff.intro (λh=>by cases h) False.elim⟩) λbb d U Z=>?_;refine aG (λJ=>(Z.1 J).elim) λ_=>?_;refine λel=>?_;have I:Ext d (d.push (.cells [aH 0,aH 1,Value.slice none 0 0].toArray el)):=Ext.push ..;have o6:cC d.size 3 (d.push (.cells [aH 0,aH 1,Value.slice none 0 0].toArray el)) ⟨some ⟨d.size,0,none⟩,1,1⟩ [aH 0,aH 1,Value.slice none 0 0]:=bX rfl (by decide) (by decide);show wp P _ (d.push (.cells [aH 0,aH 1,Value.slice none 0 0].toArray el)) _;generalize d.push (.cells [aH 0,aH 1,Value.slice none 0 0].toArray el)=j at I o6⊢;generalize Y:(⟨d.size,0,none⟩:Addr)=b at o6⊢;have a2:b.block=d.size:=by rw[<-Y]
 refine λel=>?_;have a3:(wX b).flatMap Y7=_:=rfl;have A:Ext j (j.push (.cells ((wX b).flatMap Y7).toArray el)):=Ext.push ..;have o7:cC j.size 6 (j.push (.cells ((wX b).flatMap Y7).toArray el)) ⟨some ⟨j.size,0,none⟩,11,11⟩ ((wX b).flatMap Y7):=bX rfl (by decide) (by decide);show wp P _ (j.push (.cells ((wX b).flatMap Y7).toArray el)) _;generalize j.push (.cells ((wX b).flatMap Y7).toArray el)=h7 at A o7⊢;have a8:=U.1;have a9:=I.1;have ba:=A.1;have E:=(U.trans I).trans A;have q7:=q4.ext E;have ao:=o6.ext A;have z7:∀i,i<h.size\/r.size<=i->Hist.zr r z i=0:=λi hi=>by
  by_cases ab:i<r.size
  .rw[sM ab];exact L i (by omega)
  .exact qA (by omega)
 have al:Mc (λh=>(Sh.list qY).ok h ((⟨some ⟨j.size,0,none⟩,11,11⟩,wX b):j_)) (Hist.zr r z) h7:=λg c=>by
  have og:=c.own o7 λa ha q=>by cases ha;rw[z7 _ (.inr (by show r.size<=j.size;omega))]at q;exact absurd q (HB 0)
  have aw:=c.own ao λa ha q=>by cases ha;rw[z7 _ (.inr (by omega))]at q;exact absurd q (HB 0)
  have oe:(Sh.list jD).ok g ((⟨some b,1,1⟩,[(0,1,(⟨none,0,0⟩,[]),())]):Gr):=L6.ok (n:=d.size) ⟨aw,λe he=>by
   rw[dE.1 he];exact⟨bR.nil .., eO.2 (by show(-9223372036854775808:Int)<=0/\(0:Int)<=9223372036854775807;omega),eO.2 (by show(-9223372036854775808:Int)<=1/\(1:Int)<=9223372036854775807;omega)⟩⟩
  refine mg og λy B=>?_;simp only[wX,eJ,lU,or_false]at B;rcases B with rfl|rfl|rfl|rfl|rfl|rfl|rfl|rfl|rfl|rfl|rfl<;>exact dt (by omega) (by omega) (by omega) (by first|exact mf|exact oe)
 refine eU (Vi O C C0 Ct (x:=((⟨some ⟨j.size,0,none⟩,11,11⟩,wX b):j_)) q7 bo al (by show 0+((wX b).map RD).sum<=1048576;have:((wX b).map RD).sum=11:=rfl;omega) (fO rfl) (λo s=>?_) λ_ _ ⟨o,s,V⟩=>?_) λtg w h8 hq=>?_
 rotate_left
 .exfalso
  simp only[wX,eJ,lU,or_false]at s;rcases s with rfl|rfl|rfl|rfl|rfl|rfl|rfl|rfl|rfl|rfl|rfl<;>simp at V
 rotate_left
 .simp only[wX,eJ,lU,or_false]at s
  rcases s with rfl|rfl|rfl|rfl|rfl|rfl|rfl|rfl|rfl|rfl|rfl<;>exact fO rfl
 obtain⟨rfl,rfl,M8,a1,X8,D8,s1,s2,v1,l1,a0,_⟩:=hq;refine⟨rfl,(true,()),rfl,aC ⟨rfl,?_,(true,()),rfl,rfl⟩⟩;exact PW (((G.trans H).trans T).trans E) a0.c λi hi q=>by rw[z7 i (.inl hi)]at q;omega
abbrev Gs:Sh:=.str (.pair (.int .i64) (.pair (.int .i64) (.pair (.int .i64) (.pair (.list (.int .u8)) .unit))))
abbrev Wa:=Int×Int×Int×(Sl×aW)×Unit
abbrev ez(y:Wa):Int×Int×Int×Sl×Unit:=(y.1,y.2.1,y.2.2.1,y.2.2.2.1.1,())
abbrev ND(y:Wa):bE:=[aH y.1,aH y.2.1,aH y.2.2.1,dG y.2.2.2.1.1]
theorem ny{y:Wa}(hw:Gs.wt y<=1048577):y.2.2.2.1.2.length<=1073741824:=by
 have b:=P7 (k:=.u8) y.2.2.2.1;have c:Gs.wt y=(1+(1+(1+((Sh.list (.int .u8)).wt y.2.2.2.1+0))))+1:=rfl;omega
theorem fa{y:Wa}(ok:Gs.ok h y):kB .u8 h y.2.2.2.1.1 y.2.2.2.1.2:=Sh.kZ (x:=y.2.2.2.1) ok.2.2.2.1
theorem bn(E:jM P S)(C:V8 P S)(G:Cl0 P S)(H:Xv P S){y:Wa}{x:j_}{lo hi:Int}(Z:lo<=13->13<=hi->Lo P S)(V:Gs.ok h y)(w0:Gs.wt y<=1048577)(B:(Sh.list qY).ok h x)(w1:(Sh.list qY).wt x<=1048577) :
  aS P (uX S (ez y) x.1 lo hi) [tB] h λ(b:Bool×Unit) _=>b.1=true:=by
 obtain⟨x1,Y,x3⟩:=mh w1;have hl:=ny w0;have hb:=fa V;unfold uX aS;refine λel=>?_;have v:Ext h (h.push (.cells (ND y).toArray el)):=Ext.push ..;have o1:cC h.size 1 (h.push (.cells (ND y).toArray el)) ⟨some ⟨h.size,0,none⟩,4,4⟩ (ND y):=bX rfl (by decide) (by decide);show wp P _ (h.push (.cells (ND y).toArray el)) _;generalize h.push (.cells (ND y).toArray el)=h1 at v o1⊢;refine bY (b:=.sl) y.2.2.2.1.1 rfl o1.cells rfl ?_;refine aM (bl (Sh.ok.ext (s:=.list qY) v B) Y) λ⟨(ft:Bool),_⟩ h2 K _=>?_;refine aG (λ_=>aC ⟨rfl,v.trans K,(true,()),rfl,rfl⟩) λ_=>?_;refine aM (bj E C G H) λ⟨(al:Bool),_⟩ h3 e3 o=>?_;have o:al=true:=o;subst o;have A:=K.trans e3;refine B3 (bs:=[.int .i64, .int .i64, .int .i64, .sl]) (ez y) (o1.ext A) rfl ?_;have j:=v.trans A;refine aM (R0 E (enc:=y.1) (limit:=y.2.1) (depth:=y.2.2.1) (hb.ext j) hl) λ⟨(pp:OA),(yy:Bool),_⟩ R L hy=>?_;obtain⟨q,r⟩:=hy;have q:yy=true:=q;subst q;have I:=j.trans L;refine bW False (aG (λd=>by cases d) λ_=>aC ⟨rfl,Ext.refl _,false,rfl,Iff.intro (λh=>by cases h) False.elim⟩) λbb h5 O T=>?_;refine aG (λd=>(T.1 d).elim) λ_=>?_;have m:=I.trans O;refine eN (λt w h'=>t=0/\w=[.bool true]/\Ext h h') ?_ ?_
 .rcases r with⟨e,he,hE,f⟩|⟨p,n,X,D,M,f,r⟩
  .have f:pp=none:=f
   subst f;exact aG (λ_=>aC ⟨rfl,rfl,m⟩) λd=>by cases d
  have f:pp=some p:=f;subst f;refine aG (λd=>by cases d) λ_=>?_;obtain⟨u,a0,F,q4,bo⟩:=r 0 (λ_=>0);have q5:=q4.ext O;have ao:=j.1;have aw:=L.1;have z5:∀i,i<h.size->Hist.zr R u i=0:=λi hi=>by
   rw[sM (by omega)];exact F i (by omega)
  have U:Mc (λh=>(Sh.list qY).ok h x) (Hist.zr R u) h5:=λg c=>
   Sh.ok.ext (s:=.list qY) (PW m c λi hi z=>by rw[z5 i hi]at z;exact absurd z (HB 0)) B
  refine eU (Vi E C G H (x:=x) q5 bo U (by omega) Y x3 λa b _=>Z a b) λtg w h8 hq=>?_;obtain⟨rfl,rfl,M8,ab,X8,D8,s1,s2,v1,l1,W,_⟩:=hq;exact⟨rfl,(true,()),rfl,aC ⟨rfl,rfl,PW m W.c λi hi z=>by rw[z5 i hi]at z;omega⟩⟩
 .rintro t w h6 ⟨rfl,rfl,J⟩
  exact bK (jQ (aC ⟨rfl,J,(true,()),rfl,rfl⟩))
section laws
variable{y:Wa}{x:j_}
theorem Wp(o:jM P S)(C:V8 P S)(g:Cl0 P S)(m:Xv P S)(e:Gs.ok h y)(w0:Gs.wt y<=1048577)(f:(Sh.list qY).ok h x)(w1:(Sh.list qY).wt x<=1048577)(lo hi:Int)(j:lo<=13->13<=hi->Lo P S) :
  aS P (.alloc (ND y) λ(q:Addr)=>.load (.agg [.int .i64, .int .i64, .int .i64, .sl]) (some q) λ(d:Int×Int×Int×Sl×Unit)=>
   .call (uX S (d.1,d.2.1,d.2.2.1,d.2.2.2.1,()) x.1 lo hi) [tB] λ(t:Bool×Unit)=>.ret 0 [.bool t.1]) [tB] h λ(b:Bool×Unit) _=>b.1=true:=by
 unfold aS;refine λel=>?_;have c:Ext h (h.push (.cells (ND y).toArray el)):=Ext.push ..;have o1:cC h.size 1 (h.push (.cells (ND y).toArray el)) ⟨some ⟨h.size,0,none⟩,4,4⟩ (ND y):=bX rfl (by decide) (by decide);show wp P _ (h.push (.cells (ND y).toArray el)) _;generalize h.push (.cells (ND y).toArray el)=u at c o1⊢;refine B3 (bs:=[.int .i64, .int .i64, .int .i64, .sl]) (ez y) o1 rfl ?_;exact aM (bn o C g m j (Sh.ok.ext (s:=Gs) c e) w0 (Sh.ok.ext (s:=.list qY) c f) w1) λ⟨(b:Bool),_⟩ v r hb=>aC ⟨rfl,c.trans r,(b,()),rfl,hb⟩
theorem K3(g:jM P S)(C:V8 P S)(e:Cl0 P S)(f:Xv P S)(c:Gs.ok h y)(w0:Gs.wt y<=1048577)(d:(Sh.list qY).ok h x)(w1:(Sh.list qY).wt x<=1048577):aS P (yO S (ez y) x.1) [tB] h λ(b:Bool×Unit) _=>b.1=true:=Wp g C e f c w0 d w1 _ _ λa b=>absurd (And.intro a b) (by decide)
end laws
end
section
variable{P:Program}{S:cG}{h:aE}{Q:Nat->bE->aE->Prop}{k:Nat}{rho:Nat->Nat}
end
end Go.Sw.Hist
