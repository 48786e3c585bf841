
/- Steps. -/
import Derived.Test.YtncolficnfcdcaaGreatSwG2
set_option linter.unusedVariables false
set_option linter.unusedSimpArgs false
set_option maxRecDepth 100000
set_option maxHeartbeats 1000000
namespace Go.Sw.Hist
open Go.Sw.Any Go.Sw.Codec Go.Sw.Piece
section
variable{P:Program}{S:cG}{h:aE}{Q:Nat->bE->aE->Prop}{k:Nat}{rho:Nat->Nat}{D:Doc}
variable{h':aE}{F:Nat->Prop}{s:Sl}{l:uK}{i:Nat}{v:Int}{x:List mE}
def Zf(rho:Nat->Nat)(h:aE):Prop:=∀i,h.size<=i->rho i=0
theorem KW(h:aE)(rho:Nat->Nat):Zf (Hist.zr h rho) h:=λi hi=>qA hi
theorem Zf.mono(z:Zf rho h)(b:h.size<=h'.size):Zf rho h':=λi hi=>z i (dI b hi)
theorem pF(z:Zf rho h)(c:aY F h h')(d:∀i,i<h.size->F i->k<rho i/\rho i<=k+10):cQ k h rho h' rho:=cQ.of c d λi b _=>z i b
theorem eS.v8{f:uK}(r:eS k rho h D)(c:aY F h h')(d:∀i,i<h.size->F i->rho i=k+3)(o:C9 0 h' D.sm f):eS k rho h' {D with ms:=f} where
 ob:=r.ob.aP c (λi hi b=>by have:=d i hi b;omega) λ_ _ h=>h
 ot:=r.ot.aP c (λi hi b=>by have:=d i hi b;omega) λ_ _ h=>h
 ea:=r.ea.aP c (λi hi b=>by have:=d i hi b;omega) λ_ _ h=>h
 et:=r.et.aP c (λi hi b=>by have:=d i hi b;omega) λ_ _ h=>h
 HD:=r.HD.aP c (λi hi b=>by have:=d i hi b;omega) λ_ _ h=>h
 dn:=r.dn.aP c (λi hi b=>by have:=d i hi b;omega) λ_ _ h=>h
 dk:=λg j=>(r.dk g j).aP c (λi hi b=>by have:=d i hi b;omega) λ_ _ h=>h
 nx:=r.nx.aP c (λi hi b=>by have:=d i hi b;omega) λ_ _ h=>h
 nc:=r.nc
 nk:=λg j=>(r.nk g j).aP c (λi hi b=>by have:=d i hi b;omega) λ_ _ h=>h
 ma:=⟨o,r.ma.2⟩
 wa:=r.wa.aP c (λi hi b=>by have:=d i hi b;omega) λ_ _ h=>h
 nw:=λz=>by
  obtain⟨m,t,u,w⟩:=r.nw z;exact⟨m.aP c (λi hi b=>by have:=d i hi b;omega) λ_ _ h=>h,λy A=>(t y A).aP c (λi hi b=>by have:=d i hi b;omega) λ_ _ h=>h,u.aP c (λi hi b=>by have:=d i hi b;omega) λ_ _ h=>h,w.aP c (λi hi b=>by have:=d i hi b;omega) λ_ _ h=>h⟩
 kn:=r.kn
 li:=r.li
 fi:=r.fi
theorem eS.nv{f:aW}(r:eS k rho h D)(c:aY F h h')(d:∀i,i<h.size->F i->rho i=k+4)(o:bR 0 .i64 h' D.sw f):eS k rho h' {D with ws:=f} where
 ob:=r.ob.aP c (λi hi b=>by have:=d i hi b;omega) λ_ _ h=>h
 ot:=r.ot.aP c (λi hi b=>by have:=d i hi b;omega) λ_ _ h=>h
 ea:=r.ea.aP c (λi hi b=>by have:=d i hi b;omega) λ_ _ h=>h
 et:=r.et.aP c (λi hi b=>by have:=d i hi b;omega) λ_ _ h=>h
 HD:=r.HD.aP c (λi hi b=>by have:=d i hi b;omega) λ_ _ h=>h
 dn:=r.dn.aP c (λi hi b=>by have:=d i hi b;omega) λ_ _ h=>h
 dk:=λg j=>(r.dk g j).aP c (λi hi b=>by have:=d i hi b;omega) λ_ _ h=>h
 nx:=r.nx.aP c (λi hi b=>by have:=d i hi b;omega) λ_ _ h=>h
 nc:=r.nc
 nk:=λg j=>(r.nk g j).aP c (λi hi b=>by have:=d i hi b;omega) λ_ _ h=>h
 ma:=r.ma.aP c (λi hi b=>by have:=d i hi b;omega) λ_ _ h=>h
 wa:=⟨o,r.wa.2⟩
 nw:=λz=>by
  obtain⟨m,t,u,w⟩:=r.nw z;exact⟨m.aP c (λi hi b=>by have:=d i hi b;omega) λ_ _ h=>h,λy A=>(t y A).aP c (λi hi b=>by have:=d i hi b;omega) λ_ _ h=>h,u.aP c (λi hi b=>by have:=d i hi b;omega) λ_ _ h=>h,w.aP c (λi hi b=>by have:=d i hi b;omega) λ_ _ h=>h⟩
 kn:=r.kn
 li:=r.li
 fi:=r.fi
theorem UG{n:Nat}{j:Nat}{K:Int->aK}(o:C9 n h s l)(hi:i<l.length)(g:(Gp (el l i))[j]?=some (aH v))(d:wp P (K v) h Q) :
  wp P (bD (bN (aJ s.aD) (eV (i:Int) s.len))<|bD (aJ (aB s.aD (bB (bP (i:Int)) 2)))<|.load (tI) (aB (aB s.aD (bB (bP (i:Int)) 2)) j) K) h Q:=by
 have hlen:=C9.len o;obtain⟨a,ea,c⟩:=uH (m:=2) (λ_=>rfl) (by decide) o (OU hi);refine aL (fD.2 ⟨by rw[ea];rfl,lR.2 ⟨by omega,by omega⟩⟩) ?_;have f:aB s.aD (bB (bP (i:Int)) 2)=some (a.add (i*2)):=by rw[ea,gX,eR,cN];rfl
 rw[f];exact aL rfl (bY (b:=bI) v rfl c g d)
theorem nj{n:Nat}{K:aK}(o:C9 n h s l)(hi:i<l.length)
  (r:∀h',C9 n h' s (l.set i ((el l i).1,v))->aY (iE s) h h'->h'.size=h.size->wp P K h' Q) :
  wp P (bD (bN (aJ s.aD) (eV (i:Int) s.len))<|bD (aJ (aB s.aD (bB (bP (i:Int)) 2)))<|.store (aB (aB s.aD (bB (bP (i:Int)) 2)) 1) [aH v] K) h Q:=by
 have hlen:=C9.len o;obtain⟨a,ea,A⟩:=uH (m:=2) (λ_=>rfl) (by decide) o (OU hi);refine aL (fD.2 ⟨by rw[ea];rfl,lR.2 ⟨by omega,by omega⟩⟩) ?_;refine aL (by rw[ea];rfl) ?_;have c:l=l.take i++(l[i]::l.drop (i+1)):=by rw[<-gK hi,eX]
 have g:el l i=l[i]:=by simp[List.getD,cM hi]
 have d:l.set i ((el l i).1,v)=l.take i++(((el l i).1,v)::l.drop (i+1)):=by
  conv=>lhs;rw[c]
  have j:(l.take i).length=i:=by rw[dJ];omega
  rw[Bl (h:=by omega),j,tZ,xS,<-c]
 have t:cC n 2 h s (((l.take i).flatMap Gp++[aH (el l i).1])++[aH (el l i).2]++(l.drop (i+1)).flatMap Gp):=by
  have f:cC n 2 h s (l.flatMap Gp):=o;rw[c,hQ,fY]at f;rw[g];simpa using f
 have b:aB (aB s.aD (bB (bP (i:Int)) 2)) 1=aB s.aD ((l.take i).flatMap Gp++[aH (el l i).1]).length:=by
  rw[bM,QM,dJ,ea,gX,eR,cN];show some ((a.add (i*2)).add 1)=some (a.add _);rw[add_add,FM (rH hi)];rfl
 rw[b];refine rD (mid:=[aH (el l i).2]) [aH v] t rfl rfl (by simp) (by intro x u;rw[dE.1 u];rfl) λh' w y z=>r h' ?_ (aY.dP y λa ha _=>⟨a,ha,rfl⟩) z;show cC n 2 h' s ((l.set i ((el l i).1,v)).flatMap Gp);rw[d,hQ,fY];simpa using w
theorem Ti{n:Nat}{l:aW}{K:aK}(o:bR n .i64 h s l)(hi:i<l.length)(m:cR .i64 v)
  (r:∀h',bR n .i64 h' s (l.set i v)->aY (iE s) h h'->h'.size=h.size->wp P K h' Q) :
  wp P (bD (bN (aJ s.aD) (eV (i:Int) s.len))<|.store (aB s.aD (bB (bP (i:Int)) 1)) [aH v] K) h Q:=by
 have hlen:=o.len;have j:l=l.take i++(l[i]::l.drop (i+1)):=by rw[<-gK hi,eX]
 have t:cC n 1 h s ((l.take i).map (.int .i64)++[aH l[i]]++(l.drop (i+1)).map (.int .i64)):=by
  have f:=o.own;rw[j,dL,fK]at f;simpa using f
 have d:l.set i v=l.take i++(v::l.drop (i+1)):=by
  conv=>lhs;rw[j]
  have g:(l.take i).length=i:=by rw[dJ];omega
  rw[Bl (h:=by omega),g,tZ,xS]
 obtain⟨a,ea,_⟩:=o.kZ.rd.2 i (.int .i64 l[i]) (by rw[fX,cM hi];rfl);refine aL (fD.2 ⟨by rw[ea];rfl,lR.2 ⟨by omega,by omega⟩⟩) ?_;have c:bB (bP (i:Int)) 1=((l.take i).map (Value.int .i64)).length:=by rw[cD,dJ,gX,eR,cN];omega
 rw[c];refine rD (mid:=[aH l[i]]) [aH v] t rfl rfl (by simp) (by intro x b;rw[dE.1 b];rfl) λh' u w y=>r h' ⟨?_,λx b=>?_⟩ (aY.dP w λa ha _=>⟨a,ha,rfl⟩) y
 .rw[d,dL,fK];simpa using u
 .rcases Rk b with b|rfl
  .exact o.wf x b
  .exact m
theorem YA(hi:i<l.length):(lK x (l.take i)++l.drop i).set i ((el (lK x (l.take i)++l.drop i) i).1,(qL (el (lK x (l.take i)++l.drop i) i).2 x).1)=lK x (l.take (i+1))++l.drop (i+1)/\el (lK x (l.take i)++l.drop i) i=el l i:=by
 have b:(lK x (l.take i)).length=i:=by unfold lK;rw[cD,dJ];omega
 have he:el (lK x (l.take i)++l.drop i) i=el l i:=by
  simp only[el,gF];rw[jK (by omega),b,tZ,DO];rfl
 refine⟨?_,he⟩;rw[he,Bl (h:=by omega),b,tZ,gK hi,xS,eG,OU hi];unfold lK;simp
theorem YB{l:aW}(hi:i<l.length):(kX x (l.take i)++l.drop i).set i (wv x (l.getD i 0))=kX x (l.take (i+1))++l.drop (i+1)/\(kX x (l.take i)++l.drop i).getD i 0=l.getD i 0:=by
 have b:(kX x (l.take i)).length=i:=by unfold kX;rw[cD,dJ];omega
 have he:(kX x (l.take i)++l.drop i).getD i 0=l.getD i 0:=by
  simp only[gF];rw[jK (by omega),b,tZ,DO];rfl
 refine⟨?_,he⟩;have c:l[i]?=some (l.getD i 0):=by simp[List.getD,cM hi]
 rw[Bl (h:=by omega),b,tZ,gK hi,xS,eG,c];unfold kX;simp
theorem Mv(r:eS k rho h D)(z:Zf rho h){x:Gr}(hx:∀h',aY (λi=>rho i=k+3\/rho i=k+4) h h'->(Sh.list jD).ok h' x)(hb:KX (x.2.map dH))(hm:∀e∈D.ms,0<=e.2/\e.2<=2199023255552)(hw:∀v∈D.ws,v<=2199023255552) :
  wp P (jY S (some D.b) x.1) h λtg vs h'=>tg=0/\vs=[]/\aY (λi=>rho i=k+3\/rho i=k+4) h h'/\eS k rho h' {D with ms:=lK (x.2.map dH) D.ms,ws:=kX (x.2.map dH) D.ws}:=by
 unfold jY;refine bO (λ(s:Int×Unit) h'=>∃i:Nat,s.1=i/\i<=D.ms.length/\aY (λi=>rho i=k+3) h h'/\eS k rho h' {D with ms:=lK (x.2.map dH) (D.ms.take i)++D.ms.drop i}) (λs _=>((D.ms.length:Int)-s.1).toNat)
  (λt vs h'=>t=2/\vs=[]/\aY (λi=>rho i=k+3) h h'/\eS k rho h' {D with ms:=lK (x.2.map dH) D.ms}) ⟨0,rfl,cS _,aY.refl _ _,r⟩ ?_ ?_
 .rintro⟨(si:Int),u⟩ h1 ⟨i,hi,hle,c1,C⟩
  dsimp only at hi⊢;subst hi;have m:(lK (x.2.map dH) (D.ms.take i)++D.ms.drop i).length=D.ms.length:=by unfold lK;rw[bM,cD,dJ,cZ];omega
  have o:=C9.len C.ma.1;rw[show({D with ms:=lK (x.2.map dH) (D.ms.take i)++D.ms.drop i}:Doc).ms=_ from rfl,m]at o;have o:D.sm.len=D.ms.length:=o;refine C.rd (b:=.sl) D.sm rfl ?_;have V:aQ D.sm.len=(D.ms.length:Int):=by rw[aN,o]
  rw[V];refine aG (λw=>?_) λw=>?_
  .rw[aV]at w
   have f:i<D.ms.length:=by omega
   obtain⟨G,H⟩:=YA (x:=x.2.map dH) f;refine C.rd (b:=.sl) D.sm rfl (UG (j:=1) (v:=(el D.ms i).2) C.ma.1 (by show i<_;rw[m];exact f) (by show(Gp (el (lK (x.2.map dH) (D.ms.take i)++D.ms.drop i) i))[1]?=_;rw[H];rfl) ?_);have ao:=hm _ (eL (OU f));refine aM (Ve (hx h1 (c1.mono λ_ _ h=>.inl h)) hb ao.1 ao.2) λ⟨(y:Int),(b':Bool),_⟩ h2 e2 B=>?_;have B:y=(qL (el D.ms i).2 (x.2.map dH)).1:=B.1;subst B;dsimp only;have d:=C.ext e2;refine d.rd (b:=.sl) D.sm rfl (nj d.ma.1 (by show i<_;rw[m];exact f) λh3 o3 c3 z3=>?_);have I:=d.ma.1.2.1;have O:=d.ma.1.2.2.1;have I:D.sm.len<=D.sm.cap:=I;have O:D.sm.cap<2^63:=O;rw[bG (by omega) (by omega)];have a6:C9 0 h3 D.sm (lK (x.2.map dH) (D.ms.take (i+1))++D.ms.drop (i+1)):=by
    rw[<-G];have:(el (lK (x.2.map dH) (D.ms.take i)++D.ms.drop i) i).2=(el D.ms i).2:=by rw[H]
    rw[this];exact o3
   have T:∀j,j<h2.size->iE D.sm j->rho j=k+3:=λj _ ⟨a,ha,e⟩=>by rw[<-e];exact d.ma.2 a ha
   have a2:aY (λi=>rho i=k+3) h h3:=(c1.ext e2).trans c3 λj hj hf=>T j (by have:=c1.1;have:=e2.1;omega) hf;exact aC ⟨λ_=>⟨((i:Int)+1,()),rfl,⟨i+1,by push_cast;rfl,by omega,a2,d.v8 c3 T a6⟩,by dsimp only;omega⟩,λJ=>absurd rfl J⟩
  .rw[aZ]at w
   have:i=D.ms.length:=by omega
   subst this;rw[fA,FN,jX]at C;exact aC ⟨λJ=>absurd J (by decide),λ_=>⟨rfl,rfl,c1,C⟩⟩
 rintro t vs h1 ⟨rfl,rfl,c1,C⟩;refine bK (bV ?_);obtain⟨c,R⟩:∃c,c=({D with ms:=lK (x.2.map dH) D.ms}:Doc):=⟨_,rfl⟩;rw[<-R]at C;have ab:c.ws=D.ws:=by rw[R]
 have a3:c.b=D.b:=by rw[R]
 have a0:({D with ms:=lK (x.2.map dH) D.ms,ws:=kX (x.2.map dH) D.ws}:Doc)={c with ws:=kX (x.2.map dH) D.ws}:=by rw[R]
 rw[a0,<-a3,<-ab];rw[<-ab]at hw;have a1:aY (λi=>rho i=k+3\/rho i=k+4) h h1:=c1.mono λ_ _ h=>.inl h;refine bO (λ(s:Int×Unit) h'=>∃i:Nat,s.1=i/\i<=c.ws.length/\aY (λi=>rho i=k+3\/rho i=k+4) h h'/\eS k rho h' {c with ws:=kX (x.2.map dH) (c.ws.take i)++c.ws.drop i}) (λs _=>((c.ws.length:Int)-s.1).toNat)
  (λt vs h'=>t=4/\vs=[]/\aY (λi=>rho i=k+3\/rho i=k+4) h h'/\eS k rho h' {c with ws:=kX (x.2.map dH) c.ws}) ⟨0,rfl,cS _,a1,C⟩ ?_ ?_
 .rintro⟨(si:Int),u⟩ h2 ⟨i,hi,hle,c2,d⟩
  dsimp only at hi⊢;subst hi;have m:(kX (x.2.map dH) (c.ws.take i)++c.ws.drop i).length=c.ws.length:=by unfold kX;rw[bM,cD,dJ,cZ];omega
  have o:=d.wa.1.len;rw[show({c with ws:=kX (x.2.map dH) (c.ws.take i)++c.ws.drop i}:Doc).ws=_ from rfl,m]at o;have o:c.sw.len=c.ws.length:=o;have I:c.sw.len<=c.sw.cap:=d.wa.1.own.2.1;have O:c.sw.cap<2^63:=d.wa.1.own.2.2.1;refine d.rd (b:=.sl) c.sw rfl ?_;have V:aQ c.sw.len=(c.ws.length:Int):=by rw[aN,o]
  rw[V];refine aG (λw=>?_) λw=>?_
  .rw[aV]at w
   have f:i<c.ws.length:=by omega
   obtain⟨G,H⟩:=YB (x:=x.2.map dH) f;have hv:c.ws[i]?=some (c.ws.getD i 0):=by simp[List.getD,cM f]
   have aw:=hw _ (eL hv);have al:∀{g:aE} {Q:Nat->bE->aE->Prop} {K:Int->aK},eS k rho g {c with ws:=kX (x.2.map dH) (c.ws.take i)++c.ws.drop i}->wp P (K (c.ws.getD i 0)) g Q ->
     wp P (bD (bN (aJ c.sw.aD) (eV (i:Int) c.sw.len)) (.load (tI) (aB c.sw.aD (bB (bP (i:Int)) 1)) K)) g Q:=by
    intro g Q K r hk;refine qM r.wa.1.kZ (by omega) (by show(i:Int)<((kX (x.2.map dH) (c.ws.take i)++c.ws.drop i).length:Nat);rw[m];omega) λ_=>?_;rw[cN];show wp P (K ((kX (x.2.map dH) (c.ws.take i)++c.ws.drop i).getD i 0)) _ _;rw[H];exact hk
   refine eN (λt vs h'=>t=0/\vs=[]/\aY (λi=>rho i=k+3\/rho i=k+4) h h'/\eS k rho h' {c with ws:=kX (x.2.map dH) (c.ws.take (i+1))++c.ws.drop (i+1)}) ?_ ?_
   .refine d.rd (b:=.sl) c.sw rfl (al d (aG (λA=>?_) λA=>?_))
    .rw[aV]at A
     refine aC ⟨rfl,rfl,c2,?_⟩;have:kX (x.2.map dH) (c.ws.take (i+1))++c.ws.drop (i+1)=kX (x.2.map dH) (c.ws.take i)++c.ws.drop i:=by
      rw[<-G];have a8:wv (x.2.map dH) (c.ws.getD i 0)=(kX (x.2.map dH) (c.ws.take i)++c.ws.drop i).getD i 0:=by unfold wv;rw[if_pos A,H]
      rw[a8];refine List.ext_getElem? λj=>?_;rw[List.getElem?_set];split
      .rename_i a5
       subst a5;rw[if_pos (by rw[m];exact f),gF,cM (by rw[m];exact f)];rfl
      .rfl
     rw[this];exact d
    .rw[aZ]at A
     refine d.rd (b:=.sl) c.sw rfl (al d ?_);refine aM (Ve (hx h2 c2) hb A aw) λ⟨(y:Int),(b':Bool),_⟩ h3 e3 B=>?_;obtain⟨B,U⟩:=B;have B:y=(qL (c.ws.getD i 0) (x.2.map dH)).1:=B;have U:b'=(qL (c.ws.getD i 0) (x.2.map dH)).2:=U;have a4:=CJ A aw hb;have ba:=hb.1;rw[<-B]at a4;dsimp only;refine iO (tys:=[tI]) (λ(Z:Int×Unit) h'=>Z.1=wv (x.2.map dH) (c.ws.getD i 0)/\h'=h3) ?_ λ⟨(Z:Int),_⟩ h4 e4 E=>?_
     .unfold wv
      rw[if_neg (by omega),<-U,<-B];refine aG (λw=>aC ⟨rfl,Ext.refl _,(-1,()),rfl,?_,rfl⟩) λw=>aC ⟨rfl,Ext.refl _,(y,()),rfl,?_,rfl⟩
      .rw[dN]at w;rw[w];rfl
      .rw[eI]at w;rw[w];rfl
     obtain⟨E,rfl⟩:=E;have E:Z=wv (x.2.map dH) (c.ws.getD i 0):=E;have a9:cR .i64 Z:=by
      rw[E];unfold wv;rw[if_neg (by omega)];split
      .rw[<-B];exact eO.2 (by omega)
      .exact eO.2 (by omega)
     have Y:=d.ext e3;dsimp only;refine Y.rd (b:=.sl) c.sw rfl (Ti Y.wa.1 (by show i<_;rw[m];exact f) a9 λh5 o5 W z5=>?_);have a7:bR 0 .i64 h5 c.sw (kX (x.2.map dH) (c.ws.take (i+1))++c.ws.drop (i+1)):=by
      rw[<-G,<-E];exact o5
     have T:∀j,j<h4.size->iE c.sw j->rho j=k+4:=λj _ ⟨a,ha,e⟩=>by rw[<-e];exact Y.wa.2 a ha
     exact aC ⟨rfl,rfl,(c2.ext e3).trans W λj hj hf=>.inr (T j (by have:=c2.1;have:=e3.1;omega) hf),Y.nv W T a7⟩
   .rintro t vs h5 ⟨rfl,rfl,W,r5⟩
    refine bK (bV ?_);rw[bG (by omega) (by omega)];exact aC ⟨λ_=>⟨((i:Int)+1,()),rfl,⟨i+1,by push_cast;rfl,by omega,W,r5⟩,by dsimp only;omega⟩,λJ=>absurd rfl J⟩
  .rw[aZ]at w
   have:i=c.ws.length:=by omega
   subst this;rw[fA,FN,jX]at d;exact aC ⟨λJ=>absurd J (by decide),λ_=>⟨rfl,rfl,c2,d⟩⟩
 .rintro t vs h2 ⟨rfl,rfl,c2,d⟩
  exact bK (bV (aC ⟨rfl,rfl,c2,d⟩))
end
section
variable{P:Program}{S:cG}{h:aE}{Q:Nat->bE->aE->Prop}{k:Nat}{rho:Nat->Nat}{D:Doc}
variable{M:Mo}{q:Cy}
theorem NH{enc limit r:Int}{E:List El}{es:List gY}:Ez enc limit E (es.map gH) r↔Ez enc limit E es r:=by
 unfold Ez;rw[cD,JY,F9,C5]
theorem Ww{x y:List gY}(h:x.map gH=y.map gH):M.oQ q x=M.oQ q y:=by
 have b:nN x=nN y:=by rw[<-Fv x,<-Fv y,h]
 unfold Mo.oQ;rw[h,b]
abbrev sy(D:Doc):RX:={b:=D.t,enc:=D.enc,limit:=D.limit,sa:=D.sa,st:=D.st,sk:=⟨none,0,0⟩,E:=D.E,K:=[],Z:=λi=>i=D.t\/YK (D.sa,D.st,D.E) i}
theorem eS.kr(r:eS k rho h D){i:Nat}(hi:YK (D.sa,D.st,D.E) i):rho i=0/\i<h.size:=by
 rcases hi with⟨a,ha,rfl⟩|⟨a,ha,rfl⟩
 .exact⟨r.ea.2 a ha,(r.ea.1.own.lt ha).2⟩
 .exact⟨r.et.2 a ha,(r.et.1.own.lt ha).2⟩
theorem eS.vv(r:eS k rho h D):AM 0 h (sy D) where
 enc:=r.kn
 Bp:=r.li
 ob:=r.ot.1
 cur:=⟨r.ea.1,r.et.1⟩
 sk:=cC.nil ..
 kept:=λ_ b=>by cases b
 zb:=.inl rfl
 zc:=λi hi=>⟨.inr hi,λe=>by have c:=(r.kr hi).1;have h2:=r.ot.2 (B9 D.t) rfl;have h2:rho D.t=k+2:=h2;have e:i=D.t:=e;rw[e]at c;omega,λa ha=>by cases ha⟩
 zk:=λ_ b=>by cases b
 zs:=λa ha=>by cases ha
 lo:=λi hi=>⟨cS _,hi.elim (λe=>by rw[e];exact(r.ot.1.lt rfl).2) λhi=>(r.kr hi).2⟩
 fit:=r.fi
theorem eS.xn{h':aE}{R:RX}(r:eS k rho h D)(z:Zf rho h)(j:AM 0 h' R)(c:aY (λi=>i=D.t) h h')(hb:R.b=D.t)(he:R.enc=D.enc)(H:R.limit=D.limit)(J:R.sk=⟨none,0,0⟩)(O:∀i,R.Z i->(sy D).Z i\/h.size<=i) :
  eS k rho h' {D with sa:=R.sa,st:=R.st,E:=R.E}:=by
 have o:rho D.t=k+2:=r.ot.2 (B9 D.t) rfl;have m:∀i,YK (R.sa,R.st,R.E) i->rho i=0:=λi hi=>by
  obtain⟨G,h2,_⟩:=j.zc i hi;rw[hb]at h2;rcases O i G with(h3|h3)|h3
  .exact absurd h3 h2
  .exact(r.kr h3).1
  .exact z i h3
 have f:∀i,i<h.size->i=D.t->rho i=k+2:=λi _ e=>by rw[e];exact o
 exact{
  ob:=r.ob.aP c (λi hi d=>by have:=f i hi d;omega) λ_ _ h=>h
  ot:=⟨by have:=j.ob;rw[hb,he,H,J]at this;exact this,λa ha=>by cases ha;exact o⟩
  ea:=⟨j.cur.1,λa ha=>m _ (.inl ⟨a,ha,rfl⟩)⟩
  et:=⟨j.cur.2,λa ha=>m _ (.inr ⟨a,ha,rfl⟩)⟩
  HD:=r.HD.aP c (λi hi d=>by have:=f i hi d;omega) λ_ _ h=>h
  dn:=r.dn.aP c (λi hi d=>by have:=f i hi d;omega) λ_ _ h=>h
  dk:=λg u=>(r.dk g u).aP c (λi hi d=>by have:=f i hi d;omega) λ_ _ h=>h
  nx:=r.nx.aP c (λi hi d=>by have:=f i hi d;omega) λ_ _ h=>h
  nc:=r.nc
  nk:=λg u=>(r.nk g u).aP c (λi hi d=>by have:=f i hi d;omega) λ_ _ h=>h
  ma:=r.ma.aP c (λi hi d=>by have:=f i hi d;omega) λ_ _ h=>h
  wa:=r.wa.aP c (λi hi d=>by have:=f i hi d;omega) λ_ _ h=>h
  nw:=λI=>by
   obtain⟨w,A,B,C⟩:=r.nw I;exact⟨w.aP c (λi hi d=>by have:=f i hi d;omega) λ_ _ h=>h,λy K=>(A y K).aP c (λi hi d=>by have:=f i hi d;omega) λ_ _ h=>h,B.aP c (λi hi d=>by have:=f i hi d;omega) λ_ _ h=>h,C.aP c (λi hi d=>by have:=f i hi d;omega) λ_ _ h=>h⟩
  kn:=r.kn
  li:=r.li
  fi:=by have:=j.fit;rw[he]at this;exact this}
theorem L6.xq{n:Nat}{s:Sl}{l:List gY}(o:L6 n h s l)(f:∀i,n<=i->i<h.size->rho i=0):Mc (λh=>(Sh.list jD).ok h (s,l)) rho h:=λg c=>
 (o.oQ c λi d h2 b=>by rw[f i d h2]at b;exact absurd b (HB 0)).ok
theorem QL{L:Int}:∀{es:List gY} {a:Int},uE L a es->∀c∈es,a<=c.1/\c.1<=c.2.1/\c.2.1<=L
 |[],_,_,c,b=>by cases b
 |e::es,a,⟨d,h2,h3,f⟩,c,b=>by
  rcases eJ.1 b with rfl|b
  .exact⟨d,h2,h3⟩
  .have:=QL f c b
   omega
theorem PO(r:eS k rho h D)(m:DocM D M)(d:M.now=none){x:Sl}:wp P (iL S (some D.b) x) h λtg vs h'=>tg=0/\vs=[aH 71]/\jL k h rho h' D M:=by
 unfold iL;refine r.rd (b:=.bool) D.op rfl (aG (λc=>aC ⟨rfl,rfl,jL.ext r m (Ext.refl _)⟩) λc=>?_);rw[m.op,d]at c;cases c
theorem Yi(r:eS k rho h D){N:Nat}(m:DocM D M)(o:gQ D.enc D.limit M N)(hN:N<=68719476736)(hm:M.now=some q){x:Gr}(hx:∀h',aY (λi=>k<rho i/\rho i<=k+10) h h'->(Sh.list jD).ok h' x)(a5:x.2.length<=1073741824)(b3:(aU x.2).length<=1000000000)
  (dx:q.kQ.length<=1099511627776) :
  wp P (iL S (some D.b) x.1) h λtg vs h'=>tg=0/\∃e,vs=[aH e]/\Ez D.enc D.limit M.E x.2 e/\jL k h rho h' D (if e=0 then M.oQ q x.2 else M):=by
 unfold iL;have a3:D.op=true:=by rw[m.op,hm];rfl
 have a7:=cQ.mV (k:=k) (rho:=rho) (Ext.refl h);have r0:=r.zr (Ext.refl h);have z0:=KW h rho;have al:∀h',aY (λi=>k<Hist.zr h rho i/\Hist.zr h rho i<=k+10) h h'->(Sh.list jD).ok h' x:=λh' c=>hx h' (c.mono λi hi A=>by rw[sM hi]at A;exact A);generalize Hist.zr h rho=B at a7 r0 z0 al;refine r0.rd (b:=.bool) D.op rfl (aG (λI=>by rw[dN,a3]at I;cases I) λ_=>?_);refine r0.rd (b:=.ptr) (some (B9 D.t)) rfl ?_;have a4:B D.t=k+2:=r0.ot.2 (B9 D.t) rfl;have aw:=o.len;rw[<-m.E]at aw;have cc:=Ki (P:=P) (S:=S) r0.vv (cS _) (al h (aY.refl _ _)) (by show D.E.length<=65536;omega) a5 b3;refine eU cc λtg vs h1 hq=>?_;obtain⟨rfl,e,R',rfl,W,RT,c1,rb,re,rl,rK,cx,rE,eg,c7⟩:=hq;refine⟨rfl,(e,()),rfl,?_⟩;have c1:aY (λi=>i=D.t) h h1:=c1;have r1:=r0.xn z0 RT c1 rb re rl cx c7;have W:Ez D.enc D.limit D.E x.2 e:=W;have rE:R'.E=if e=0 then iI D.E x.2 else D.E:=rE
 obtain⟨d,u⟩:∃d,d=({D with sa:=R'.sa,st:=R'.st,E:=R'.E}:Doc):=⟨_,rfl⟩;rw[<-u]at r1;have s1:=c1.1;have z1:=z0.mono s1;have a8:=a7.trans (pF z0 c1 λi _ e=>by rw[e,a4];omega);dsimp only;refine aG (λI=>?_) λI=>?_
 .rw[lB]at I
  refine aC ⟨rfl,e,rfl,by rw[<-m.E];exact W,B,d,a8,r1,?_,by rw[u],by rw[u],by rw[u]⟩;rw[if_neg I,u];rw[if_neg I]at rE;exact⟨rE.trans m.E,m.dn,m.lo,m.nx,m.ms,m.ws,m.op,m.nw,m.sv,m.la,m.dp,m.e0,m.li⟩
 rw[lX]at I;subst I;rw[if_pos rfl]at rE;have a1:d.b=D.b:=by rw[u]
 have a2:d.c=D.c:=by rw[u]
 have Y:d.op=true:=by rw[u];exact a3
 obtain⟨n1,n2,n3,n4⟩:=r1.nw Y;have de:AQ d=AQ D:=by rw[u]
 rw[<-a1];obtain⟨a6,cg,cr,ct⟩:=m.nw q hm;have df:d.c.2.length=q.kQ.length:=by rw[a2,<-a6,cD]
 have bs:=n1.1.1;rw[cD]at bs;refine aL rfl (aL rfl (aL rfl ?_));have bo:aB (aB (some d.b) 11) 0=aB (some d.b) 11:=by show some ((d.b.add 11).add 0)=some (d.b.add 11);rw[add_zero']
 rw[bo];refine bY (b:=.sl) d.c.1 rfl r1.ob.1.cells rfl ?_;have bd:=al h1 (c1.mono λi _ e=>by rw[e,a4];omega);refine aM (XZ bd a5 λe he=>?_) λ⟨(cy:Sl),_⟩ h2 e2 U=>?_
 .have:e.2.2.1.2.length<=(aU x.2).length:=by
   unfold aU;rw[L4];exact xP (λe:gY=>e.2.2.1.2.length) he
  omega
 obtain⟨l',b0,oy⟩:=U;have oy:L6 h1.size h2 cy l':=oy;have r2:=r1.ext e2;refine⟨⟨_,rfl,aI.2 λj v O=>?_⟩,?_⟩
 .cases j with
  |zero=>cases O;exact aI.1 r2.ob.1.cells 11 _ rfl
  |succ j=>simp at O
 refine λel=>?_;have e3:Ext h2 (h2.push (.cells [dG cy].toArray el)):=Ext.push ..;have o3:cC h2.size 1 (h2.push (.cells [dG cy].toArray el)) ⟨some ⟨h2.size,0,none⟩,1,1⟩ [dG cy]:=bX rfl (by decide) (by decide);show wp P _ (h2.push (.cells [dG cy].toArray el)) _;generalize h2.push (.cells [dG cy].toArray el)=h3 at e3 o3⊢;have H:=r2.ext e3;refine⟨⟨_,rfl,aI.2 λj v O=>?_⟩,?_⟩
 .cases j with
  |zero=>cases O;exact aI.1 H.ob.1.cells 11 _ rfl
  |succ j=>simp at O
 obtain⟨n1,n2,n3,n4⟩:=H.nw Y;have s2:=e2.1;have s3:=e3.1;refine iS n1.1 (cS _) o3.rd (by intro v K;rw[dE.1 K];rfl) rfl (by dsimp only;omega) (by dsimp only;omega) λq4 V o4 l4 u4 b4 _=>?_;have C:aY (iE d.c.1) h3 V:=aY.dP u4 λa ha _=>⟨a,ha,rfl⟩;have G:∀i,i<h3.size->iE d.c.1 i->B i=k+5:=λi _ ⟨a,ha,e⟩=>by rw[<-e];exact n1.2 a ha
 have s4:=C.1;have a0:∀a,q4.aD=some a->(d.c.1.aD=some a)\/h3.size<=a.block:=b4
 let z:Nat->Nat:=Hist.nr h3 B q4 (k+5)
 have z3:=z1.mono (dI s2 s3);have w:∀i,i<h3.size->z i=B i:=λi hi=>vY hi;have z4:Zf z V:=λi hi=>JS (by omega) λ⟨a,ha,e⟩=>by have:=(o4.lt ha).2;omega
 have c8:cQ k h3 B V z:=⟨C.mono λi hi A=>by rw[G i hi A];omega,λi hi _=>w i hi,λi hi O=>by
  by_cases b2:i<h3.size
  .rw[w i b2]
   rcases O with O|O
   .omega
   .exact .inr O
  .by_cases hs:iE q4 i
   .rw[show z i=k+5 from En (by omega) hs];exact .inr (by omega)
   .rw[show z i=0 from JS (by omega) hs];exact .inl rfl⟩
 have ac:sU (k+5) 1 z V q4 ((d.c.2++[(cy,l')]).map λy=>dG y.1):=by
  refine⟨by rw[dL];exact o4,λa ha=>?_⟩;rcases a0 a ha with hb|hb
  .rw[w _ (n1.1.lt hb).2];exact n1.2 a hb
  .exact En hb ⟨a,ha,rfl⟩
 have J:∀i,i<h3.size->iE d.c.1 i->B i≠0:=λi hi A=>by rw[G i hi A];omega
 have c9:∀i,h1.size<=i->i<h2.size->B i=0:=λi h1 h2=>z1 i h1;have ky:Mc (λh=>(Sh.list jD).ok h (cy,l')) z V:=((oy.xq c9).aP (rho':=B) (aY.bH (F:=λ_=>False) e3) (λ_ _ f=>f.elim) λ_ _ h=>h).aP C J λi hi h=>by rw[w i hi];exact h
 have w4:Lq k z V {d with op:=false} (AQ d):=by
  refine⟨?_,H.ob.aP C (λi hi A=>by rw[G i hi A];omega) λi hi h=>by rw[w i hi];exact h⟩;exact⟨H.ot.aP C (λi hi A=>by rw[G i hi A];omega) λi hi h=>by rw[w i hi];exact h,H.ea.aP C (λi hi A=>by rw[G i hi A];omega) λi hi h=>by rw[w i hi];exact h,H.et.aP C (λi hi A=>by rw[G i hi A];omega) λi hi h=>by rw[w i hi];exact h,
   H.HD.aP C J λi hi h=>by rw[w i hi];exact h,H.dn.aP C (λi hi A=>by rw[G i hi A];omega) λi hi h=>by rw[w i hi];exact h,λg hg=>(H.dk g hg).aP C J λi hi h=>by rw[w i hi];exact h,H.nx.aP C J λi hi h=>by rw[w i hi];exact h,H.nc,
   λg hg=>(H.nk g hg).aP C J λi hi h=>by rw[w i hi];exact h,H.ma.aP C (λi hi A=>by rw[G i hi A];omega) λi hi h=>by rw[w i hi];exact h,H.wa.aP C (λi hi A=>by rw[G i hi A];omega) λi hi h=>by rw[w i hi];exact h,(λhh=>by cases hh),H.kn,H.li,H.fi⟩
 have b9:=λy U=>(n2 y U).aP (rho':=z) C J λi hi h=>by rw[w i hi];exact h
 have cd:=n3.aP C (rho':=z) (λi hi A=>by rw[G i hi A];omega) λi hi h=>by rw[w i hi];exact h
 have cf:=n4.aP C (rho':=z) (λi hi A=>by rw[G i hi A];omega) λi hi h=>by rw[w i hi];exact h
 have bb:=((a8.trans (pF z1 (aY.bH (F:=λ_=>False) (e2.trans e3)) λ_ _ f=>f.elim)).trans c8)
 clear_value z
 have b6:z d.b.block=k+1:=w4.o.2 d.b rfl;refine aL rfl (aL rfl (aL rfl (w4.put [dG q4] (fO rfl) (fO rfl) (by intro v K;rw[dE.1 K];rfl) λh5 w5 T z5=>?_)));have T:aY (λi=>i=d.b.block) V h5:=T;have ao:=bb.trans (jS b6 T z5);have r5:eS k z h5 {d with c:=(q4,d.c.2++[(cy,l')])}:=by
  refine w5.done rfl rfl λp=>⟨p.ot,p.ea,p.et,p.HD,p.dn,p.dk,p.nx,p.nc,p.nk,p.ma,p.wa,λ_=>⟨ac.aP T (λi hi e=>by subst e;omega) λ_ _ h=>h,λy U=>?_,cd.aP T (λi hi e=>by subst e;omega) λ_ _ h=>h,cf.aP T (λi hi e=>by subst e;omega) λ_ _ h=>h⟩,p.kn,p.li,p.fi⟩;rcases dD.1 U with U|U
  .exact(b9 y U).aP T (λi hi e=>by subst e;omega) λ_ _ h=>h
  .rw[dE.1 U]
   exact ky.aP T (λi hi e=>by subst e;omega) λ_ _ h=>h
 have a9:Zf z h5:=z4.mono T.1;have bp:=o.len;have dr:=W;have Z:x.2.length<=70000/\uE D.E.length 0 x.2:=by
  unfold Ez at W;rcases W with h|h|h|h|h
  .exact absurd h.2 (by decide)
  .exact absurd h.2.2 (by decide)
  .exact absurd h.2.2.2 (by decide)
  .exact absurd h.2.2.2.2 (by decide)
  .exact⟨h.1,h.2.1⟩
 have ba:KX (x.2.map dH):=by
  refine⟨by rw[cD];omega,λe he=>?_⟩;obtain⟨c,I,rfl⟩:=dC.1 he;have bt:=Z.2.le c I;have b1:0<=c.1:=(QL Z.2 c I).1;have ec:c.2.1<=D.E.length:=(QL Z.2 c I).2.2;have ds:c.2.2.1.2.length<=(aU x.2).length:=by
   unfold aU;rw[L4];exact xP (λe:gY=>e.2.2.1.2.length) I
  show 0<=c.1/\c.1<=c.2.1/\c.2.1<=2199023255552/\0<=(c.2.2.1.2.length:Int)/\(c.2.2.1.2.length:Int)<=2199023255552;exact⟨b1,bt,by omega,by omega,by omega⟩
 have b8:∀h',aY (λi=>z i=k+3\/z i=k+4) h5 h'->(Sh.list jD).ok h' x:=λh' c'=>by
  have cc:=ao.c.trans c' λi hi A=>?_
  .exact hx h' cc
  .by_cases ho:rho i<=k\/k+10<rho i
   .rw[ao.old i hi ho]at A;omega
   .omega
 refine eU (Mv r5 a9 b8 ba (λe he=>?_) λv K=>?_) λtg vs h6 hq=>?_
 .have he:e∈d.ms:=he
  rw[u]at he;have he:e∈D.ms:=he;rw[m.ms]at he;have:=o.mi e he;omega
 .have K:v∈d.ws:=K
  rw[u]at K;have K:v∈D.ws:=K;rw[m.ws]at K;have:=o.wk v K;omega
 obtain⟨rfl,rfl,c6,r6⟩:=hq;refine⟨rfl,(),rfl,aC ⟨rfl,0,rfl,by rw[<-m.E];exact W,z,_,ao.trans (pF a9 c6 λi _ A=>by rcases A with A|A<;>omega),r6,?_,a1,by show d.enc=_;rw[u],by show d.limit=_;rw[u]⟩⟩;rw[if_pos rfl];refine⟨?_,?_,?_,?_,?_,?_,?_,λq' ab=>?_,?_,?_,?_,?_,?_⟩
 .show d.E=(M.oQ q x.2).E
  rw[u,Mo.Yf hm];show R'.E=_;rw[rE,m.E]
 .show d.D.map wH=_;rw[u];exact m.dn
 .show d.lost=_;rw[u];exact m.lo
 .show d.R.map wH=_;rw[u];exact m.nx
 .show lK _ d.ms=lK _ M.marks;rw[u];show lK _ D.ms=_;rw[m.ms]
 .show kX _ d.ws=kX _ M.watched;rw[u];show kX _ D.ws=_;rw[m.ws]
 .show d.op=true;exact Y
 .have ab:some _=some q':=ab
  cases ab;refine⟨?_,by show d.bg=q.bg;rw[u];exact cg,by show d.om=q.om;rw[u];exact cr,by show d.ow=q.ow;rw[u];exact ct⟩;show(d.c.2++[(cy,l')]).map (λe=>e.2.map gH)=q.kQ++[x.2.map gH];rw[dL,a2,a6];show q.kQ++[l'.map gH]=_;rw[b0]
 .show d.saved=_;rw[u];exact m.sv
 .show d.last=_;rw[u];exact m.la
 .show d.depth=_;rw[u];exact m.dp
 .show gT 0 0 (bC d.enc d.lb)=_;rw[u];exact m.e0
 .show(d.lb.length:Int)<=d.limit;rw[u];exact m.li
end
section
variable{P:Program}{S:cG}{h:aE}{Q:Nat->bE->aE->Prop}{k:Nat}{rho:Nat->Nat}{D:Doc}
variable{α:Type}{i:Nat}{M:Mo}
theorem RO{f:α->Bool}{l:List α}{x:α}(hi:l[i]?=some x):(l.take (i+1)).any f=((l.take i).any f || f x):=by
 rw[eG,hi,LX];simp
theorem RN{f:α->Bool}{l:List α}(h:(l.take i).any f=true):l.any f=true:=by
 obtain⟨x,c,b⟩:=Jg.1 h;exact Jg.2 ⟨x,rG c,b⟩
theorem OP{x:XB}(ok:AK.ok h x)(a b c:Int):aS P (qU S (x.1,a,b,c,())) [tB] h λ(y:Bool×Unit) _=>y.1=CI (x.2.map (·.2)):=by
 unfold qU aS;refine λel=>?_;have R:Ext h (h.push (.cells [dG x.1,aH a,aH b,aH c].toArray el)):=Ext.push ..;have o1:cC h.size 1 (h.push (.cells [dG x.1,aH a,aH b,aH c].toArray el)) ⟨some ⟨h.size,0,none⟩,4,4⟩ [dG x.1,aH a,aH b,aH c]:=bX rfl (by decide) (by decide);show wp P _ (h.push (.cells [dG x.1,aH a,aH b,aH c].toArray el)) _;generalize h.push (.cells [dG x.1,aH a,aH b,aH c].toArray el)=E at R o1⊢;have a0:=ok.2.1;have a2:=ok.2.2.1;have al:aQ x.1.len=(x.2.length:Int):=by rw[aN,ok.1]
 have hlen:=ok.1;have Z:∀{g:aE} {Q:Nat->bE->aE->Prop} {K:Sl->aK},Ext E g->wp P (K x.1) g Q->wp P (.load (tS) (aB (some ⟨h.size,0,none⟩) 0) K) g Q:=λe hk=>bY (b:=.sl) x.1 rfl ((aY.bH (F:=λ_=>False) e).own o1 λ_ _ x=>x).cells rfl hk;have V:CI (x.2.map (·.2))=x.2.any λy=>y.2.any oR:=by unfold CI;rw[LY];rfl
 rw[V];refine bO (λ(s:Int×Unit) h'=>Ext E h'/\∃i:Nat,s.1=i/\i<=x.2.length/\(x.2.take i).any (λy=>y.2.any oR)=false) (λs _=>((x.2.length:Int)-s.1).toNat)
  (λt vs h'=>Ext E h'/\((t=2/\vs=[]/\(x.2.any λy=>y.2.any oR)=false)\/(t=1/\vs=[.bool true]/\(x.2.any λy=>y.2.any oR)=true))) ⟨Ext.refl _,0,rfl,cS _,rfl⟩ ?_ ?_
 .rintro⟨(si:Int),u⟩ h2 ⟨B,i,hi,hle,o⟩
  dsimp only at hi⊢;subst hi;refine Z B ?_;rw[al];refine aG (λU=>?_) λU=>?_
  .rw[aV]at U
   have ao:i<x.2.length:=by omega
   obtain⟨g,C⟩:∃g,x.2[i]?=some g:=⟨x.2[i],cM ao⟩;have A:=ok.el C;have ab:aQ g.1.len=(g.2.length:Int):=by rw[aN,A.1]
   have a1:=A.1;have a5:=A.2.1;have a6:=A.2.2.1;have J:=RO (f:=λy:Gr=>y.2.any oR) C;rw[o,Bool.false_or]at J;refine bO (λ(s:Int×Unit) h'=>Ext E h'/\∃j:Nat,s.1=j/\j<=g.2.length/\(g.2.take j).any oR=false) (λs _=>((g.2.length:Int)-s.1).toNat)
    (λt vs h'=>Ext E h'/\((t=4/\vs=[]/\g.2.any oR=false)\/(t=1/\vs=[.bool true]/\g.2.any oR=true))) ⟨B,0,rfl,cS _,rfl⟩ ?_ ?_
   .rintro⟨(sj:Int),u⟩ h3 ⟨m,j,hj,a3,r⟩
    dsimp only at hj⊢;subst hj;have z:=ok.ext (R.trans m);refine Z m (NB z C ?_);rw[ab];refine aG (λG=>?_) λG=>?_
    .rw[aV]at G
     have W:j<g.2.length:=by omega
     obtain⟨e,he⟩:∃e,g.2[j]?=some e:=⟨g.2[j],cM W⟩;have I:=RO (f:=oR) he;rw[r,Bool.false_or]at I;refine Z m (NB z C (DD (z.el C) he λh4 a4 e4 o4=>?_));have aw:e.2.2.1.1.len=e.2.2.1.2.length:=((z.el C).el he).2.2.1.1;refine iO (tys:=[tB]) (λ(y:Bool×Unit) h'=>y.1=oR e/\h'=h4) ?_ λ⟨(y:Bool),_⟩ h5 e5 O=>?_
     .refine bY (b:=bI) e.1 rfl o4.cells rfl (bY (b:=bI) e.2.1 rfl o4.cells rfl (aG (λT=>aC ⟨rfl,Ext.refl _,(true,()),rfl,?_,rfl⟩) λT=>bY (b:=.sl) e.2.2.1.1 rfl o4.cells rfl (aC ⟨rfl,Ext.refl _,(rY (aQ e.2.2.1.1.len) 0,()),rfl,?_,rfl⟩)))
      .rw[aV]at T
       show true=oR e;unfold oR;rw[decide_eq_true T];rfl
      .rw[aZ]at T
       show rY (aQ e.2.2.1.1.len) 0=oR e;unfold oR;rw[decide_eq_false (by omega),Bool.false_or,aN,aw];rw[Bool.eq_iff_iff,dQ,decide_eq_true_iff];omega
     obtain⟨O,rfl⟩:=O;have O:y=oR e:=O;subst O;refine aG (λH=>?_) λH=>?_
     .refine aC ⟨λd=>absurd d (by decide),λ_=>⟨m.trans e4, .inr ⟨rfl,rfl,RN (i:=j+1) ?_⟩⟩⟩
      rw[I];exact H
     .rw[bG (by omega) (by omega)]
      exact aC ⟨λ_=>⟨((j:Int)+1,()),rfl,⟨m.trans e4,j+1,by push_cast;rfl,by omega,by rw[I];exact H⟩,by dsimp only;omega⟩,λd=>absurd rfl d⟩
    .rw[aZ]at G
     have:j=g.2.length:=by omega
     subst this;rw[fA]at r;exact aC ⟨λd=>absurd d (by decide),λ_=>⟨m, .inl ⟨rfl,rfl,r⟩⟩⟩
   .rintro t vs h3 ⟨m,⟨rfl,rfl,Y⟩|⟨rfl,rfl,w⟩⟩
    .refine bK (bV ?_)
     rw[bG (by omega) (by omega)];exact aC ⟨λ_=>⟨((i:Int)+1,()),rfl,⟨m,i+1,by push_cast;rfl,by omega,by rw[J];exact Y⟩,by dsimp only;omega⟩,λd=>absurd rfl d⟩
    .refine nT (by decide) (bK (jQ (aC ⟨λd=>absurd d (by decide),λ_=>⟨m, .inr ⟨rfl,rfl,RN (i:=i+1) ?_⟩⟩⟩)))
     rw[J];exact w
  .rw[aZ]at U
   have:i=x.2.length:=by omega
   subst this;rw[fA]at o;exact aC ⟨λd=>absurd d (by decide),λ_=>⟨B, .inl ⟨rfl,rfl,o⟩⟩⟩
 .rintro t vs h2 ⟨B,⟨rfl,rfl,o⟩|⟨rfl,rfl,w⟩⟩
  .exact bK (bV (aC ⟨rfl,R.trans B,(false,()),rfl,o.symm⟩))
  .exact nT (by decide) (bK (jQ (aC ⟨rfl,R.trans B,(true,()),rfl,w.symm⟩)))
theorem eS.xp(r:eS k rho h D)(b:D.op=true):AK.ok h D.c:=by
 obtain⟨f,g,_⟩:=r.nw b;exact O6 f.1 λy d=>(g y d).now
theorem DocM.Sa(m:DocM D M){q:Cy}(hm:M.now=some q):CI (D.c.2.map (·.2))=CI q.kQ:=by
 rw[<-(m.nw q hm).1];unfold CI;rw[LY,LY]
 congr 1
 funext e
 exact(Pn e.2).symm
theorem Zs(r:eS k rho h D){K:Sl×Int×Int×Int×Unit->aK}(f:wp P (K (D.c.1,D.bg,D.en,D.gs,())) h Q) :
  wp P (bD (aJ (some D.b))<|bD (aJ (some D.b))<|.load (.agg [.sl, .int .i64, .int .i64, .int .i64]) (aB (some D.b) 11) K) h Q:=by
 refine aL rfl (aL rfl ⟨D.b.add 11,rfl,(D.c.1,D.bg,D.en,D.gs,()),aI.2 λj v d=>?_,f⟩);rw[add_add];refine aI.1 r.ob.1.cells (11+j) v ?_
 match j,d with
 |0,d=>exact d
 |1,d=>exact d
 |2,d=>exact d
 |3,d=>exact d
 |j+4,d=>exact absurd (eK.1 d).1 (by show ¬(j+4<4);omega)
theorem bz(r:eS k rho h D)(m:DocM D M):aS P (rM S (some D.b)) [tB] h λ(y:Bool×Unit) _=>y.1=M.DX:=by
 unfold rM aS;refine eN (λt vs h'=>Ext h h'/\((t=1/\vs=[.bool true]/\(M.now.map λq=>CI q.kQ).getD false=true)\/(t=0/\vs=[]/\(M.now.map λq=>CI q.kQ).getD false=false))) ?_ ?_
 .refine r.rd (b:=.bool) D.op rfl (aG (λc=>?_) λc=>?_)
  .have z:=c
   rw[m.op]at c;obtain⟨q,hm⟩:=Ci.1 c;refine Zs r ?_;dsimp only;refine aM (OP (r.xp z) D.bg D.en D.gs) λ⟨(y:Bool),_⟩ A f d=>?_;have d:y=CI q.kQ:=d.trans (m.Sa hm);subst d;rw[hm];refine aG (λc=>aC ⟨f, .inl ⟨rfl,rfl,c⟩⟩) λc=>aC ⟨f, .inr ⟨rfl,rfl,c⟩⟩
  .rw[m.op]at c
   have B:M.now=none:=by cases h:M.now with
    |none=>rfl
    |some q=>rw[h]at c;cases c
   rw[B];exact aC ⟨Ext.refl _, .inr ⟨rfl,rfl,rfl⟩⟩
 .rintro t vs A ⟨f,⟨rfl,rfl,d⟩|⟨rfl,rfl,d⟩⟩
  .refine bK (jQ (aC ⟨rfl,f,(true,()),rfl,?_⟩))
   show true=M.DX;unfold Mo.DX;rw[d,Bool.or_true]
  .refine nT (by decide) (bK (bV ?_))
   have o:=r.ext f;refine o.rd (b:=bI) D.saved rfl ?_;refine aM (Vl o m) λ⟨(y:Int),_⟩ h2 u g=>?_;have g:y=M.st:=g;subst g;have C:=o.ext u;refine⟨⟨_,rfl,aI.2 λj v w=>?_⟩,aC ⟨rfl,f.trans u,(_,()),rfl,?_⟩⟩
   .cases j with
    |zero=>cases w;rw[add_zero'];exact aI.1 C.ob.1.cells 17 _ rfl
    |succ j=>simp at w
   .show HF M.st D.saved=M.DX
    unfold Mo.DX;rw[d,Bool.or_false,m.sv];unfold HF;by_cases h:M.st=M.saved
    .simp[h]
    .simp[h]
theorem jy(r:eS k rho h D)(m:DocM D M)(name:Int):aS P (tH S (some D.b) name) [tI, tI] h λ(y:Int×Int×Unit) _=>y.1=(M.Em name).1/\y.2.1=(M.Em name).2:=by
 unfold tH aS;have g:=m.ms;have w:aQ D.sm.len=(D.ms.length:Int):=by rw[aN,C9.len r.ma.1]
 have A:=r.ma.1.2.1;have C:=r.ma.1.2.2.1;have hlen:=C9.len r.ma.1;refine bO (λ(s:Int×Unit) h'=>h'=h/\∃i:Nat,s.1=i/\i<=D.ms.length/\BU name D.ms=BU name (D.ms.drop i)) (λs _=>((D.ms.length:Int)-s.1).toNat)
  (λt vs h'=>h'=h/\((t=2/\vs=[]/\BU name D.ms=none)\/(t=1/\∃v,vs=[aH v,aH 0]/\BU name D.ms=some v))) ⟨rfl,0,rfl,cS _,rfl⟩ ?_ ?_
 .rintro⟨(E:Int),u⟩ z ⟨rfl,i,hi,hle,c⟩
  dsimp only at hi⊢;subst hi;refine r.rd (b:=.sl) D.sm rfl ?_;rw[w];refine aG (λo=>?_) λo=>?_
  .rw[aV]at o
   have d:i<D.ms.length:=by omega
   have B:D.ms.drop i=el D.ms i::D.ms.drop (i+1):=by
    rw[gK d]
    congr 1
    simp[el,List.getD,cM d]
   rw[B,show BU name (el D.ms i::D.ms.drop (i+1))=if (el D.ms i).1=name then some (el D.ms i).2 else BU name (D.ms.drop (i+1)) from rfl]at c;refine r.rd (b:=.sl) D.sm rfl (UG (j:=0) (v:=(el D.ms i).1) r.ma.1 d rfl (aG (λhe=>?_) λhe=>?_))
   .rw[cJ]at he
    rw[if_pos he]at c;refine r.rd (b:=.sl) D.sm rfl (UG (j:=1) (v:=(el D.ms i).2) r.ma.1 d rfl ?_);exact aC ⟨λf=>absurd f (by decide),λ_=>⟨rfl, .inr ⟨rfl,_,rfl,c⟩⟩⟩
   .rw[dM]at he
    rw[if_neg he]at c;rw[bG (by omega) (by omega)];exact aC ⟨λ_=>⟨((i:Int)+1,()),rfl,⟨rfl,i+1,by push_cast;rfl,by omega,c⟩,by dsimp only;omega⟩,λf=>absurd rfl f⟩
  .rw[aZ]at o
   have:i=D.ms.length:=by omega
   subst this;rw[FN]at c;exact aC ⟨λf=>absurd f (by decide),λ_=>⟨rfl, .inl ⟨rfl,rfl,c⟩⟩⟩
 .rintro t vs z ⟨rfl,⟨rfl,rfl,c⟩|⟨rfl,v,rfl,c⟩⟩
  .refine bK (bV (aC ⟨rfl,Ext.refl _,(0,74,()),rfl,?_⟩))
   unfold Mo.Em;rw[<-g,c];exact⟨rfl,rfl⟩
  .refine nT (by decide) (bK ⟨(v,0,()),rfl,aC ⟨rfl,Ext.refl _,(v,0,()),rfl,?_⟩⟩)
   unfold Mo.Em;rw[<-g,c];exact⟨rfl,rfl⟩
end
section
variable{P:Program}{S:cG}{h:aE}{Q:Nat->bE->aE->Prop}{k:Nat}{rho:Nat->Nat}{D:Doc}
theorem RP{r size:Nat}{s q:Sl}{vs d:bE}{h':aE}(z:Zf rho h)(o:sU r size rho h s vs)(c:aY (iE s) h h')(o':cC 0 size h' q d)(hb:∀a,q.aD=some a->s.aD=some a\/h.size<=a.block)(m:k<r/\r<=k+10) :
  ∃rho',cQ k h rho h' rho'/\sU r size rho' h' q d/\Zf rho' h'/\(∀i,i<h.size->rho' i=rho i)/\∀i,i<h.size->iE s i->rho i=r:=by
 have f:∀i,i<h.size->iE s i->rho i=r:=λi _ ⟨a,ha,e⟩=>by rw[<-e];exact o.2 a ha
 have u:=c.1;have old:∀i,i<h.size->Hist.nr h rho q r i=rho i:=λi hi=>vY hi;refine⟨Hist.nr h rho q r,⟨c.mono λi hi t=>by rw[f i hi t];exact m,λi hi _=>old i hi,λi hi b=>?_⟩,⟨o',λa ha=>?_⟩,λi hi=>JS (by omega) λ⟨a,ha,e⟩=>by have:=(o'.lt ha).2;omega,old,f⟩
 .by_cases g:i<h.size
  .rw[old i g]
   rcases b with b|b
   .omega
   .exact .inr b
  .by_cases j:iE q i
   .rw[En (by omega) j];exact .inr m
   .rw[JS (by omega) j];exact .inl rfl
 .rcases hb a ha with hb|hb
  .rw[old _ (o.1.lt hb).2];exact o.2 a hb
  .exact En hb ⟨a,ha,rfl⟩
open Classical in
theorem eS.shut(r:eS k rho h D)(B:D.op=true)(z:Zf rho h):∃rho',cQ k h rho h rho'/\Lq k rho' h {D with op:=false} (AQ D)/\Mc (λh=>AK.ok h D.c) rho' h/\Zf rho' h/\sU (k+7) 2 rho' h D.so (D.om.flatMap Gp)/\BH (k+8) rho' h D.sv D.ow:=by
 obtain⟨u,G,H,I⟩:=r.nw B;have w:∀i,iE D.c.1 i->rho i=k+5:=λi ⟨a,ha,e⟩=>by rw[<-e];exact u.2 a ha
 let rho':Nat->Nat:=λi=>if iE D.c.1 i then 0 else rho i
 have same:∀i r,r≠k+5->rho i=r->rho' i=r:=λi r C he=>by
  show(if iE D.c.1 i then 0 else rho i)=r;by_cases j:iE D.c.1 i
  .exact absurd ((w i j).symm.trans he).symm C
  .rw[if_neg j];exact he
 have c:=aY.refl (λ_=>False) h;have b:∀{r:Nat} (i:Nat),i<h.size->(λ_:Nat=>False) i->rho i≠r:=λi _ f=>f.elim;refine⟨rho',⟨aY.refl _ _,λi hi d=>?_,λi hi d=>?_⟩,⟨?_,r.ob.aP c b λi hi h=>same i _ (by omega) h⟩,λg o=>?_,λi hi=>same i 0 (by omega) (z i hi),H.aP c b λi hi h=>same i _ (by omega) h,I.aP c b λi hi h=>same i _ (by omega) h⟩
 .exact same i _ (λe=>by omega) rfl
 .by_cases j:iE D.c.1 i
  .exact .inl (if_pos j)
  .rw[show rho' i=rho i from if_neg j]
   rcases d with d|d
   .omega
   .exact .inr d
 .exact⟨r.ot.aP c b λi hi h=>same i _ (by omega) h,r.ea.aP c b λi hi h=>same i _ (by omega) h,r.et.aP c b λi hi h=>same i _ (by omega) h,r.HD.aP c b λi hi h=>same i _ (by omega) h,r.dn.aP c b λi hi h=>same i _ (by omega) h,
   λg m=>(r.dk g m).aP c b λi hi h=>same i _ (by omega) h,r.nx.aP c b λi hi h=>same i _ (by omega) h,r.nc,λg m=>(r.nk g m).aP c b λi hi h=>same i _ (by omega) h,r.ma.aP c b λi hi h=>same i _ (by omega) h,r.wa.aP c b λi hi h=>same i _ (by omega) h,λA=>(by cases A),r.kn,r.li,r.fi⟩
 .refine O6 (o.own u.1 λa ha t=>?_) λy E=>((G y E).aP (rho':=rho') c b λi hi h=>same i _ (by omega) h) g o
  have:rho' a.block=0:=if_pos ⟨a,ha,rfl⟩;rw[this]at t;exact absurd t (HB 0)
theorem qu(r:eS k rho h D){M:Mo}{N:Nat}(m:DocM D M)(o:gQ D.enc D.limit M N)(hN:N<=68719476736){a:Int}(g4:cR .i64 a)(g6:M.lost.length+M.done.length<=4294967295) :
  wp P (qV S (some D.b) a) h λtg vs h'=>tg=0/\vs=[aH (M.Og a).1]/\jL k h rho h' D (M.Og a).2:=by
 unfold qV;have g8:=cQ.mV (k:=k) (rho:=rho) (Ext.refl h);refine r.rd (b:=.bool) D.op rfl (aG (λhc=>?_) λhc=>?_)
 .rw[dN,m.op]at hc
  have hn:M.now=none:=by cases h:M.now with
   |none=>rfl
   |some q=>rw[h]at hc;cases hc
  have:M.Og a=(71,M):=by unfold Mo.Og;rw[hn]
  rw[this];exact aC ⟨rfl,rfl,jL.ext r m (Ext.refl _)⟩
 rw[eI]at hc;have eg:=hc;rw[m.op]at hc;obtain⟨q,hm⟩:=Ci.1 hc;have cr:M.Og a=if M.ins a then (0,if CI q.kQ then M.aP q a else {M with now:=none}) else (2,M):=by unfold Mo.Og;rw[hm]
 rw[cr];refine aM (HY r a) λ⟨(y:Bool),_⟩ h1 e1 hy=>?_;have hy:y=true↔0<=a/\a<=D.E.length:=hy;have a3:M.ins a↔0<=a/\a<=D.E.length:=by unfold Mo.ins;rw[m.E]
 dsimp only;refine aG (λab=>?_) λab=>?_
 .rw[dN]at ab
  rw[if_neg (λZ=>by rw[hy.2 (a3.1 Z)]at ab;cases ab)];exact aC ⟨rfl,rfl,jL.ext r m e1⟩
 rw[eI]at ab;rw[if_pos (a3.2 (hy.1 ab))];have e9:=cQ.mV (k:=k) (rho:=rho) e1;have r1:=r.zr e1;have z1:=(KW h rho).mono e1.1;obtain⟨H,bb,w2,eh,z2,_⟩:=r1.shut eg z1;have bb:=e9.trans bb;have ao:H D.b.block=k+1:=w2.o.2 D.b rfl;obtain⟨A,u⟩:∃A,A=({D with op:=false}:Doc):=⟨_,rfl⟩;have aw:A.b=D.b:=by rw[u]
 have g3:AQ D=(AQ A).take 10++[.bool D.op]++(AQ A).drop 11:=by rw[u];rfl
 rw[<-u]at w2;have kept:∀{g g':aE} {p:aE->Prop},Mc p H g->aY (λi=>i=A.b.block) g g'->Mc p H g':=λkk c=>kk.aP c (λi hi e=>by rw[e,aw,ao];omega) λ_ _ h=>h;rw[<-aw]at ao⊢;refine w2.CW (fO rfl) rfl λh3 w3 c3 z3=>?_;have fj:=bb.trans (jS ao c3 z3);have a8:=kept eh c3;have df:(AQ D).take 10++[Value.bool false]++(AQ D).drop (10+1)=AQ A:=by rw[u];rfl
 rw[df]at w3;have r3:eS k H h3 A:={toDocP:=w3.p,ob:=w3.o};have b0:D.c=A.c:=by rw[u]
 rw[b0]at a8;refine Zs r3 ?_;dsimp only;refine aM (OP a8.now A.bg A.en A.gs) λ⟨(y:Bool),_⟩ h4 e4 a7=>?_;have a7:y=CI q.kQ:=by
  have h1:y=_:=a7;rw[h1,<-b0];exact m.Sa hm
 subst a7;have cc:=fj.trans (pF (z2.mono (by rw[z3];exact bL _)) (aY.bH (F:=λ_=>False) e4) λ_ _ f=>f.elim);have z4:Zf H h4:=z2.mono (by have:=e4.1;omega);have w4:=w3.ext e4;have ei:=a8.aP (rho':=H) (aY.bH (F:=λ_=>False) e4) (λ_ _ f=>f.elim) λ_ _ h=>h;have hE:M.E=kU M.C q.kQ:=by unfold Mo.E Mo.ch;rw[hm];rfl
 dsimp only;refine aG (λal=>?_) λal=>?_
 .rw[dN]at al
  rw[al,if_neg (by decide)];refine aC ⟨rfl,rfl,H,A,cc,{toDocP:=w4.p,ob:=w4.o},?_,aw,by rw[u],by rw[u]⟩;have bo:({M with now:=none}:Mo).E=M.E:=by
   rw[Mo.wS rfl,hE];have b8:=o.Z6;have:M.ch=q.kQ:=by unfold Mo.ch;rw[hm];rfl
   rw[this]at b8;exact(Ir b8 al).symm
  rw[u];exact⟨m.E.trans bo.symm,m.dn,m.lo,m.nx,m.ms,m.ws,rfl,λq' a5=>(by cases a5),m.sv,m.la,m.dp,m.e0,m.li⟩
 rw[eI]at al;rw[al,if_pos rfl];have g5 : -4611686018427387904<=A.last/\A.last<=4611686018427387904:=by
  have h1:A.last=M.last:=by rw[u];exact m.la
  have h2:=o.la;have h3:=o.sz;unfold Mo.sz at h3;omega
 have r4:eS k H h4 A:={toDocP:=w4.p,ob:=w4.o};refine w4.rd (b:=bI) A.last rfl ?_;rw[bG (by omega) (by omega)];refine w4.CW (fO rfl) rfl λh5 w5 c5 z5=>?_;have fl:=cc.trans (jS ao c5 z5);have er:=kept ei c5;have sh:∀j,aB (aB (some A.b) 11) j=aB (some A.b) (11+j):=λj=>by show some ((A.b.add 11).add j)=some (A.b.add (11+j));rw[add_add]
 refine aL rfl (aL rfl (aL rfl ?_));rw[sh 2];refine w5.put [aH a] (fO rfl) (fO rfl) (by intro v hv;rw[dE.1 hv];rfl) λh6 w6 c6 z6=>?_;have fm:=fl.trans (jS ao c6 z6);have ey:=kept er c6;refine w6.rd (b:=bI) (A.last+1) rfl (aL rfl (aL rfl (aL rfl ?_)));rw[sh 3];refine w6.put [aH (A.last+1)] (fO rfl) (fO rfl) (by intro v hv;rw[dE.1 hv];rfl) λh7 w7 c7 z7=>?_;have ft:=fm.trans (jS ao c7 z7);have e2:=kept ey c7;obtain⟨d,B⟩:∃d,d=({A with last:=A.last+1,en:=a,gs:=A.last+1}:Doc):=⟨_,rfl⟩;have b1:d.b=A.b:=by rw[B]
 have r7:eS k H h7 d:=by
  rw[B];exact w7.done rfl rfl λp=>⟨p.ot,p.ea,p.et,p.HD,p.dn,p.dk,p.nx,p.nc,p.nk,p.ma,p.wa,λZ=>p.nw Z,p.kn,p.li,p.fi⟩
 rw[<-b1];have g2:h7.size=h4.size:=by omega
 have cd:Zf H h7:=z4.mono (by omega);refine r7.rd (b:=.sl) d.sd rfl (Zs r7 ?_);dsimp only;obtain⟨G,hG⟩:∃G:DG,G=⟨d.c,d.bg,d.en,d.gs⟩:=⟨_,rfl⟩;refine λel=>?_;have e8:Ext h7 (h7.push (.cells [dG d.c.1,aH d.bg,aH d.en,aH d.gs].toArray el)):=Ext.push ..;have o8:cC h7.size 1 (h7.push (.cells [dG d.c.1,aH d.bg,aH d.en,aH d.gs].toArray el)) ⟨some ⟨h7.size,0,none⟩,4,4⟩ [dG d.c.1,aH d.bg,aH d.en,aH d.gs]:=bX rfl (by decide) (by decide);show wp P _ (h7.push (.cells [dG d.c.1,aH d.bg,aH d.en,aH d.gs].toArray el)) _;generalize h7.push (.cells [dG d.c.1,aH d.bg,aH d.en,aH d.gs].toArray el)=h8 at e8 o8⊢;have T:=r7.ext e8;have fv:=ft.trans (pF cd (aY.bH (F:=λ_=>False) e8) λ_ _ f=>f.elim);have g1:=cd.mono e8.1;have e3:=e2.aP (rho':=H) (aY.bH (F:=λ_=>False) e8) (λ_ _ f=>f.elim) λ_ _ h=>h;refine⟨⟨_,rfl,aI.2 λj v hj=>?_⟩,?_⟩
 .cases j with
  |zero=>cases hj;rw[add_zero'];exact aI.1 T.ob.1.cells 5 _ rfl
  |succ j=>simp at hj
 have dr:=T.dn.1.1;rw[fT (m:=4) λ_=>rfl]at dr;have b6:d.D.map wH=M.lost++M.done:=by rw[B,u];exact m.dn
 have cg:=congrArg List.length b6;rw[cD,bM]at cg;have e7:Rd 4 h8 ⟨some ⟨h7.size,0,none⟩,1,1⟩ ([G].flatMap DW):=⟨rfl,λi v hi=>⟨_,rfl,aI.1 o8.cells i v (by rw[hG]at hi;simpa using hi)⟩⟩;refine iS T.dn.1 (cS _) e7 (by intro v hv;simp at hv;rcases hv with rfl|rfl|rfl|rfl<;>rfl) rfl (by dsimp only;omega) (by dsimp only;omega) λq9 h9 o9 l9 u9 b9 _=>?_;have Y:aY (iE d.sd) h8 h9:=aY.dP u9 λx hx _=>⟨x,hx,rfl⟩;rw[<-hQ]at o9;obtain⟨O,ct,a9,z9,J,de⟩:=RP (k:=k) (r:=k+6) g1 T.dn Y o9 b9 (by omega);have fy:=fv.trans ct;have U:∀i,i<h8.size->iE d.sd i->H i=k+6:=de;have e5:=e3.aP (rho':=O) Y (λi hi K=>by rw[U i hi K];omega) λi hi h=>by rw[J i hi];exact h
 have a4:d.op=false:=by rw[B,u]
 have cf:d.c=A.c:=by rw[B]
 have w9:Lq k O h9 {d with sd:=q9,D:=d.D++[G]} (AQ d):=by
  refine⟨?_,T.ob.aP Y (λi hi K=>by rw[U i hi K];omega) λi hi h=>by rw[J i hi];exact h⟩;refine⟨T.ot.aP Y (λi hi K=>by rw[U i hi K];omega) λi hi h=>by rw[J i hi];exact h,T.ea.aP Y (λi hi K=>by rw[U i hi K];omega) λi hi h=>by rw[J i hi];exact h,T.et.aP Y (λi hi K=>by rw[U i hi K];omega) λi hi h=>by rw[J i hi];exact h,
   T.HD.aP Y (λi hi K=>by rw[U i hi K];omega) λi hi h=>by rw[J i hi];exact h,a9,λg V=>?_,T.nx.aP Y (λi hi K=>by rw[U i hi K];omega) λi hi h=>by rw[J i hi];exact h,T.nc,
   λg V=>(T.nk g V).aP Y (λi hi K=>by rw[U i hi K];omega) λi hi h=>by rw[J i hi];exact h,T.ma.aP Y (λi hi K=>by rw[U i hi K];omega) λi hi h=>by rw[J i hi];exact h,T.wa.aP Y (λi hi K=>by rw[U i hi K];omega) λi hi h=>by rw[J i hi];exact h,λZ=>?_,T.kn,T.li,T.fi⟩
  .rcases dD.1 V with V|V
   .exact(T.dk g V).aP Y (λi hi K=>by rw[U i hi K];omega) λi hi h=>by rw[J i hi];exact h
   .rw[dE.1 V,hG]
    show Mc (λh=>AK.ok h d.c) O h9;rw[cf];exact e5
  .have Z:d.op=true:=Z
   rw[a4]at Z;cases Z
 have a6:O d.b.block=k+1:=w9.o.2 d.b rfl;refine w9.CW (fO rfl) rfl λbp gf a0 gv=>gf.CW (fO rfl) rfl λbs gg a1 gw=>?_;have a0:aY (λi=>i=d.b.block) h9 bp:=a0;have a1:aY (λi=>i=d.b.block) bp bs:=a1;have ba:=(fy.trans (jS a6 a0 gv)).trans (jS a6 a1 gw);obtain⟨z,I⟩:∃z,z=({d with sd:=q9,D:=d.D++[G],sn:=⟨none,0,0⟩,R:=[]}:Doc):=⟨_,rfl⟩;have b2:z.b=d.b:=by rw[I]
 have W:eS k O bs z:=by
  rw[I];exact gg.done rfl rfl λp=>⟨p.ot,p.ea,p.et,p.HD,p.dn,p.dk,λg c=>⟨rfl,λi v hi=>by simp at hi⟩,⟨bL 0,(by decide:0<2^63)⟩,λg V=>(by cases V),p.ma,p.wa,λZ=>p.nw Z,p.kn,p.li,p.fi⟩
 rw[<-b2];have ec:(M.aP q a).E=M.E:=by rw[Mo.wS (M:=M.aP q a) rfl];exact Mo.Uo hm
 have dx:wH G=⟨q.kQ,q.bg,a,M.last+1⟩:=by
  have n:=m.nw q hm;rw[hG,B,u];show(⟨D.c.2.map λe=>e.2.map gH,D.bg,a,D.last+1⟩:GM)=_;rw[n.1,n.2.1,m.la]
 have b3:z.D.map wH=(M.aP q a).lost++(M.aP q a).done:=by
  rw[Mo.CM,I];show(d.D++[G]).map wH=_;rw[dL,b6];show _++[wH G]=_;rw[dx]
 have b4:z.lost=M.lost.length:=by rw[I,B,u];exact m.lo
 have ds:z.depth=M.depth:=by rw[I,B,u];exact m.dp
 have g7:(z.sd.len:Int)=M.lost.length+M.done.length+1:=by
  have h1:=W.dn.1.1;rw[fT (m:=4) λ_=>rfl]at h1;have h2:=congrArg List.length b3;rw[cD,Mo.CM]at h2;simp at h2;omega
 have fin:∀(L:Int) (D3:Doc),L=(M.aP q a).lost.length->D3={z with lost:=L}->DocM D3 (M.aP q a)/\D3.b=D.b/\D3.enc=D.enc/\D3.limit=D.limit:=λL D3 hL c4=>by
  have c8:z.E=M.E:=by rw[I,B,u];exact m.E
  subst c4;refine⟨⟨by rw[ec];exact c8,b3,hL,?_,?_,?_,?_,λq' a5=>(by cases a5),?_,?_,ds,?_,?_⟩,?_,?_,?_⟩
  .show z.R.map wH=[];rw[I];rfl
  .show z.ms=M.marks;rw[I,B,u];exact m.ms
  .show z.ws=M.watched;rw[I,B,u];exact m.ws
  .show z.op=false;rw[I];exact a4
  .show z.saved=M.saved;rw[I,B,u];exact m.sv
  .show z.last=M.last+1;rw[I,B,u];show D.last+1=_;rw[m.la]
  .show gT 0 0 (bC z.enc z.lb)=M.E0;rw[I,B,u];exact m.e0
  .show(z.lb.length:Int)<=z.limit;rw[I,B,u];exact m.li
  .show z.b=D.b;rw[b2,b1,aw]
  .show z.enc=D.enc;rw[I,B,u]
  .show z.limit=D.limit;rw[I,B,u]
 have bd:O z.b.block=k+1:=W.ob.2 z.b rfl;refine eN (λt vs h'=>t=0/\vs=[]/\jL k h rho h' D (M.aP q a)) ?_ ?_
 .refine W.rd (b:=.sl) z.sd rfl (W.rd (b:=bI) z.lost rfl (W.rd (b:=bI) z.depth rfl ?_))
  rw[aN,cY (by omega) (by omega)];refine aG (λV=>?_) λV=>?_
  .rw[dQ]at V
   have a2:M.depth<(M.done.length:Int)+1:=by omega
   refine W.rd (b:=bI) z.lost rfl ?_;rw[bG (by omega) (by omega)];refine W.w.CW (fO rfl) rfl λbt gm cx g0=>?_;have e6:eS k O bt {z with lost:=z.lost+1}:=gm.done rfl rfl λp=>⟨p.ot,p.ea,p.et,p.HD,p.dn,p.dk,p.nx,p.nc,p.nk,p.ma,p.wa,λZ=>p.nw Z,p.kn,p.li,p.fi⟩;have hL:z.lost+1=((M.aP q a).lost.length:Int):=by
    unfold Mo.aP;dsimp only;rw[if_pos a2,b4];have:(M.done++[(⟨q.kQ,q.bg,a,M.last+1⟩:GM)]).length=M.done.length+1:=by simp
    rw[bM,dJ];push_cast;omega
   obtain⟨f1,f2,f3,f4⟩:=fin _ _ hL rfl;exact aC ⟨rfl,rfl,O,_,ba.trans (jS bd cx g0),e6,f1,f2,f3,f4⟩
  .rw[gC]at V
   have a2:¬M.depth<(M.done.length:Int)+1:=by omega
   have hL:z.lost=((M.aP q a).lost.length:Int):=by
    unfold Mo.aP;dsimp only;rw[if_neg a2,b4]
   obtain⟨f1,f2,f3,f4⟩:=fin _ _ hL rfl;exact aC ⟨rfl,rfl,O,z,ba,W,f1,f2,f3,f4⟩
 .rintro t vs bt ⟨rfl,rfl,dp⟩
  exact bK (bV (aC ⟨rfl,rfl,dp⟩))
end
section
variable{P:Program}{S:cG}{h:aE}{Q:Nat->bE->aE->Prop}{k:Nat}{rho:Nat->Nat}{D:Doc}
variable{i:Nat}{es:List gY}
theorem Lr.at{enc limit:Int}:∀{cs:List (List gY)} {E:List El} {j:Nat} {c:List gY},Ma enc limit E->Lr enc limit E cs->cs[j]?=some c->c.length<=70000/\HL enc limit (kU E (cs.take j)) c/\Ma enc limit (kU E (cs.take j))
 |[],_,_,_,_,_,b=>by simp at b
 |d::cs,E,0,c,he,⟨f,h2,h3⟩,b=>by
  simp at b;subst b;exact⟨f,h2,he⟩
 |d::cs,E,j+1,c,he,⟨f,h2,h3⟩,b=>by
  have:=Lr.at (E:=iI E d) (cs:=cs) (j:=j) (c:=c) (he.all h2) h3 (by simpa using b);exact this
theorem HK.at{enc limit:Int}:∀{l:List GM} {E:List El} {i:Nat} {g:GM},Ma enc limit E->HK enc limit E l->l[i]?=some g->Lr enc limit (iC E (l.take i)) g.kQ/\Ma enc limit (iC E (l.take i))
 |[],_,_,_,_,_,b=>by simp at b
 |d::l,E,0,g,he,⟨c,h2⟩,b=>by
  simp at b;subst b;exact⟨c,he⟩
 |d::l,E,i+1,g,he,⟨c,h2⟩,b=>HK.at (E:=kU E d.kQ) (l:=l) (i:=i) (g:=g) (c.ok he) h2 (by simpa using b)
theorem W4{cs:List (List gY)}{E:List El}{j:Nat}{c:List gY}(b:cs[j]?=some c):kU E (cs.take (j+1))=iI (kU E (cs.take j)) c:=by
 rw[eG,b];exact Nu ..
theorem UA{l:List GM}{E:List El}{g:GM}(hi:l[i]?=some g):iC E (l.take (i+1))=kU (iC E (l.take i)) g.kQ:=by
 rw[eG,hi];exact xM ..
theorem O7{enc limit:Int}{E:List El}(o:HL enc limit E es):((aU es).length:Int)<=limit:=by
 obtain⟨d,h2,h3⟩:=o;have b:=Pz (E:=E) (nJ 0) (by omega) d;have c:=JU (enc:=enc) (E:=E) (a:=0) h2;have f:iI E es=fwd E 0 es:=by rw[b];rfl
 rw[<-f]at c;have g:=NF h2;have j:=(Hl h2).1;omega
theorem W2{enc limit q:Int}{E:List El}(b:es.length<=70000)(o:HL enc limit E es)(h:Ez enc limit E es q):q=0:=
 h.fn (.inr (.inr (.inr (.inr ⟨b,o.1,o.2.1,o.2.2,rfl⟩))))
theorem ij{b:B}{a:Nat}{m c:Nat}{vs:bE}(x:b.den){n:Nat}{K:b.den->aK}(o:cC n 1 h ⟨some (B9 a),m,c⟩ vs)(f:vs[i]?=some (b.inj x))(d:wp P (K x) h Q) :
  wp P (bD (aJ (some (B9 a)))<|bD (aJ (some (B9 a)))<|.load (.one b) (aB (some (B9 a)) i) K) h Q:=
 aL rfl (aL rfl (bY (b:=b) x rfl o.cells f d))
theorem Zt{s:Sl}{l:List DG}{g:DG}{K:Sl->aK}(o:Rd 4 h s (l.flatMap DW))(hi:l[i]?=some g)(d:wp P (K g.c.1) h Q) :
  wp P (bD (bN (aJ s.aD) (eV (i:Int) s.len))<|bD (aJ (aB s.aD (bB (bP (i:Int)) 4)))<|.load (tS) (aB (aB s.aD (bB (bP (i:Int)) 4)) 0) K) h Q:=by
 have r:=(eK.1 hi).1;have f:=o.1;rw[fT (m:=4) λ_=>rfl]at f;obtain⟨a,ea,b⟩:=o.2 (i*4+0) (dG g.c.1) (by rw[Iw (m:=4) (λ_=>rfl) hi (by decide)];rfl);refine aL (fD.2 ⟨by rw[ea];rfl,lR.2 ⟨by omega,by omega⟩⟩) (aL (by rw[ea];rfl) ?_);have j:aB (aB s.aD (bB (bP (i:Int)) 4)) 0=some (a.add (i*4+0)):=by
  rw[ea,gX,eR,cN];show some ((a.add (i*4)).add 0)=_;rw[add_add]
 rw[j];exact aX _ g.c.1 rfl b d
theorem Ud(r:eS k rho h D)(z:Zf rho h){E0:List El}(h0:gT 0 0 (bC D.enc D.lb)=E0)(df:(D.lb.length:Int)<=D.limit)(oe:Ma D.enc D.limit E0)(og:HK D.enc D.limit E0 (D.D.map wH))(b4:∀g∈D.D,g.c.2.length<=4294967296)(c9:D.D.length<=4294967296) :
  wp P (mL S (some D.b)) h λtg vs h'=>tg=0/\vs=[]/\∃sa st,aY (λi=>i=D.t) h h'/\eS k rho h' {D with sa:=sa,st:=st,E:=iC E0 (D.D.map wH)}:=by
 unfold mL;have li:=r.li;refine r.rd (b:=bI) D.enc rfl (r.rd (b:=.sl) D.sb rfl (r.rd (b:=bI) D.limit rfl ?_));refine aM (OQ r.HD.now (by omega)) λ⟨(pp:OA),(ee:Int),_⟩ h1 e1 B=>?_;have B:Ey h h1 D.enc D.limit D.lb pp ee:=B;obtain⟨R,rfl,a7,bt,b0,b1,a8⟩:∃R:RX,pp=some (B9 R.b)/\AM h.size h1 R/\R.enc=D.enc/\R.limit=D.limit/\R.E=E0/\∀i,R.Z i->h.size<=i:=by
  cases B with
  |enc h=>exact absurd r.kn h
  |arg _ h=>exact absurd li h
  |full _ _ h=>omega
  |ok R _ _ _ a b c _ _ d e=>exact⟨R,rfl,a,b,c,by rw[d,h0],e⟩
 clear B;obtain⟨rb,a5⟩:∃rb,rb=R.b:=⟨_,rfl⟩;rw[<-a5];have ds:h.size<=rb:=by rw[a5];exact a8 _ a7.zb
 dsimp only;have a0:=r.dn.1.1;rw[fT (m:=4) λ_=>rfl]at a0;have a0:D.sd.len=D.D.length:=by omega
 have b8:aQ D.sd.len=(D.D.length:Int):=by rw[aN,a0]
 have bd:∀{g:aE} {T:RX} {c:Gr} {E:List El} {K:aK} {Q:Nat->bE->aE->Prop},Ext h g->AM h.size g T->T.b=rb->T.enc=D.enc->T.limit=D.limit->T.E=E->(∀i,T.Z i->h.size<=i)->(Sh.list jD).ok g c->c.2.length<=70000->HL D.enc D.limit E c.2->Ma D.enc D.limit E ->
   (∀g' H,Ext h g'->AM h.size g' H->H.b=rb->H.enc=D.enc->H.limit=D.limit->H.E=iI E c.2->(∀i,H.Z i->h.size<=i)->wp P K g' Q)->wp P (.call (jZ S (some (B9 rb)) c.1) [tI] λ_=>K) g Q:=by
  intro g T c E K Q eg I U te tl C tz ok cl oc oE hk;have dr:=O7 oc;have c8:=oE.len;rw[<-U];refine eU (Ki I eg.1 ok (by rw[C];omega) (by omega) (by omega)) λtg vs g1 hq=>?_;obtain⟨rfl,q,H,rfl,hE,b2,c1,t1,t2,t3,t4,_,t5,t6,t7⟩:=hq;have cd:q=0:=by
   rw[te,tl,C]at hE;exact W2 cl oc hE
  subst cd;rw[if_pos rfl]at t5;refine⟨rfl,(0,()),rfl,hk g1 H ?_ b2 (t1.trans U) (t2.trans te) (t3.trans tl) (by rw[t5,C]) λi hi=>?_⟩
  .refine⟨dI eg.1 c1.1,λi hi=>(c1.2.1 i (pI hi eg.1) λe=>?_).trans (eg.2.1 i hi),λa ha=>c1.2.2 a (eg.2.2 a ha)⟩
   dsimp only at e;omega
  .rcases t7 i hi with h|h
   .exact tz i h
   .exact dI eg.1 h
 refine bO (λ(s:Int×Unit) h'=>Ext h h'/\∃(i:Nat) (T:RX),s.1=i/\i<=D.D.length/\AM h.size h' T/\T.b=rb/\T.enc=D.enc/\T.limit=D.limit/\T.E=iC E0 ((D.D.map wH).take i)/\∀j,T.Z j->h.size<=j) (λs _=>((D.D.length:Int)-s.1).toNat)
  (λt vs h'=>Ext h h'/\t=2/\vs=[]/\∃T:RX,AM h.size h' T/\T.b=rb/\T.enc=D.enc/\T.limit=D.limit/\T.E=iC E0 (D.D.map wH)/\∀j,T.Z j->h.size<=j) ⟨e1,0,R,rfl,cS _,a7,a5.symm,bt,b0,by rw[b1];rfl,a8⟩ ?_ ?_
 .rintro⟨(si:Int),u⟩ h2 ⟨e2,i,T,hi,hle,I,U,te,tl,C,tz⟩
  dsimp only at hi⊢;subst hi;have w:=r.ext e2;refine w.rd (b:=.sl) D.sd rfl ?_;rw[b8];refine aG (λhc=>?_) λhc=>?_
  .rw[aV]at hc
   have b9:i<D.D.length:=by omega
   obtain⟨g,G⟩:∃g,D.D[i]?=some g:=⟨D.D[i],cM b9⟩;have a9:(D.D.map wH)[i]?=some (wH g):=by rw[fX,G];rfl
   obtain⟨oc,oE⟩:=og.at oe a9;have de:=b4 g (eL G);generalize bs:iC E0 ((D.D.map wH).take i)=Ei at C oc oE;refine bO (λ(s:Int×Unit) h'=>Ext h h'/\∃(j:Nat) (T:RX),s.1=j/\j<=g.c.2.length/\AM h.size h' T/\T.b=rb/\T.enc=D.enc/\T.limit=D.limit/\T.E=kU Ei ((wH g).kQ.take j)/\∀j,T.Z j->h.size<=j) (λs _=>((g.c.2.length:Int)-s.1).toNat)
    (λt vs h'=>Ext h h'/\t=4/\vs=[]/\∃T:RX,AM h.size h' T/\T.b=rb/\T.enc=D.enc/\T.limit=D.limit/\T.E=kU Ei (wH g).kQ/\∀j,T.Z j->h.size<=j) ⟨e2,0,T,rfl,cS _,I,U,te,tl,C,tz⟩ ?_ ?_
   .rintro⟨(sj:Int),u⟩ h3 ⟨e3,j,T3,hj,c7,V,Y,ab,al,J,ao⟩
    dsimp only at hj⊢;subst hj;have r3:=r.ext e3;have a6:AK.ok h3 g.c:=(r3.dk g (eL G)).now;have b6:aQ g.c.1.len=(g.c.2.length:Int):=by rw[aN,a6.1]
    refine r3.rd (b:=.sl) D.sd rfl (Zt r3.dn.1.rd G ?_);rw[b6];refine aG (λaw=>?_) λaw=>?_
    .rw[aV]at aw
     have bo:j<g.c.2.length:=by omega
     obtain⟨y,B⟩:∃y,g.c.2[j]?=some y:=⟨g.c.2[j],cM bo⟩;have bb:(wH g).kQ[j]?=some (y.2.map gH):=by show(g.c.2.map _)[j]?=_;rw[fX,B];rfl
     obtain⟨c1,c2,c3⟩:=oc.at oE bb;rw[cD]at c1;rw[DI]at c2;refine r3.rd (b:=.sl) D.sd rfl (Zt r3.dn.1.rd G (NB a6 B ?_));refine bd e3 V Y ab al J ao (a6.el B) c1 c2 c3 λg4 T4 e4 b3 ct cx c5 cr c6=>?_;rw[bG (by omega) (by omega)];refine aC ⟨λ_=>⟨((j:Int)+1,()),rfl,⟨e4,j+1,T4,by push_cast;rfl,by omega,b3,ct,cx,c5,?_,c6⟩,by dsimp only;omega⟩,λO=>absurd rfl O⟩;rw[cr,W4 bb,C5]
    .rw[aZ]at aw
     have:j=g.c.2.length:=by omega
     subst this;have cf:(wH g).kQ.take g.c.2.length=(wH g).kQ:=iF (by show(g.c.2.map _).length<=_;rw[cD];exact bL _);rw[cf]at J;exact aC ⟨λO=>absurd O (by decide),λ_=>⟨e3,rfl,rfl,T3,V,Y,ab,al,J,ao⟩⟩
   .rintro t vs h3 ⟨e3,rfl,rfl,T3,V,Y,ab,al,J,ao⟩
    refine bK (bV ?_);rw[bG (by omega) (by omega)];refine aC ⟨λ_=>⟨((i:Int)+1,()),rfl,⟨e3,i+1,T3,by push_cast;rfl,by omega,V,Y,ab,al,?_,ao⟩,by dsimp only;omega⟩,λO=>absurd rfl O⟩;rw[J,UA a9,bs]
  .rw[aZ]at hc
   have:i=D.D.length:=by omega
   subst this;rw[iF (by rw[cD];exact bL _)]at C;exact aC ⟨λO=>absurd O (by decide),λ_=>⟨e2,rfl,rfl,T,I,U,te,tl,C,tz⟩⟩
 .rintro t vs h2 ⟨e2,rfl,rfl,T,I,U,te,tl,C,tz⟩
  refine bK (bV ?_);have w:=r.ext e2;have ba:rho D.t=k+2:=r.ot.2 (B9 D.t) rfl;have dx:D.t<h.size:=(r.ot.1.lt rfl).2;have ob:=I.ob;rw[U]at ob;have cc:D.t≠rb:=by omega
  refine w.rd (b:=.ptr) (some (B9 D.t)) rfl (ij (b:=.sl) T.sa ob rfl (aL rfl (aL rfl (eW (dG T.sa) w.ot.1 (by simp[qv]) rfl λh3 o3 u3=>?_))));have c3:aY (λi=>i=D.t) h2 h3:=aY.dP u3 λx hx _=>by cases hx;rfl
  have cg:=c3.own ob λx hx e=>by cases hx;exact cc e.symm
  have bp:=w.ob.aP c3 (rho':=rho) (λi hi e=>by rw[e,ba];omega) λ_ _ h=>h;refine aL rfl (aL rfl (bY (b:=.ptr) (some (B9 D.t)) rfl bp.1.cells rfl ?_));refine ij (b:=.sl) T.st cg rfl (aL rfl (aL rfl (eW (dG T.st) o3 (by simp[qv]) rfl λh4 o4 u4=>aC ⟨rfl,rfl,T.sa,T.st,?_⟩)));have c4:aY (λi=>i=D.t) h3 h4:=aY.dP u4 λx hx _=>by cases hx;rfl
  have o:aY (λi=>i=D.t) h2 h4:=c3.trans c4 λ_ _ e=>e;refine⟨aY.pre e2 o,?_⟩;have A:∀i,i<h2.size->i=D.t->rho i=k+2:=λi _ e=>by rw[e];exact ba
  have W:∀i,YK (T.sa,T.st,T.E) i->rho i=0/\i≠D.t:=λi hi=>by
   have h1:=tz i (I.zc i hi).1;exact⟨z i h1,by omega⟩
  have cur:=I.cur.oQ o λi hi e=>(W i hi).2 e;rw[C]at cur W;exact{
   ob:=w.ob.aP o (λi hi f=>by have:=A i hi f;omega) λ_ _ h=>h
   ot:=⟨o4,r.ot.2⟩
   ea:=⟨⟨cur.1.own.mono (cS _),cur.1.wf⟩,λa ha=>(W _ (.inl ⟨a,ha,rfl⟩)).1⟩
   et:=⟨⟨cur.2.own.mono (cS _),cur.2.wf⟩,λa ha=>(W _ (.inr ⟨a,ha,rfl⟩)).1⟩
   HD:=w.HD.aP o (λi hi f=>by have:=A i hi f;omega) λ_ _ h=>h
   dn:=w.dn.aP o (λi hi f=>by have:=A i hi f;omega) λ_ _ h=>h
   dk:=λg G=>(w.dk g G).aP o (λi hi f=>by have:=A i hi f;omega) λ_ _ h=>h
   nx:=w.nx.aP o (λi hi f=>by have:=A i hi f;omega) λ_ _ h=>h
   nc:=r.nc
   nk:=λg G=>(w.nk g G).aP o (λi hi f=>by have:=A i hi f;omega) λ_ _ h=>h
   ma:=w.ma.aP o (λi hi f=>by have:=A i hi f;omega) λ_ _ h=>h
   wa:=w.wa.aP o (λi hi f=>by have:=A i hi f;omega) λ_ _ h=>h
   nw:=λho=>by
    obtain⟨a1,a2,a3,a4⟩:=w.nw ho;exact⟨a1.aP o (λi hi f=>by have:=A i hi f;omega) λ_ _ h=>h,λy B=>(a2 y B).aP o (λi hi f=>by have:=A i hi f;omega) λ_ _ h=>h,a3.aP o (λi hi f=>by have:=A i hi f;omega) λ_ _ h=>h,a4.aP o (λi hi f=>by have:=A i hi f;omega) λ_ _ h=>h⟩
   kn:=r.kn
   li:=r.li
   fi:=(og.ok oe).1}
end
section
variable{P:Program}{S:cG}{h:aE}{Q:Nat->bE->aE->Prop}{k:Nat}{rho:Nat->Nat}{D:Doc}
variable{M:Mo}{N:Nat}
theorem cv{l:List GM}{a b:Int}(hm:l.Pairwise λx y=>x.st<y.st)(c:∀g∈l,a<g.st/\g.st<=b)(K5:a<=b):(l.length:Int)<=b-a:=by
 induction l generalizing a with
 |nil=>simp;omega
 |cons g l m=>
  obtain⟨f,h2⟩:=Bh.1 hm;have j:=c g (cX ..);have:=m (a:=g.st) h2 (λx d=>⟨f x d,(c x (dZ _ d)).2⟩) j.2;rw[fF];push_cast;omega
theorem gQ.EB{enc limit:Int}(o:gQ enc limit M N):M.all.length<=N:=by
 have d:=cv (a:=0) (b:=M.last) o.mono (λg c=>o.Bq g c) o.la;have h2:=o.sz;unfold Mo.sz at h2;omega
theorem DocM.jc(m:DocM D M)(o:gQ D.enc D.limit M N)(b:N<=68719476736):Ma D.enc D.limit M.E0/\HK D.enc D.limit M.E0 (D.D.map wH):=by
 refine⟨o.e0,?_⟩;rw[m.dn];exact(HK.append.1 o.ok).1
theorem DocM.small(m:DocM D M)(o:gQ D.enc D.limit M N)(r:N<=4294967296):(∀g∈D.D,g.c.2.length<=4294967296)/\D.D.length<=4294967296:=by
 have b:=o.EB;have h2:=congrArg List.length m.dn;rw[cD]at h2;unfold Mo.all at b;rw[bM]at b;refine⟨λg d=>?_,by omega⟩;have h3:wH g∈M.all:=by
  unfold Mo.all;rw[<-m.dn];exact oM _ (dC.2 ⟨g,d,rfl⟩)
 have f:=PL o.sz h3;have j:(wH g).kQ.length=g.c.2.length:=by unfold wH;simp
 omega
open Classical in
theorem Lq.back{cs:bE}{rho:Nat->Nat}(w:Lq k rho h D cs)(E:D.op=false)(B:sU (k+7) 2 rho h D.so (D.om.flatMap Gp))(y:BH (k+8) rho h D.sv D.ow) :
  ∃rho',cQ k h rho h rho'/\Lq k rho' h {D with sm:=D.so,ms:=D.om,sw:=D.sv,ws:=D.ow} cs:=by
 let rho':Nat->Nat:=λi=>if iE D.so i then k+3 else if iE D.sv i then k+4 else rho i
 have z:∀i,iE D.so i->rho i=k+7:=λi ⟨a,ha,e⟩=>by rw[<-e];exact B.2 a ha
 have C:∀i,iE D.sv i->rho i=k+8:=λi ⟨a,ha,e⟩=>by rw[<-e];exact y.2 a ha
 have same:∀i r,r≠k+7->r≠k+8->rho i=r->rho' i=r:=λi r G A he=>by
  show(if iE D.so i then k+3 else if iE D.sv i then k+4 else rho i)=r;rw[if_neg λb=>G ((z i b).symm.trans he).symm,if_neg λb=>A ((C i b).symm.trans he).symm];exact he
 have c:=aY.refl (λ_=>False) h;have d:∀{r:Nat} (i:Nat),i<h.size->(λ_:Nat=>False) i->rho i≠r:=λi _ f=>f.elim;have p:=w.p;refine⟨rho',⟨aY.refl _ _,λi hi j=>same i _ (by omega) (by omega) rfl,λi hi j=>?_⟩,⟨?_,w.o.aP c d λi hi h=>same i _ (by omega) (by omega) h⟩⟩
 .by_cases b:iE D.so i
  .rw[show rho' i=k+3 from if_pos b];omega
  .by_cases t:iE D.sv i
   .rw[show rho' i=k+4 from(if_neg b).trans (if_pos t)];omega
   .rw[show rho' i=rho i from(if_neg b).trans (if_neg t)]
    rcases j with j|j
    .omega
    .exact .inr j
 .refine⟨p.ot.aP c d λi hi h=>same i _ (by omega) (by omega) h,p.ea.aP c d λi hi h=>same i _ (by omega) (by omega) h,p.et.aP c d λi hi h=>same i _ (by omega) (by omega) h,p.HD.aP c d λi hi h=>same i _ (by omega) (by omega) h,p.dn.aP c d λi hi h=>same i _ (by omega) (by omega) h,
   λg u=>(p.dk g u).aP c d λi hi h=>same i _ (by omega) (by omega) h,p.nx.aP c d λi hi h=>same i _ (by omega) (by omega) h,p.nc,λg u=>(p.nk g u).aP c d λi hi h=>same i _ (by omega) (by omega) h,
   ⟨B.1,λa ha=>if_pos ⟨a,ha,rfl⟩⟩,⟨y.1,λa ha=>?_⟩,λm=>(by have m:D.op=true:=m;rw[E]at m;cases m),p.kn,p.li,p.fi⟩
  refine(if_neg λb=>?_).trans (if_pos ⟨a,ha,rfl⟩);have H:=z _ b;have h2:=y.2 a ha;omega
theorem jx(r:eS k rho h D)(m:DocM D M)(o:gQ D.enc D.limit M N)(hN:N<=4294967296) :
  wp P (pL S (some D.b)) h λtg vs h'=>tg=0/\vs=[aH M.DY.1,aH M.DY.2.1]/\jL k h rho h' D M.DY.2.2:=by
 unfold pL;refine r.rd (b:=.bool) D.op rfl (aG (λu=>?_) λu=>?_)
 .rw[dN,m.op]at u
  have hn:M.now=none:=by cases h:M.now with
   |none=>rfl
   |some q=>rw[h]at u;cases u
  have:M.DY=(0,71,M):=by unfold Mo.DY;rw[hn]
  rw[this];exact aC ⟨rfl,rfl,jL.ext r m (Ext.refl _)⟩
 rw[eI]at u;have ao:=u;rw[m.op]at u;obtain⟨q,hm⟩:=Ci.1 u;have hd:M.DY=(q.bg,0,{M with now:=none,marks:=q.om,watched:=q.ow}):=by unfold Mo.DY;rw[hm]
 rw[hd];have a7:=cQ.mV (k:=k) (rho:=rho) (Ext.refl h);have r0:=r.zr (Ext.refl h);obtain⟨g,U,W,_,z2,n3,n4⟩:=r0.shut ao (KW h rho);have a8:=a7.trans U;have z:g D.b.block=k+1:=W.o.2 D.b rfl;obtain⟨j,d⟩:∃j,j=({D with op:=false}:Doc):=⟨_,rfl⟩;have I:j.b=D.b:=by rw[d]
 rw[<-d]at W;rw[<-I]at z⊢;refine W.CW (fO rfl) rfl λh3 Y c3 z3=>?_;have a9:=a8.trans (jS z c3 z3);have al:(AQ D).take 10++[Value.bool false]++(AQ D).drop (10+1)=AQ j:=by rw[d];rfl
 rw[al]at Y;have r3:eS k g h3 j:={toDocP:=Y.p,ob:=Y.o};have a2:=n3.aP (rho':=g) c3 (λi hi e=>by rw[e,z];omega) λ_ _ h=>h;have a3:=n4.aP (rho':=g) c3 (λi hi e=>by rw[e,z];omega) λ_ _ h=>h;obtain⟨oe,og⟩:=m.jc o (by omega);obtain⟨s1,s2⟩:=m.small o hN;have A:j.D=D.D:=by rw[d]
 refine eU (Ud r3 (z2.mono (by omega)) (E0:=M.E0) (by rw[d];exact m.e0) (by rw[d];exact m.li) (by rw[d];exact oe) (by rw[d];exact og) (by rw[A];exact s1) (by rw[A];exact s2)) λtg vs h4 hq=>?_;obtain⟨rfl,rfl,sa,sT,T,r4⟩:=hq;have C:g j.t=k+2:=r3.ot.2 (B9 j.t) rfl;refine⟨rfl,(),rfl,?_⟩;have ba:=a9.trans (pF (z2.mono (by omega)) T λi _ e=>by rw[e,C];omega);have G:=a2.aP (rho':=g) T (λi hi e=>by rw[e,C];omega) λ_ _ h=>h;have H:=a3.aP (rho':=g) T (λi hi e=>by rw[e,C];omega) λ_ _ h=>h;obtain⟨c,f⟩:∃c,c=({j with sa:=sa,st:=sT,E:=iC M.E0 (j.D.map wH)}:Doc):=⟨_,rfl⟩;rw[<-f]at r4;have J:c.b=j.b:=by rw[f]
 rw[<-J];have a0:c.so=D.so:=by rw[f,d]
 have a1:c.sv=D.sv:=by rw[f,d]
 have K:c.om=D.om:=by rw[f,d]
 have O:c.ow=D.ow:=by rw[f,d]
 rw[<-a0,<-K]at G;rw[<-a1,<-O]at H;obtain⟨y,V,Z⟩:=r4.w.back (by rw[f,d]) G H;have bb:=ba.trans V;have B:y c.b.block=k+1:=Z.o.2 c.b rfl;refine Z.rd (b:=.sl) c.so rfl (Z.CW (fO rfl) rfl λh6 w6 c6 z6=>w6.rd (b:=.sl) c.sv rfl (w6.CW (fO rfl) rfl λh7 w7 c7 z7=>?_));have bd:=(bb.trans (jS B c6 z6)).trans (jS B c7 z7);obtain⟨bo,a4,a5,a6⟩:=m.nw q hm;have r7:eS k y h7 {c with sm:=c.so,ms:=c.om,sw:=c.sv,ws:=c.ow}:=w7.done rfl rfl λp=>p;refine aL rfl (aL rfl (aL rfl ?_));have ab:aB (aB (some c.b) 11) 1=aB (some c.b) 12:=by show some ((c.b.add 11).add 1)=some (c.b.add 12);rw[add_add]
 rw[ab];refine bY (b:=bI) c.bg rfl r7.ob.1.cells rfl (aC ⟨rfl,?_,y,_,bd,r7,?_,?_,?_,?_⟩)
 .show[aH c.bg,aH 0]=_
  rw[f,d];show[aH D.bg,aH 0]=_;rw[a4]
 .have hE:({M with now:=none,marks:=q.om,watched:=q.ow}:Mo).E=iC M.E0 (M.lost++M.done):=Mo.wS rfl
  refine⟨?_,?_,?_,?_,?_,?_,?_,λq' aw=>(by cases aw),?_,?_,?_,?_,?_⟩
  .show c.E=_;rw[hE,f];show iC M.E0 (j.D.map wH)=_;rw[A,m.dn]
  .show c.D.map wH=_;rw[f,d];exact m.dn
  .show c.lost=_;rw[f,d];exact m.lo
  .show c.R.map wH=_;rw[f,d];exact m.nx
  .show c.om=q.om;rw[K];exact a5
  .show c.ow=q.ow;rw[O];exact a6
  .show c.op=false;rw[f,d]
  .show c.saved=_;rw[f,d];exact m.sv
  .show c.last=_;rw[f,d];exact m.la
  .show c.depth=_;rw[f,d];exact m.dp
  .show gT 0 0 (bC c.enc c.lb)=_;rw[f,d];exact m.e0
  .show(c.lb.length:Int)<=c.limit;rw[f,d];exact m.li
 .show c.b=D.b;rw[J,I]
 .show c.enc=D.enc;rw[f,d]
 .show c.limit=D.limit;rw[f,d]
end
section
variable{P:Program}{S:cG}{h:aE}{Q:Nat->bE->aE->Prop}{k:Nat}{rho:Nat->Nat}{D:Doc}
variable{L:Int}
def Tx(L:Int)(ms:uK)(ws:aW):Prop:=(∀e∈ms,0<=e.2/\e.2<=L)/\∀v∈ws,v<=L
theorem Vs{m:List mE}{ms:uK}{ws:aW}(d:0<=L)(b:RB L 0 m)(hm:Tx L ms ws):Tx (L+AB m) (lK m ms) (kX m ws):=by
 have g:=Ga b d;refine⟨λe he=>?_,λv f=>?_⟩
 .obtain⟨x,c,rfl⟩:=dC.1 he
  have:=hm.1 x c;exact MK b this.1 this.2
 .obtain⟨x,c,rfl⟩:=dC.1 f
  have:=hm.2 x c;unfold wv;split
  .omega
  .split
   .exact(MK b (by omega) this).2
   .omega
theorem Tx.Xn{b:Int}{ms:uK}{ws:aW}:∀{l:List (List mE)} {a:Int},Lp a l b->Tx b ms ws->Tx a (wE l ms) (zH l ws)
 |[],_,⟨_,_,e⟩,hm=>e ▸ hm
 |m::l,a,⟨h0,d,h2,h3,c⟩,hm=>by
  have f:=Tx.Xn c hm;have hb:=P8 h0 d c.lo.2 h2 h3;have:=Vs c.lo.1 hb.2 f;rw[NJ,show a+AB m + -AB m=a by omega]at this;exact this
theorem Tx.W6{b:Int}:∀{l:List (List mE)} {a:Int} {ms:uK} {ws:aW},Lp a l b->Tx a ms ws->Tx b (rB l ms) (rZ l ws)
 |[],_,_,_,⟨_,_,e⟩,hm=>e ▸ hm
 |m::l,a,ms,ws,⟨h0,d,h2,h3,c⟩,hm=>Tx.W6 (ms:=lK m ms) (ws:=kX m ws) c (Vs h0 h2 hm)
theorem Tx.w{ms:uK}{ws:aW}(hm:Tx L ms ws)(c:L<=65536):(∀e∈ms,0<=e.2/\e.2<=2199023255552)/\∀v∈ws,v<=2199023255552:=
 ⟨λe he=>by have:=hm.1 e he;omega,λv b=>by have:=hm.2 v b;omega⟩
theorem Zx{n:Nat}{K:Sl->aK}(h1:n<=4398046511104)(b:∀h' r,Ext h h'->bR h.size .i64 h' r (List.replicate n 0)->wp P (K r) h' Q):wp P (.mk 8 [aH 0] (n:Int) (n:Int) K) h Q:=by
 refine⟨⟨by omega,nJ _,by omega,by omega⟩,λelem=>b _ _ (Ext.push ..) ⟨?_,?_⟩⟩
 .have d:∀n,kW [aH 0] n=(List.replicate n (0:Int)).map (.int .i64):=by
   intro n
   induction n with
   |zero=>rfl
   |succ n f=>rw[Jn,fK,<-f];rfl
  rw[cN,d];exact bX (by simp) (by decide) (by omega)
 .intro x c
  rw[(Rw.1 c).2];exact rU _
theorem ZE{l:List mE}{i:Nat}{e:mE}(hi:l[i]?=some e):NZ 0 (l.take (i+1))=NZ 0 (l.take i)+(e.2.2.1-(e.2.1-e.1)):=by
 rw[eG,hi,HA,Ht];rfl
theorem Wg{x:Gr}(ok:(Sh.list jD).ok h x)(hb:KX (x.2.map dH)):aS P (vF S x.1) [tS] h λ(y:Sl×Unit) h'=>∃l',l'.map dH=pS 0 (x.2.map dH)/\L6 h.size h' y.1 l':=by
 unfold vF aS;have hlen:x.2.length<=131072:=by have:=hb.1;rwa [cD]at this
 have hn:aQ x.1.len=(x.2.length:Int):=by rw[aN,ok.len]
 rw[hn];refine bO (λ(s:Sl×Int×Unit) h'=>Ext h h'/\∃(i:Nat) (l:List gY),s.2.1=i/\i<=x.2.length/\l.map dH=pS 0 ((x.2.take i).map dH)/\L6 h.size h' s.1 l/\∀e∈l,∀a,e.2.2.1.1.aD=some a->∀b,s.1.aD=some b->a.block≠b.block) (λs _=>((x.2.length:Int)-s.2.1).toNat)
  (λt vs h'=>Ext h h'/\t=2/\∃q l,vs=[dG q]/\l.map dH=pS 0 (x.2.map dH)/\L6 h.size h' q l) ⟨Ext.refl _,0,[],rfl,cS _,rfl,⟨cC.nil .., λe he=>by cases he⟩,λe he=>by cases he⟩ ?_ ?_
 .rintro⟨(q:Sl),(si:Int),u⟩ H ⟨C,i,l,hi,hle,A,o,R⟩
  dsimp only at hi o R⊢;subst hi;refine aG (λhc=>?_) λhc=>?_
  .rw[aV]at hc
   have a5:i<x.2.length:=by omega
   obtain⟨c,m⟩:∃c,x.2[i]?=some c:=⟨x.2[i],cM a5⟩;have a6:=C.1;have f:=ok.ext C;have bd:l.length=i:=by have:=congrArg List.length A;rw[cD,MO,cD,dJ]at this;omega
   have a2:=hb.2 (dH c) (dC.2 ⟨c,eL m,rfl⟩);obtain⟨T,U,V,a9,W⟩:=a2;have T:0<=c.1:=T;have U:c.1<=c.2.1:=U;have V:c.2.1<=2199023255552:=V;have W:(c.2.2.1.2.length:Int)<=2199023255552:=W;have aw:∀j,j<=i -> -(131072*2199023255552)<=NZ 0 ((x.2.take j).map dH)/\NZ 0 ((x.2.take j).map dH)<=131072*2199023255552:=λj O=>by
    rw[DP];have H:=JW (sh:=0) (hb.take j);have h2:(((x.2.map dH).take j).length:Int)<=131072:=by
     have:=(hb.take j).1;omega
    omega
   refine jH (b:=bI) (z:=c.1) f m rfl ?_;refine bO (λ(s:Int×Int×Unit) h'=>h'=H/\∃j:Nat,s.2.1=j/\j<=i/\s.1=c.1+NZ 0 ((x.2.take j).map dH)) (λs _=>((i:Int)-s.2.1).toNat)
    (λt vs h'=>h'=H/\t=4/\vs=[aH (c.1+NZ 0 ((x.2.take i).map dH))]) ⟨rfl,0,rfl,cS _,by simp[NZ]⟩ ?_ ?_
   .rintro⟨(at_:Int),(sj:Int),u⟩ h2 ⟨rfl,j,O,a8,ao⟩
    dsimp only at O ao⊢;subst O;refine aG (λK=>?_) λK=>?_
    .rw[aV]at K
     have a1:j<x.2.length:=by omega
     obtain⟨d,I⟩:∃d,x.2[j]?=some d:=⟨x.2[j],cM a1⟩;have a0:=hb.2 (dH d) (dC.2 ⟨d,eL I,rfl⟩);obtain⟨Y,Z,ab,ba,al⟩:=a0;have Y:0<=d.1:=Y;have Z:d.1<=d.2.1:=Z;have ab:d.2.1<=2199023255552:=ab;have al:(d.2.2.1.2.length:Int)<=2199023255552:=al;have G:d.2.2.1.1.len=d.2.2.1.2.length:=(f.el I).2.2.1.1;have bb:=aw j (by omega);have a4:(x.2.map dH)[j]?=some (dH d):=by rw[fX,I];rfl
     have B:=ZE a4;rw[<-DP,<-DP]at B;have B:NZ 0 ((x.2.take (j+1)).map dH)=NZ 0 ((x.2.take j).map dH)+((d.2.2.1.2.length:Int)-(d.2.1-d.1)):=B;refine jH (b:=.sl) (z:=d.2.2.1.1) f I rfl (jH (b:=bI) (z:=d.2.1) f I rfl (jH (b:=bI) (z:=d.1) f I rfl ?_));rw[aN,G,cY (a:=d.2.1) (by omega) (by omega),bG (a:=at_) (by omega) (by omega),cY (by omega) (by omega),bG (by omega) (by omega)];exact aC ⟨λ_=>⟨(_,(j:Int)+1,()),rfl,⟨rfl,j+1,by push_cast;rfl,by omega,by dsimp only;omega⟩,by dsimp only;omega⟩,λE=>absurd rfl E⟩
    .rw[aZ]at K
     have:j=i:=by omega
     subst this;exact aC ⟨λE=>absurd E (by decide),λ_=>⟨rfl,rfl,by rw[ao]⟩⟩
   rintro t vs h2 ⟨rfl,rfl,rfl⟩;refine bK (gZ ?_);dsimp only;have a3:=aw i (bL _);generalize B:NZ 0 ((x.2.take i).map dH)=sh at a3⊢;refine jH (b:=.sl) (z:=c.2.2.1.1) f m rfl (jH (b:=bI) (z:=c.2.1) f m rfl (jH (b:=bI) (z:=c.1) f m rfl ?_));have G:c.2.2.1.1.len=c.2.2.1.2.length:=(f.el m).2.2.1.1;rw[aN,G,cY (by omega) (by omega),bG (by omega) (by omega)];obtain⟨g,hg⟩:∃g:Nat,c.2.1-c.1=(g:Int):=⟨(c.2.1-c.1).toNat,by omega⟩;rw[hg];refine Zx (by omega) λh3 w J ow=>?_;have a7:=f.ext J;refine UF a7 m (by first|rfl|(rw[<-G];rfl)) ?_;have bo:=J.1;have o3:=o.ext J;have nq:∀b,q.aD=some b->b.block<h2.size:=λb hb=>(o.own.lt hb).2;refine VQ (e:=(c.1+sh,c.1+sh+(c.2.2.1.2.length:Int),(w,List.replicate g 0),())) o3 (by omega) (by omega) (ow.mono a6) (eO.2 (by dsimp only;omega)) (eO.2 (by dsimp only;omega)) (λy r a ha b hb=>?_) λh4 q' o4 c4 b4=>?_
   .rcases eJ.1 r with rfl|r
    .have H:=(ow.own.lt ha).1;have h2:=nq b hb;omega
    .exact R y r a ha b hb
   rw[bG (by omega) (by omega)];have e4:Ext h h4:=by
    refine⟨by have:=c4.1;omega,λj O=>(c4.2.1 j (by omega) ?_).trans ((C.trans J).2.1 j O),λa ha=>c4.2.2 a ((C.trans J).2.2 a ha)⟩;rintro⟨a,ha,rfl⟩;have:=(o.own.lt ha).1;omega
   refine aC ⟨λ_=>⟨(q',(i:Int)+1,()),rfl,⟨e4,i+1,l++[(c.1+sh,c.1+sh+(c.2.2.1.2.length:Int),(w,List.replicate g 0),())],by push_cast;rfl,by omega,?_,o4,λy r a ha b hb=>?_⟩,by dsimp only;omega⟩,λE=>absurd rfl E⟩
   .rw[eG,m,HA,dL,dL,A,Ff,B]
    show pS 0 _++[dH _]=pS 0 _++[_]
    congr 2
    show(c.1+sh,c.1+sh+(c.2.2.1.2.length:Int),((List.replicate g (0:Int)).length:Int),())=(c.1+sh,c.1+sh+(c.2.2.1.2.length:Int),c.2.1-c.1,());rw[Jt,hg]
   .have K5:∀a,y.2.2.1.1.aD=some a->a.block<h3.size/\∀b,q.aD=some b->a.block≠b.block:=λa ha=>by
     rcases dD.1 r with r|r
     .exact⟨((o3.put y r).1.own.lt ha).2,λb hb=>R y r a ha b hb⟩
     .rw[dE.1 r]at ha
      exact⟨(ow.own.lt ha).2,λb hb=>by have H:=(ow.own.lt ha).1;have h2:=nq b hb;omega⟩
    rcases b4 b hb with hb|hb
    .exact(K5 a ha).2 b hb
    .have:=(K5 a ha).1;omega
  .rw[aZ]at hc
   have:i=x.2.length:=by omega
   subst this;rw[fA]at A;exact aC ⟨λE=>absurd E (by decide),λ_=>⟨C,rfl,q,l,rfl,A,o⟩⟩
 .rintro t vs H ⟨C,rfl,q,l,rfl,A,o⟩
  exact bK (lZ (aC ⟨rfl,C,(q,()),rfl,l,A,o⟩))
end
section
variable{P:Program}{S:cG}{h:aE}{Q:Nat->bE->aE->Prop}{k:Nat}{rho:Nat->Nat}{D:Doc}
variable{s:Sl}{l:List DG}
theorem Zd{n:Nat}{g:DG}(o:cC n 4 h s ((l++[g]).flatMap DW)):cC n 4 h ⟨s.aD,l.length,s.cap⟩ (l.flatMap DW):=by
 have c:=o.1;rw[fT (m:=4) λ_=>rfl,bM,Cq]at c;obtain⟨o1,o2,u,b⟩:=o;refine⟨by rw[fT (m:=4) λ_=>rfl],by dsimp only;omega,u,?_⟩;cases hb:s.aD with
 |none=>rw[hb]at b;exact b
 |some a=>
  rw[hb]at b;obtain⟨e0,d,f,cs,elem,j,r,t⟩:=b;exact⟨e0,d,f,cs,elem,j,r,λi v hi=>t i v (by rw[hQ,lV (eK.1 hi).1];exact hi)⟩
theorem Zv{g:DG}{i:Nat}{K:Sl×Int×Int×Int×Unit->aK}(o:Rd 4 h s (l.flatMap DW))(hi:l[i]?=some g)(t:wp P (K (g.c.1,g.bg,g.en,g.st,())) h Q) :
  wp P (bD (bN (aJ s.aD) (eV (i:Int) s.len))<|.load (.agg [.sl, .int .i64, .int .i64, .int .i64]) (aB s.aD (bB (bP (i:Int)) 4)) K) h Q:=by
 have w:=(eK.1 hi).1;have u:=o.1;rw[fT (m:=4) λ_=>rfl]at u;obtain⟨a,ea,d⟩:=o.2 (i*4+0) (dG g.c.1) (by rw[Iw (m:=4) (λ_=>rfl) hi (by decide)];rfl);refine aL (fD.2 ⟨by rw[ea];rfl,lR.2 ⟨by omega,by omega⟩⟩) ?_;refine⟨a.add (i*4),by rw[ea,gX,eR,cN];rfl,(g.c.1,g.bg,g.en,g.st,()),aI.2 λj v f=>?_,t⟩;have r:j<4:=(eK.1 f).1;obtain⟨b,eb,d⟩:=o.2 (i*4+j) v (by rw[Iw (m:=4) (λ_=>rfl) hi r];exact f);rw[ea]at eb;cases eb;rw[add_add];exact d
theorem ew{n:Nat}{g:DG}{K:Sl->aK}(o:cC n 4 h s (l.flatMap DW))(C:n<=h.size)(B:l.length<=4294967296)
  (u:∀h' q,cC n 4 h' q ((l++[g]).flatMap DW)->aY (iE s) h h'->(∀a,q.aD=some a->s.aD=some a\/h.size<=a.block)->wp P (K q) h' Q) :
  wp P (.alloc [dG g.c.1,aH g.bg,aH g.en,aH g.st] λa=>.append 4 48 [.slice none 0 0,aH 0,aH 0,aH 0] s ⟨some a,1,1⟩ K) h Q:=by
 refine λel=>?_;have b:Ext h (h.push (.cells (DW g).toArray el)):=Ext.push ..;have o1:cC h.size 1 (h.push (.cells (DW g).toArray el)) ⟨some ⟨h.size,0,none⟩,4,4⟩ (DW g):=bX rfl (by decide) (by decide);show wp P _ (h.push (.cells (DW g).toArray el)) _;generalize h.push (.cells (DW g).toArray el)=r at b o1⊢;have w:=(aY.bH (F:=λ_=>False) b).own o λ_ _ x=>x;have z:=b.1;have d:=o.1;rw[fT (m:=4) λ_=>rfl]at d;have rd:Rd 4 r ⟨some ⟨h.size,0,none⟩,1,1⟩ ([g].flatMap DW):=⟨rfl,λi v hi=>⟨_,rfl,aI.1 o1.cells i v (by simpa using hi)⟩⟩;refine iS w (by omega) rd (by intro v f;simp at f;rcases f with rfl|rfl|rfl|rfl<;>rfl) rfl (by dsimp only;omega) (by dsimp only;omega) λq t o2 E y j _=>?_;exact u t q (by rw[hQ];exact o2) (aY.pre b (aY.dP y λa ha _=>⟨a,ha,rfl⟩)) λa ha=>(j a ha).imp id λA=>by omega
theorem Yu{h1 h2:aE}(e:Ext h h1)(c:aY (iE s) h1 h2)(d:∀a,s.aD=some a->h.size<=a.block):Ext h h2:=
 ⟨dI e.1 c.1,λj b=>(c.2.1 j (pI b e.1) λ⟨a,ha,ee⟩=>by have:=d a ha;omega).trans (e.2.1 j b),λa ha=>c.2.2 a (e.2.2 a ha)⟩
end
section
variable{P:Program}{S:cG}{h:aE}{Q:Nat->bE->aE->Prop}{k:Nat}{rho:Nat->Nat}{D:Doc}
theorem S2{enc limit:Int}{E:List El}{c:List gY}(m:c.length<=70000)(o:HL enc limit E c)(j:(E.length:Int)<=65536)(d:limit<=65536):KX (c.map dH):=by
 have r:=O7 o;refine⟨by rw[cD];omega,λe he=>?_⟩;obtain⟨x,b,rfl⟩:=dC.1 he;have g:=QL o.1 x b;have f:x.2.2.1.2.length<=(aU c).length:=by
  unfold aU;rw[L4];exact xP (λe:gY=>e.2.2.1.2.length) b
 show 0<=x.1/\x.1<=x.2.1/\x.2.1<=2199023255552/\0<=(x.2.2.1.2.length:Int)/\(x.2.2.1.2.length:Int)<=2199023255552;exact⟨by omega,by omega,by omega,by omega,by omega⟩
theorem j7(r:eS k rho h D){M:Mo}{N:Nat}(m:DocM D M)(o:gQ D.enc D.limit M N)(hN:N<=1073741824) :
  wp P (pN S (some D.b)) h λtg vs h'=>tg=0/\vs=[aH M.Bf.1,aH M.Bf.2.1]/\jL k h rho h' D M.Bf.2.2:=by
 unfold pN;have dx:=cQ.mV (k:=k) (rho:=rho) (Ext.refl h);refine r.rd (b:=.bool) D.op rfl (aG (λhc=>?_) λhc=>?_)
 .rw[m.op]at hc
  have:M.Bf=(0,70,M):=by unfold Mo.Bf;rw[if_pos hc]
  rw[this];exact aC ⟨rfl,rfl,jL.ext r m (Ext.refl _)⟩
 have ih:=hc;rw[m.op]at hc;have hn:M.now=none:=by cases h:M.now with
  |none=>rfl
  |some q=>rw[h]at hc;cases hc
 have e5:=r.dn.1.1;rw[fT (m:=4) λ_=>rfl]at e5;have ao:=congrArg List.length m.dn;rw[cD,bM]at ao;have hz:=m.lo;refine r.rd (b:=.sl) D.sd rfl (r.rd (b:=bI) D.lost rfl (aG (λal=>?_) λal=>?_))
 .rw[gD,aN]at al
  have h0:M.done=[]:=Ab (by omega);have:M.Bf=(0,72,M):=by unfold Mo.Bf;rw[hn,if_neg (by decide),h0];rfl
  rw[this];exact aC ⟨rfl,rfl,jL.ext r m (Ext.refl _)⟩
 have al:¬((D.sd.len:Int)<=D.lost):=λh=>by rw[gD.2 (by rw[aN];exact h)]at al;cases al
 rcases KO M.done with h0|⟨ds,g,hd,e7⟩
 .rw[h0]at ao;simp at ao;omega
 have hu:M.Bf=(g.bg,0,M.back ds g):=by unfold Mo.Bf;rw[hn,if_neg (by decide),e7]
 rw[hu];obtain⟨pre,G,J⟩:∃pre G,D.D=pre++[G]:=by
  rcases LZ D.D with h0|⟨ds,g,h0⟩
  .rw[h0,hd]at ao;simp at ao
  .exact⟨ds,g,by rw[h0,Ju]⟩
 have ct:=m.dn;rw[J,hd,<-eC,dL]at ct;obtain⟨bd,ab⟩:=List.append_inj' ct rfl;have ab:wH G=g:=by simpa using ab
 have hp:D.D.length=pre.length+1:=by rw[J];simp
 have g8:=r.dn.1.2.1;have g9:=r.dn.1.2.2.1;have hx:bJ .i64 (aQ D.sd.len) 1=(pre.length:Int):=by rw[aN,cY (by omega) (by omega)];omega
 rw[hx];have b4:D.D[pre.length]?=some G:=by rw[J];simp
 obtain⟨oe,og⟩:=m.jc o (by omega);obtain⟨dr,jl⟩:=m.small o (by omega);have Bp:=o.li;have a6:=o.EB;have r0:=r.zr (Ext.refl h);have z0:=KW h rho;generalize Hist.zr h rho=d at r0 z0 dx;have O:d D.b.block=k+1:=r0.ob.2 D.b rfl;refine r0.rd (b:=.sl) D.sd rfl (Zv r0.dn.1.rd b4 ?_);refine λel=>?_;have b3:Ext h (h.push (.cells [.slice none 0 0,aH 0,aH 0,aH 0].toArray el)):=Ext.push ..;have bs:cC h.size 1 (h.push (.cells [.slice none 0 0,aH 0,aH 0,aH 0].toArray el)) ⟨some ⟨h.size,0,none⟩,4,4⟩ [.slice none 0 0,aH 0,aH 0,aH 0]:=bX rfl (by decide) (by decide);show wp P _ (h.push (.cells [.slice none 0 0,aH 0,aH 0,aH 0].toArray el)) _;generalize h.push (.cells [.slice none 0 0,aH 0,aH 0,aH 0].toArray el)=g1 at b3 bs⊢;refine DE (DW G) bs rfl (by intro v hv;simp only[DW,eJ,lU,or_false]at hv;rcases hv with rfl|rfl|rfl|rfl<;>rfl) λh1 o1 u1 z1=>?_;have e1:Ext h h1:=jE.jA b3 u1 λx hx=>by cases hx;exact bL _
 have r1:=r0.ext e1;have g4:=z0.mono e1.1;have aA:sU 0 1 d h1 ⟨some ⟨h.size,0,none⟩,4,4⟩ (DW G):=⟨cC.mono o1 (cS _),λa ha=>by cases ha;exact z0 _ (bL _)⟩;have gv:=dx.trans (pF z0 (aY.bH (F:=λ_=>False) e1) λ_ _ f=>f.elim);generalize ho:(⟨h.size,0,none⟩:Addr)=A at aA⊢;clear o1 bs u1;refine r1.rd (b:=.sl) D.sd rfl (aL (iQ (by omega) (by omega)) ?_);have fl:Value.slice (bF D.sd.aD D.sd.cap 0 4) (cV (bP (pre.length:Int)) 0) (cV D.sd.cap 0)=dG ⟨D.sd.aD,pre.length,D.sd.cap⟩:=by
  rw[eQ,eR,cN];rfl
 rw[fl];refine r1.w.CW (fO rfl) rfl λh2 w2 c2 z2=>?_;have gw:=gv.trans (jS O c2 z2);have b0:Zf d h2:=g4.mono (by omega);have b2:=aA.aP (rho':=d) c2 (λi hi e=>by rw[e,O];omega) λ_ _ h=>h;obtain⟨H,B⟩:∃H,H=({D with sd:=⟨D.sd.aD,pre.length,D.sd.cap⟩,D:=pre}:Doc):=⟨_,rfl⟩;have r2:eS k d h2 H:=by
  rw[B];refine w2.done rfl rfl λp=>⟨p.ot,p.ea,p.et,p.HD,⟨Zd (by rw[<-J];exact p.dn.1),p.dn.2⟩,λg hg=>p.dk g (by rw[J];exact oM _ hg),p.nx,p.nc,p.nk,p.ma,p.wa,p.nw,p.kn,p.li,p.fi⟩
 have fv:Mc (λh=>AK.ok h G.c) d h2:=(r1.dk G (by rw[J];simp)).aP c2 (λi hi e=>by rw[e,O];omega) λ_ _ h=>h;have b9:H.b=D.b:=by rw[B]
 have b6:H.R=D.R:=by rw[B]
 have hk:H.sn=D.sn:=by rw[B]
 rw[<-b9]at O⊢;refine B3 (G.c.1,G.bg,G.en,G.st,()) b2.1 rfl ?_;refine λa1=>?_;have e3:Ext h2 (h2.push (.cells (DW G).toArray a1)):=Ext.push ..;have o3:cC h2.size 4 (h2.push (.cells (DW G).toArray a1)) ⟨some ⟨h2.size,0,none⟩,1,1⟩ (DW G):=bX rfl (by decide) (by decide);show wp P _ (h2.push (.cells (DW G).toArray a1)) _;generalize h2.push (.cells (DW G).toArray a1)=h3 at e3 o3⊢;have fj:=r2.nx.now.1;rw[fT (m:=4) λ_=>rfl]at fj;have cx:=congrArg List.length m.nx;rw[cD]at cx;have g6:M.next.length<=N:=by unfold Mo.all at a6;rw[bM]at a6;omega
 have g7:H.R.length=M.next.length:=by rw[b6];exact cx
 have e9:aQ H.sn.len=(H.R.length:Int):=by rw[aN];omega
 refine bO (λ(s:Sl×Int×Unit) h'=>Ext h2 h'/\∃i:Nat,s.2.1=i/\i<=H.R.length/\cC h2.size 4 h' s.1 ((G::H.R.take i).flatMap DW)) (λs _=>((H.R.length:Int)-s.2.1).toNat)
  (λt vs h'=>Ext h2 h'/\t=2/\∃q,vs=[dG q]/\cC h2.size 4 h' q ((G::H.R).flatMap DW)) ⟨e3,0,rfl,cS _,by simpa using o3⟩ ?_ ?_
 .rintro⟨(q:Sl),(si:Int),u⟩ h4 ⟨Y,i,hi,hle,oq⟩
  dsimp only at hi oq⊢;subst hi;have r4:=r2.ext Y;refine r4.rd (b:=.sl) H.sn rfl ?_;rw[e9];refine aG (λW=>?_) λW=>?_
  .rw[aV]at W
   have a8:i<H.R.length:=by omega
   obtain⟨y,T⟩:∃y,H.R[i]?=some y:=⟨H.R[i],cM a8⟩;refine r4.rd (b:=.sl) H.sn rfl (Zv r4.nx.now T ?_);refine ew (g:=y) oq Y.1 (by rw[fF,dJ];omega) λh5 q' o5 c5 b5=>?_;rw[bG (by omega) (by omega)];refine aC ⟨λ_=>⟨(q',(i:Int)+1,()),rfl,⟨Yu Y c5 λa ha=>(oq.lt ha).1,i+1,by push_cast;rfl,by omega,?_⟩,by dsimp only;omega⟩,λhh=>absurd rfl hh⟩;have fm:G::H.R.take (i+1)=(G::H.R.take i)++[y]:=by rw[eG,T];rfl
   rw[fm];exact o5
  .rw[aZ]at W
   have:i=H.R.length:=by omega
   subst this;rw[fA]at oq;exact aC ⟨λhh=>absurd hh (by decide),λ_=>⟨Y,rfl,q,rfl,oq⟩⟩
 rintro t vs h4 ⟨Y,rfl,q,rfl,oq⟩;refine bK (lZ ?_);have r4:=r2.ext Y;have g5:=b0.mono Y.1;have g0:=gw.trans (pF b0 (aY.bH (F:=λ_=>False) Y) λ_ _ f=>f.elim);have ey:=b2.aP (rho':=d) (aY.bH (F:=λ_=>False) Y) (λ_ _ f=>f.elim) λ_ _ h=>h;have fy:=fv.aP (rho':=d) (aY.bH (F:=λ_=>False) Y) (λ_ _ f=>f.elim) λ_ _ h=>h;refine r4.w.CW (fO rfl) rfl λh5 w5 c5 z5=>?_;have g2:=g0.trans (jS O c5 z5);have b1:Zf d h5:=g5.mono (by omega);have e2:=ey.aP (rho':=d) c5 (λi hi e=>by rw[e,O];omega) λ_ _ h=>h;have c8:=fy.aP (rho':=d) c5 (λi hi e=>by rw[e,O];omega) λ_ _ h=>h;have c4:∀a,q.aD=some a->d a.block=0:=λa ha=>b0 _ (oq.lt ha).1;have bt:=c5.own oq λa ha e=>by have:=c4 a ha;rw[e,O]at this;omega
 obtain⟨U,C⟩:∃U,U=({H with sn:=q,R:=G::H.R}:Doc):=⟨_,rfl⟩;have r5:eS k d h5 U:=by
  rw[C];refine w5.done rfl rfl λp=>⟨p.ot,p.ea,p.et,p.HD,p.dn,p.dk,λg cg=>(cg.own bt λa ha K=>?_).rd,⟨bt.2.1,bt.2.2.1⟩,λy T=>?_,p.ma,p.wa,p.nw,p.kn,p.li,p.fi⟩
  .rw[c4 a ha]at K;exact absurd K (HB 0)
  .rcases eJ.1 T with rfl|T
   .exact c8
   .exact p.nk y T
 have cc:U.b=H.b:=by rw[C]
 rw[<-cc]at O⊢;have V:U.D=pre:=by rw[C,B]
 have gm:HK D.enc D.limit M.E0 (pre.map wH):=by rw[J,dL]at og;exact(HK.append.1 og).1
 refine eU (Ud r5 b1 (E0:=M.E0) (by rw[C,B];exact m.e0) (by rw[C,B];exact m.li) (by rw[C,B];exact oe) (by rw[V,C,B];exact gm) (by rw[V];intro y T;exact dr y (by rw[J];exact oM _ T)) (by rw[V];omega)) λtg vs h6 hq=>?_;obtain⟨rfl,rfl,sa,sT,c6,r6⟩:=hq;refine⟨rfl,(),rfl,?_⟩;have bo:d U.t=k+2:=r5.ot.2 (B9 U.t) rfl;have g3:=g2.trans (pF b1 c6 λi _ e=>by rw[e,bo];omega);have ec:Zf d h6:=b1.mono c6.1;have a4:=e2.aP (rho':=d) c6 (λi hi e=>by rw[e,bo];omega) λ_ _ h=>h;have de:=c8.aP (rho':=d) c6 (λi hi e=>by rw[e,bo];omega) λ_ _ h=>h;obtain⟨z,I⟩:∃z,z=({U with sa:=sa,st:=sT,E:=iC M.E0 (U.D.map wH)}:Doc):=⟨_,rfl⟩;rw[<-I]at r6;have cd:z.b=U.b:=by rw[I]
 rw[<-cd];have ba:z.ms=M.marks:=by rw[I,C,B];exact m.ms
 have bp:z.ws=M.watched:=by rw[I,C,B];exact m.ws
 have a7:g.kQ=G.c.2.map λe=>e.2.map gH:=by rw[<-ab];rfl
 have a9:=o.ly hn hd;obtain⟨l,hl⟩:∃l,l=g.kQ.map nN:=⟨_,rfl⟩;rw[<-hl]at a9;have hs:l.length=G.c.2.length:=by rw[hl,cD,a7,cD]
 have ei:Tx M.E.length z.ms z.ws:=by rw[ba,bp];exact⟨o.mi,o.wk⟩
 have hr:G.c.2.length<=4294967296:=dr G (by rw[J];simp);obtain⟨gg,gf⟩:=og.at oe (i:=pre.length) (g:=wH G) (by rw[fX,b4];rfl);have eh:aQ G.c.1.len=(G.c.2.length:Int):=by rw[aN,de.now.1]
 have aw:∀{i:Nat},(d i=k+3\/d i=k+4)->d i≠0:=λh=>by omega
 refine bY (b:=.sl) G.c.1 rfl a4.1.cells rfl ?_;rw[eh,cY (by omega) (by omega)];refine bO (λ(s:Int×Unit) h'=>∃i:Nat,s.1=(i:Int)-1/\i<=l.length/\aY (λi=>d i=k+3\/d i=k+4) h6 h'/\eS k d h' {z with ms:=wE (l.drop i) z.ms,ws:=zH (l.drop i) z.ws}) (λs _=>(s.1+1).toNat)
  (λt vs h'=>t=4/\vs=[]/\aY (λi=>d i=k+3\/d i=k+4) h6 h'/\eS k d h' {z with ms:=wE l z.ms,ws:=zH l z.ws})
  ⟨l.length,by dsimp only;omega,bL _,aY.refl _ _,by rw[FN];exact r6⟩ ?_ ?_
 .rintro⟨(si:Int),u⟩ h7 ⟨i,hi,hle,Z,r7⟩
  dsimp only at hi⊢;subst hi;refine aG (λW=>?_) λW=>?_
  .rw[dT]at W
   obtain⟨j,rfl⟩:∃j,i=j+1:=⟨i-1,by omega⟩;have hj:(((j+1:Nat):Int)-1)=(j:Int):=by omega
   rw[hj];have e6:j<G.c.2.length:=by omega
   obtain⟨y,T⟩:∃y,G.c.2[j]?=some y:=⟨G.c.2[j],cM e6⟩;have ft:(wH G).kQ[j]?=some (y.2.map gH):=by show(G.c.2.map _)[j]?=_;rw[fX,T];rfl
   have cr:l[j]?=some (y.2.map dH):=by
    rw[hl,fX,a7,fX,T];show some (nN (y.2.map gH))=_;rw[Fv]
   have a2:l.drop j=(y.2.map dH)::l.drop (j+1):=by
    have a8:=(eK.1 cr).1;rw[<-(eK.1 cr).2,<-gK a8]
   obtain⟨c1,c2,c3⟩:=gg.at gf ft;rw[cD]at c1;rw[DI]at c2;have er:=S2 c1 c2 (by have:=c3.len;omega) Bp.2;obtain⟨a0,_,b8⟩:=a9.cut j;rw[a2]at b8;obtain⟨p0,p1,p2,p3,p4⟩:=b8;have hinv:=P8 p0 p1 p4.lo.2 p2 p3;have bb:=(Tx.Xn p4 ei).w p4.lo.2;have a5:=a4.aP (rho':=d) Z (λi hi K=>aw K) λ_ _ h=>h;have df:=de.aP (rho':=d) Z (λi hi K=>aw K) λ_ _ h=>h;refine bY (b:=.sl) G.c.1 rfl a5.1.cells rfl (NB df.now T ?_);refine aM (Wg (df.now.el T) er) λ⟨(w:Sl),_⟩ h8 e8 hw=>?_;obtain⟨l',cf,ow⟩:=hw;have ow:L6 h7.size h8 w l':=ow;have eg:Zf d h7:=ec.mono Z.1;have r8:=r7.ext e8;dsimp only;rw[show z.b=({z with ms:=wE (l.drop (j+1)) z.ms,ws:=zH (l.drop (j+1)) z.ws}:Doc).b from rfl];refine eU (Mv (x:=(w,l')) r8 (eg.mono e8.1) (λh' c=>(ow.oQ c λi h1 h2 K=>aw K (eg i h1)).ok) (by rw[cf];exact hinv.1) bb.1 bb.2) λtg vs h9 hq=>?_;obtain⟨rfl,rfl,c9,r9⟩:=hq;refine⟨rfl,(),rfl,?_⟩;rw[cY (by omega) (by omega)];refine aC ⟨λ_=>⟨((j:Int)-1,()),rfl,⟨j,rfl,by omega,(Z.ext e8).trans c9 λ_ _ h=>h,?_⟩,by dsimp only;omega⟩,λhh=>absurd rfl hh⟩;have r9:eS k d h9 {z with ms:=lK (l'.map dH) (wE (l.drop (j+1)) z.ms),ws:=kX (l'.map dH) (zH (l.drop (j+1)) z.ws)}:=r9;rw[cf]at r9;rw[a2];exact r9
  .rw[fC]at W
   have:i=0:=by omega
   subst this;rw[DR]at r7;exact aC ⟨λhh=>absurd hh (by decide),λ_=>⟨rfl,rfl,Z,r7⟩⟩
 rintro t vs h7 ⟨rfl,rfl,Z,r7⟩;refine bK (bV ?_);have a5:=a4.aP (rho':=d) Z (λi hi K=>aw K) λ_ _ h=>h;refine bY (b:=bI) G.bg rfl a5.1.cells rfl (aC ⟨rfl,?_,d,_,g3.trans (pF ec Z λi _ K=>by rcases K with K|K<;>omega),r7,?_,?_,?_,?_⟩)
 .show[aH G.bg,aH 0]=[aH g.bg,aH 0]
  rw[<-ab];rfl
 .refine⟨?_,?_,?_,?_,?_,?_,?_,λq' a3=>?_,?_,?_,?_,?_,?_⟩
  .show z.E=(M.back ds g).E
   rw[Mo.TK hn,I];show iC M.E0 (U.D.map wH)=_;rw[V,bd]
  .show z.D.map wH=M.lost++ds;rw[I];show U.D.map wH=_;rw[V,bd]
  .show z.lost=_;rw[I,C,B];exact m.lo
  .show z.R.map wH=g::M.next;rw[I,C];show(G::H.R).map wH=_;rw[fK,ab,b6,m.nx]
  .show wE l z.ms=wE (g.kQ.map nN) M.marks;rw[hl,ba]
  .show zH l z.ws=zH (g.kQ.map nN) M.watched;rw[hl,bp]
  .show z.op=M.now.isSome;rw[I,C,B];exact m.op
  .have a3:M.now=some q':=a3
   rw[hn]at a3;cases a3
  .show z.saved=_;rw[I,C,B];exact m.sv
  .show z.last=_;rw[I,C,B];exact m.la
  .show z.depth=_;rw[I,C,B];exact m.dp
  .show gT 0 0 (bC z.enc z.lb)=_;rw[I,C,B];exact m.e0
  .show(z.lb.length:Int)<=z.limit;rw[I,C,B];exact m.li
 .show z.b=D.b;rw[cd,cc,b9]
 .show z.enc=D.enc;rw[I,C,B]
 .show z.limit=D.limit;rw[I,C,B]
end
section
variable{P:Program}{S:cG}{h:aE}{Q:Nat->bE->aE->Prop}{k:Nat}{rho:Nat->Nat}{D:Doc}
theorem ef{s:Sl}{g:DG}{l:List DG}(j:s.len<=s.cap)(o:Rd 4 h s ((g::l).flatMap DW)):Rd 4 h ⟨bF s.aD s.cap 1 4,s.len-1,s.cap-1⟩ (l.flatMap DW):=by
 have f:=o.1;rw[fT (m:=4) λ_=>rfl,fF]at f;refine⟨by rw[fT (m:=4) λ_=>rfl];dsimp only;omega,λi v hi=>?_⟩;have c:=(eK.1 hi).1;rw[fT (m:=4) λ_=>rfl]at c;have d:((g::l).flatMap DW)[4+i]?=some v:=by
  rw[fY,jK (by show 4<=4+i;omega)];have:4+i-(DW g).length=i:=by show 4+i-4=i;omega
  rw[this];exact hi
 obtain⟨a,ea,b⟩:=o.2 (4+i) v d;refine⟨a.add 4,?_,by rw[add_add];exact b⟩;show bF s.aD s.cap 1 4=_;unfold bF;rw[if_neg (by omega),ea];rfl
theorem j5(r:eS k rho h D){M:Mo}{N:Nat}(m:DocM D M)(o:gQ D.enc D.limit M N)(hN:N<=1073741824) :
  wp P (pM S (some D.b)) h λtg vs h'=>tg=0/\vs=[aH M.Ba.1,aH M.Ba.2.1]/\jL k h rho h' D M.Ba.2.2:=by
 unfold pM;have dr:=cQ.mV (k:=k) (rho:=rho) (Ext.refl h);refine r.rd (b:=.bool) D.op rfl (aG (λhc=>?_) λhc=>?_)
 .rw[m.op]at hc
  have:M.Ba=(0,70,M):=by unfold Mo.Ba;rw[if_pos hc]
  rw[this];exact aC ⟨rfl,rfl,jL.ext r m (Ext.refl _)⟩
 rw[m.op]at hc;have hn:M.now=none:=by cases h:M.now with
  |none=>rfl
  |some q=>rw[h]at hc;cases hc
 have bs:=r.nx.now.1;rw[fT (m:=4) λ_=>rfl]at bs;have fm:=congrArg List.length m.nx;rw[cD]at fm;refine r.rd (b:=.sl) D.sn rfl (aG (λa8=>?_) λa8=>?_)
 .rw[cJ,aN]at a8
  have h0:M.next=[]:=Ab (by omega)
  have:M.Ba=(0,73,M):=by unfold Mo.Ba;rw[hn,if_neg (by decide),h0]
  rw[this];exact aC ⟨rfl,rfl,jL.ext r m (Ext.refl _)⟩
 rw[dM,aN]at a8;obtain⟨G,Rs,ab⟩:∃G Rs,D.R=G::Rs:=by
  cases hR:D.R with
  |nil=>rw[hR]at bs;simp at bs;omega
  |cons G Rs=>exact⟨G,Rs,rfl⟩
 have al:=m.nx;rw[ab,fK]at al;obtain⟨g,ns,hd⟩:∃g ns,M.next=g::ns:=⟨_,_,al.symm⟩
 rw[hd]at al;have a3:wH G=g:=(J7 al).1;have e8:Rs.map wH=ns:=(J7 al).2;have hu:M.Ba=(g.en,0,M.wO g ns):=by unfold Mo.Ba;rw[hn,if_neg (by decide),hd]
 rw[hu];obtain⟨oe,og⟩:=m.jc o (by omega);obtain⟨gw,hs⟩:=m.small o (by omega);have Bp:=o.li;have a7:=o.EB;have b3:=r.nc;have ho:D.R.length=Rs.length+1:=by rw[ab];rfl
 have r0:=r.zr (Ext.refl h);have z0:=KW h rho;generalize Hist.zr h rho=K at r0 z0 dr;have a6:K D.b.block=k+1:=r0.ob.2 D.b rfl;have e7:D.R[0]?=some G:=by rw[ab];rfl
 refine r0.rd (b:=.sl) D.sn rfl (Zv (i:=0) r0.nx.now e7 ?_);refine λel=>?_;have cc:Ext h (h.push (.cells [.slice none 0 0,aH 0,aH 0,aH 0].toArray el)):=Ext.push ..;have b1:cC h.size 1 (h.push (.cells [.slice none 0 0,aH 0,aH 0,aH 0].toArray el)) ⟨some ⟨h.size,0,none⟩,4,4⟩ [.slice none 0 0,aH 0,aH 0,aH 0]:=bX rfl (by decide) (by decide);show wp P _ (h.push (.cells [.slice none 0 0,aH 0,aH 0,aH 0].toArray el)) _;generalize h.push (.cells [.slice none 0 0,aH 0,aH 0,aH 0].toArray el)=g1 at cc b1⊢;refine DE (DW G) b1 rfl (by intro v hv;simp only[DW,eJ,lU,or_false]at hv;rcases hv with rfl|rfl|rfl|rfl<;>rfl) λh1 o1 u1 z1=>?_;have e1:Ext h h1:=jE.jA cc u1 λx hx=>by cases hx;exact bL _
 have r1:=r0.ext e1;have g7:=z0.mono e1.1;have aA:sU 0 1 K h1 ⟨some ⟨h.size,0,none⟩,4,4⟩ (DW G):=⟨cC.mono o1 (cS _),λa ha=>by cases ha;exact z0 _ (bL _)⟩;have g0:=dr.trans (pF z0 (aY.bH (F:=λ_=>False) e1) λ_ _ f=>f.elim);generalize hk:(⟨h.size,0,none⟩:Addr)=A at aA⊢;clear o1 b1 u1;refine r1.rd (b:=.sl) D.sn rfl (aL (iQ (by decide) (by omega)) ?_);refine r1.w.CW (fO rfl) rfl λh2 w2 c2 z2=>?_;have g2:=g0.trans (jS a6 c2 z2);have ds:Zf K h2:=g7.mono (by omega);have b8:=aA.aP (rho':=K) c2 (λi hi e=>by rw[e,a6];omega) λ_ _ h=>h;obtain⟨T,C⟩:∃T,T=({D with sn:=⟨bF D.sn.aD D.sn.cap 1 4,D.sn.len-1,D.sn.cap-1⟩,R:=Rs}:Doc):=⟨_,rfl⟩;have r2:eS k K h2 T:=by
  rw[C];refine w2.done rfl rfl λp=>⟨p.ot,p.ea,p.et,p.HD,p.dn,p.dk,λx cx=>ef b3.1 (by have:=p.nx x cx;rw[ab]at this;exact this),⟨by show D.sn.len-1<=D.sn.cap-1;omega,by show D.sn.cap-1<2^63;omega⟩,λy U=>p.nk y (by rw[ab];exact dZ _ U),p.ma,p.wa,p.nw,p.kn,p.li,p.fi⟩
 have fv:Mc (λh=>AK.ok h G.c) K h2:=(r1.nk G (by rw[ab];exact cX ..)).aP c2 (λi hi e=>by rw[e,a6];omega) λ_ _ h=>h;have cf:T.b=D.b:=by rw[C]
 rw[<-cf]at a6⊢;have ec:T.D=D.D:=by rw[C]
 have e9:=r2.dn.1.1;rw[fT (m:=4) λ_=>rfl,ec]at e9;refine r2.rd (b:=.sl) T.sd rfl (B3 (G.c.1,G.bg,G.en,G.st,()) b8.1 rfl ?_);refine λa2=>?_;have e3:Ext h2 (h2.push (.cells (DW G).toArray a2)):=Ext.push ..;have o3:cC h2.size 1 (h2.push (.cells (DW G).toArray a2)) ⟨some ⟨h2.size,0,none⟩,4,4⟩ (DW G):=bX rfl (by decide) (by decide);show wp P _ (h2.push (.cells (DW G).toArray a2)) _;generalize h2.push (.cells (DW G).toArray a2)=h3 at e3 o3⊢;have V:=r2.ext e3;have g8:=ds.mono e3.1;have g3:=g2.trans (pF ds (aY.bH (F:=λ_=>False) e3) λ_ _ f=>f.elim);have ey:=b8.aP (rho':=K) (aY.bH (F:=λ_=>False) e3) (λ_ _ f=>f.elim) λ_ _ h=>h;have fy:=fv.aP (rho':=K) (aY.bH (F:=λ_=>False) e3) (λ_ _ f=>f.elim) λ_ _ h=>h;refine⟨⟨_,rfl,aI.2 λj v hj=>?_⟩,?_⟩
 .cases j with
  |zero=>cases hj;rw[add_zero'];exact aI.1 V.ob.1.cells 5 _ rfl
  |succ j=>simp at hj
 have gv:Rd 4 h3 ⟨some ⟨h2.size,0,none⟩,1,1⟩ ([G].flatMap DW):=⟨rfl,λi v hi=>⟨_,rfl,aI.1 o3.cells i v (by simpa using hi)⟩⟩;refine iS V.dn.1 (cS _) gv (by intro v hv;simp at hv;rcases hv with rfl|rfl|rfl|rfl<;>rfl) rfl (by dsimp only;omega) (by dsimp only;omega) λq4 h4 o4 l4 u4 b4 _=>?_;have W:aY (iE T.sd) h3 h4:=aY.dP u4 λx hx _=>⟨x,hx,rfl⟩;rw[<-hQ]at o4;obtain⟨d,er,a4,z4,I,e5⟩:=RP (k:=k) (r:=k+6) g8 V.dn W o4 b4 (by omega);have g4:=g3.trans er;have O:∀i,i<h3.size->iE T.sd i->K i=k+6:=e5;have ct:=fy.aP (rho':=d) W (λi hi B=>by rw[O i hi B];omega) λi hi h=>by rw[I i hi];exact h
 have e2:=ey.aP (rho':=d) W (λi hi B=>by rw[O i hi B];omega) λi hi h=>by rw[I i hi];exact h
 have w4:Lq k d h4 {T with sd:=q4,D:=T.D++[G]} (AQ T):=by
  refine⟨?_,V.ob.aP W (λi hi B=>by rw[O i hi B];omega) λi hi h=>by rw[I i hi];exact h⟩;refine⟨V.ot.aP W (λi hi B=>by rw[O i hi B];omega) λi hi h=>by rw[I i hi];exact h,V.ea.aP W (λi hi B=>by rw[O i hi B];omega) λi hi h=>by rw[I i hi];exact h,V.et.aP W (λi hi B=>by rw[O i hi B];omega) λi hi h=>by rw[I i hi];exact h,
   V.HD.aP W (λi hi B=>by rw[O i hi B];omega) λi hi h=>by rw[I i hi];exact h,a4,λy U=>?_,V.nx.aP W (λi hi B=>by rw[O i hi B];omega) λi hi h=>by rw[I i hi];exact h,V.nc,
   λg hg=>(V.nk g hg).aP W (λi hi B=>by rw[O i hi B];omega) λi hi h=>by rw[I i hi];exact h,V.ma.aP W (λi hi B=>by rw[O i hi B];omega) λi hi h=>by rw[I i hi];exact h,V.wa.aP W (λi hi B=>by rw[O i hi B];omega) λi hi h=>by rw[I i hi];exact h,λhh=>?_,V.kn,V.li,V.fi⟩
  .rcases dD.1 U with U|U
   .exact(V.dk y U).aP W (λi hi B=>by rw[O i hi B];omega) λi hi h=>by rw[I i hi];exact h
   .rw[dE.1 U];exact ct
  .have hh:T.op=true:=hh
   rw[C]at hh;have hh:D.op=true:=hh;rw[m.op,hn]at hh;cases hh
 have ao:d T.b.block=k+1:=w4.o.2 T.b rfl;refine w4.CW (fO rfl) rfl λh5 w5 c5 z5=>?_;have c5:aY (λi=>i=T.b.block) h4 h5:=c5;have g5:=g4.trans (jS ao c5 z5);have b2:Zf d h5:=z4.mono (by omega);have e4:=e2.aP (rho':=d) c5 (λi hi e=>by rw[e,ao];omega) λ_ _ h=>h;have gf:=ct.aP (rho':=d) c5 (λi hi e=>by rw[e,ao];omega) λ_ _ h=>h;obtain⟨Y,H⟩:∃Y,Y=({T with sd:=q4,D:=T.D++[G]}:Doc):=⟨_,rfl⟩;have r5:eS k d h5 Y:=by
  rw[H];exact w5.done rfl rfl λp=>p
 have cg:Y.b=T.b:=by rw[H]
 rw[<-cg];have Z:Y.D=D.D++[G]:=by rw[H,C]
 have bb:(D.D++[G]).map wH=M.lost++M.done++[g]:=by rw[dL,m.dn];show _++[wH G]=_;rw[a3]
 have df:HK D.enc D.limit M.E0 ((D.D++[G]).map wH):=by
  rw[bb];have h1:=o.ok;unfold Mo.all at h1;rw[hd,List.append_cons]at h1;exact(HK.append.1 h1).1
 have e6:G.c.2.length<=4294967296:=by
  have h3:wH G∈M.all:=by unfold Mo.all;rw[a3,hd];simp
  have h4:=PL o.sz h3;have h5:(wH G).kQ.length=G.c.2.length:=by unfold wH;simp
  omega
 refine eU (Ud r5 b2 (E0:=M.E0) (by rw[H,C];exact m.e0) (by rw[H,C];exact m.li) (by rw[H,C];exact oe) (by rw[Z,H,C];exact df) (by rw[Z];intro y U;rcases dD.1 U with U|U;exact gw y U;rw[dE.1 U];exact e6) (by rw[Z,bM,Cq];have h1:=congrArg List.length m.dn;rw[cD]at h1;unfold Mo.all at a7;rw[bM]at a7;omega)) λtg vs h6 hq=>?_;obtain⟨rfl,rfl,sa,sT,c6,r6⟩:=hq;refine⟨rfl,(),rfl,?_⟩;have bt:d Y.t=k+2:=r5.ot.2 (B9 Y.t) rfl;have g6:=g5.trans (pF b2 c6 λi _ e=>by rw[e,bt];omega);have dx:Zf d h6:=b2.mono c6.1;have b9:=e4.aP (rho':=d) c6 (λi hi e=>by rw[e,bt];omega) λ_ _ h=>h;have c8:=gf.aP (rho':=d) c6 (λi hi e=>by rw[e,bt];omega) λ_ _ h=>h;obtain⟨z,J⟩:∃z,z=({Y with sa:=sa,st:=sT,E:=iC M.E0 (Y.D.map wH)}:Doc):=⟨_,rfl⟩;rw[<-J]at r6;have cr:z.b=Y.b:=by rw[J]
 rw[<-cr];have bo:z.ms=M.marks:=by rw[J,H,C];exact m.ms
 have b0:z.ws=M.watched:=by rw[J,H,C];exact m.ws
 have ba:g.kQ=G.c.2.map λe=>e.2.map gH:=by rw[<-a3];rfl
 have bd:=o.lv hn hd;obtain⟨l,hl⟩:∃l,l=g.kQ.map nN:=⟨_,rfl⟩;rw[<-hl]at bd;have hr:l.length=G.c.2.length:=by rw[hl,cD,ba,cD]
 have eh:Tx M.E.length z.ms z.ws:=by rw[bo,b0];exact⟨o.mi,o.wk⟩
 obtain⟨gm,gg⟩:=df.at oe (i:=D.D.length) (g:=wH G) (by rw[fX];simp);have eg:aQ G.c.1.len=(G.c.2.length:Int):=by rw[aN,c8.now.1]
 have aw:∀{i:Nat},(d i=k+3\/d i=k+4)->d i≠0:=λh=>by omega
 refine bO (λ(s:Int×Unit) h'=>∃i:Nat,s.1=(i:Int)/\i<=l.length/\aY (λi=>d i=k+3\/d i=k+4) h6 h'/\eS k d h' {z with ms:=rB (l.take i) z.ms,ws:=rZ (l.take i) z.ws}) (λs _=>((l.length:Int)-s.1).toNat)
  (λt vs h'=>t=2/\vs=[]/\aY (λi=>d i=k+3\/d i=k+4) h6 h'/\eS k d h' {z with ms:=rB l z.ms,ws:=rZ l z.ws})
  ⟨0,rfl,cS _,aY.refl _ _,r6⟩ ?_ ?_
 .rintro⟨(si:Int),u⟩ h7 ⟨j,hi,hle,c7,r7⟩
  dsimp only at hi⊢;subst hi;have a1:=b9.aP (rho':=d) c7 (λi hi B=>aw B) λ_ _ h=>h;have de:=c8.aP (rho':=d) c7 (λi hi B=>aw B) λ_ _ h=>h;refine bY (b:=.sl) G.c.1 rfl a1.1.cells rfl ?_;rw[eg];refine aG (λa9=>?_) λa9=>?_
  .rw[aV]at a9
   have fj:j<G.c.2.length:=by omega
   obtain⟨y,U⟩:∃y,G.c.2[j]?=some y:=⟨G.c.2[j],cM fj⟩;have ft:(wH G).kQ[j]?=some (y.2.map gH):=by show(G.c.2.map _)[j]?=_;rw[fX,U];rfl
   have fl:l[j]?=some (y.2.map dH):=by
    rw[hl,fX,ba,fX,U];show some (nN (y.2.map gH))=_;rw[Fv]
   have b6:l.take (j+1)=l.take j++[y.2.map dH]:=by rw[eG,fl];rfl
   obtain⟨c1,c2,c3⟩:=gm.at gg ft;rw[cD]at c1;rw[DI]at c2;have ei:=S2 c1 c2 (by have:=c3.len;omega) Bp.2;obtain⟨a0,cd,hp⟩:=bd.cut j;have bp:=(Tx.W6 cd eh).w cd.hi.2;refine bY (b:=.sl) G.c.1 rfl a1.1.cells rfl (NB de.now U ?_);have g9:Zf d h7:=dx.mono c7.1;rw[show z.b=({z with ms:=rB (l.take j) z.ms,ws:=rZ (l.take j) z.ws}:Doc).b from rfl];refine eU (Mv (x:=y) r7 g9 (λh' c=>(de.aP (rho':=d) c (λi hi B=>aw B) λ_ _ h=>h).now.el U) ei bp.1 bp.2) λtg vs h9 hq=>?_;obtain⟨rfl,rfl,c9,r9⟩:=hq;refine⟨rfl,(),rfl,?_⟩;rw[bG (by omega) (by omega)];refine aC ⟨λ_=>⟨((j:Int)+1,()),rfl,⟨j+1,by push_cast;rfl,by omega,c7.trans c9 λ_ _ h=>h,?_⟩,by dsimp only;omega⟩,λhh=>absurd rfl hh⟩;have r9:eS k d h9 {z with ms:=lK (y.2.map dH) (rB (l.take j) z.ms),ws:=kX (y.2.map dH) (rZ (l.take j) z.ws)}:=r9;rw[b6,UB,UC];exact r9
  .rw[aZ]at a9
   have:j=l.length:=by omega
   subst this;rw[fA]at r7;exact aC ⟨λhh=>absurd hh (by decide),λ_=>⟨rfl,rfl,c7,r7⟩⟩
 rintro t vs h7 ⟨rfl,rfl,c7,r7⟩;refine bK (bV ?_);have a1:=b9.aP (rho':=d) c7 (λi hi B=>aw B) λ_ _ h=>h;refine bY (b:=bI) G.en rfl a1.1.cells rfl (aC ⟨rfl,?_,d,_,g6.trans (pF dx c7 λi _ B=>by rcases B with B|B<;>omega),r7,?_,?_,?_,?_⟩)
 .show[aH G.en,aH 0]=[aH g.en,aH 0]
  rw[<-a3];rfl
 .refine⟨?_,?_,?_,?_,?_,?_,?_,λq' a5=>?_,?_,?_,?_,?_,?_⟩
  .show z.E=(M.wO g ns).E
   rw[Mo.P1 hn,J];show iC M.E0 (Y.D.map wH)=_;rw[Z,bb,xM];rfl
  .show z.D.map wH=M.lost++(M.done++[g]);rw[J];show Y.D.map wH=_;rw[Z,bb,eC]
  .show z.lost=_;rw[J,H,C];exact m.lo
  .show z.R.map wH=ns;rw[J,H,C];exact e8
  .show rB l z.ms=rB (g.kQ.map nN) M.marks;rw[hl,bo]
  .show rZ l z.ws=rZ (g.kQ.map nN) M.watched;rw[hl,b0]
  .show z.op=M.now.isSome;rw[J,H,C];exact m.op
  .have a5:M.now=some q':=a5
   rw[hn]at a5;cases a5
  .show z.saved=_;rw[J,H,C];exact m.sv
  .show z.last=_;rw[J,H,C];exact m.la
  .show z.depth=_;rw[J,H,C];exact m.dp
  .show gT 0 0 (bC z.enc z.lb)=_;rw[J,H,C];exact m.e0
  .show(z.lb.length:Int)<=z.limit;rw[J,H,C];exact m.li
 .show z.b=D.b;rw[cr,cg,cf]
 .show z.enc=D.enc;rw[J,H,C]
 .show z.limit=D.limit;rw[J,H,C]
end
section
variable{P:Program}{S:cG}{h:aE}{Q:Nat->bE->aE->Prop}{k:Nat}{rho:Nat->Nat}{D:Doc}
variable{l:aW}
inductive Cz(enc limit depth:Int)(l:aW):Int->Prop where
 |deep:¬(1<=depth/\depth<=200)->Cz enc limit depth l 1
 |enc:1<=depth/\depth<=200->¬eE enc->Cz enc limit depth l 10
 |arg:1<=depth/\depth<=200->eE enc->¬(0<=limit/\limit<=65536)->Cz enc limit depth l 1
 |full:1<=depth/\depth<=200->eE enc->0<=limit/\limit<=65536->limit<l.length->Cz enc limit depth l 50
 |ok:1<=depth/\depth<=200->eE enc->0<=limit/\limit<=65536->l.length<=limit->Cz enc limit depth l 0
theorem Cz.fn{enc limit depth e e':Int}(a:Cz enc limit depth l e)(b:Cz enc limit depth l e'):e=e':=by
 cases a<;>cases b<;>first|rfl|(exfalso;omega)|(exfalso;simp_all)
open Classical in
theorem jz{enc limit depth:Int}{b:Sl}(hb:kB .u8 h b l)(hl:l.length<=1073741824) :
  aS P (BG S enc b limit depth) [tP, tI] h λ(y:OA×Int×Unit) h'=>Cz enc limit depth l y.2.1/\(y.2.1≠0->y.1=none) /\
   (y.2.1=0->∃D:Doc,y.1=some D.b/\D.enc=enc/\D.limit=limit/\DocM D (Mo.new (gT 0 0 (bC enc l)) depth)/\∀(k:Nat) (rho:Nat->Nat),∃rho',cQ k h rho h' rho'/\(∀i,i<h.size->rho' i=rho i)/\eS k rho' h' D):=by
 unfold BG aS;refine bW (¬(1<=depth/\depth<=200)) (aG (λf=>aC ⟨rfl,Ext.refl _,true,rfl,?_⟩) λf=>aC ⟨rfl,Ext.refl _,_,rfl,?_⟩) λbb h0 e0 H=>aG (λf=>aC ⟨rfl,e0,(none,1,()),rfl, .deep (H.1 f),λ_=>rfl,λm=>absurd m (by show ¬((1:Int)=0);decide)⟩) λf=>?_
 .rw[aV]at f;exact⟨λ_=>by omega,λ_=>rfl⟩
 .rw[aZ]at f;rw[dQ];exact⟨λ_=>by omega,λ_=>by omega⟩
 have T:1<=depth/\depth<=200:=by
  by_cases j:1<=depth/\depth<=200
  .exact j
  .rw[H.2 j]at f;cases f
 clear f H;have ab:=hb.ext e0;refine aM (OQ ab hl) λ⟨(pp:OA),(ee:Int),_⟩ d r K=>?_;have K:Ey h0 d enc limit l pp ee:=K;dsimp only;cases K with
 |enc w=>exact aG (λ_=>aC ⟨rfl,e0.trans r,(none,10,()),rfl, .enc T w,λ_=>rfl,λm=>absurd m (by show ¬((10:Int)=0);decide)⟩) λf=>by cases f
 |arg w o=>exact aG (λ_=>aC ⟨rfl,e0.trans r,(none,1,()),rfl, .arg T w o,λ_=>rfl,λm=>absurd m (by show ¬((1:Int)=0);decide)⟩) λf=>by cases f
 |full w o a6=>exact aG (λ_=>aC ⟨rfl,e0.trans r,(none,50,()),rfl, .full T w o a6,λ_=>rfl,λm=>absurd m (by show ¬((50:Int)=0);decide)⟩) λf=>by cases f
 |ok R w o hle B Z a0 bp a5 aw Y=>
  refine aG (λf=>by cases f) λ_=>?_;refine λel=>?_;generalize I:[aH enc,aH limit,aH depth,Value.slice none 0 0, .pointer (some (B9 R.b)), .slice none 0 0, .slice none 0 0,aH 0, .slice none 0 0, .slice none 0 0, .bool false, .slice none 0 0,aH 0,aH 0,aH 0, .slice none 0 0, .slice none 0 0,aH 0,aH 0]=cs;have e2:Ext d (d.push (.cells cs.toArray el)):=Ext.push ..;have o2:cC d.size 1 (d.push (.cells cs.toArray el)) ⟨some ⟨d.size,0,none⟩,19,19⟩ cs:=bX (by rw[<-I];rfl) (by decide) (by decide);show wp P _ (d.push (.cells cs.toArray el)) _;generalize d.push (.cells cs.toArray el)=h2 at e2 o2⊢;have hn:aQ b.len=(l.length:Int):=by rw[aN,hb.len]
  rw[hn];have cells:∀s:Sl,cs.set 3 (dG s)=[aH enc,aH limit,aH depth,dG s, .pointer (some (B9 R.b)), .slice none 0 0, .slice none 0 0,aH 0, .slice none 0 0, .slice none 0 0, .bool false, .slice none 0 0,aH 0,aH 0,aH 0, .slice none 0 0, .slice none 0 0,aH 0,aH 0]:=λs=>by rw[<-I];rfl
  have bs:d.size<h2.size:=(o2.lt rfl).2;refine bO (λ(x:Int×Unit) h'=>Ext d h'/\∃(i:Nat) (s:Sl),x.1=i/\i<=l.length/\h2.size<=h'.size/\cC d.size 1 h' ⟨some ⟨d.size,0,none⟩,19,19⟩ (cs.set 3 (dG s))/\bR h2.size .u8 h' s (l.take i)) (λx _=>((l.length:Int)-x.1).toNat)
   (λt vs h'=>Ext d h'/\t=2/\vs=[]/\∃s,cC d.size 1 h' ⟨some ⟨d.size,0,none⟩,19,19⟩ (cs.set 3 (dG s))/\bR h2.size .u8 h' s l)
   ⟨e2,0,⟨none,0,0⟩,rfl,cS _,bL _,by rw[cells];rw[<-I]at o2;exact o2,bR.nil ..⟩ ?_ ?_
  .rintro⟨(si:Int),u⟩ h3 ⟨A,i,s,hi,bo,s3,C,ol⟩
   dsimp only at hi⊢;subst hi;refine aG (λf=>?_) λf=>?_
   .rw[aV]at f
    have a8:i<l.length:=by omega
    have V:(cs.set 3 (dG s))[3]?=some (dG s):=by rw[cells];rfl
    refine bY (b:=.sl) s rfl C.cells V ?_;refine qM ((ab.ext r).ext A) (by omega) (by omega) λJ=>?_;have hv:l[i]?=some (l.getD (i:Int).toNat 0):=by simp[List.getD,cM a8]
    generalize l.getD (i:Int).toNat 0=v at hv J⊢;refine jG (k:=.u8) [v] (by intro z hz;rw[dE.1 hz];exact J) (by simp) λh4 G o4=>?_;have ao:=(aY.bH (F:=λ_=>False) G).own C λ_ _ x=>x;have O:=(aY.bH (F:=λ_=>False) G).pW ol λ_ _ x=>x;refine sC (aI.1 ao.cells 3 _ V) ?_;refine uJ O (by have:=G.1;omega) o4.kZ (by rw[dJ];simp;omega) (by rw[dJ];simp;omega) λs' h5 k5 o5 u5 b5 _=>?_;have a9:∀x,s.aD=some x->x.block≠d.size:=λx j=>by have:=(O.own.lt j).1;omega
    have ba:=(aY.dP (F:=iE s) u5 λx j _=>⟨x,j,rfl⟩).own ao λx j ⟨y,K,e⟩=>by cases j;exact a9 y K e
    refine eW (dG s') ba (by rw[cells];exact fO rfl) rfl λh6 o6 u6=>?_;have c6:aY (λi=>i=d.size) h5 h6:=aY.dP u6 λx j _=>by cases j;rfl
    have bd:=c6.pW o5 λx j e=>by have:=(o5.own.lt j).1;omega
    have e5:Ext d h5:=jE.jA (A.trans G) u5 λx j=>by have:=(O.own.lt j).1;omega
    have e6:Ext d h6:=jE.jA e5 u6 λx j=>by cases j;exact bL _
    rw[bG (by omega) (by omega)];refine aC ⟨λ_=>⟨((i:Int)+1,()),rfl,⟨e6,i+1,s',by push_cast;rfl,by omega,by have:=c6.1;have:=u5.1;have:=G.1;omega,?_,?_⟩,by dsimp only;omega⟩,λm=>absurd rfl m⟩
    .rw[List.set_set]at o6;exact o6
    .rw[eG,hv];exact bd
   .rw[aZ]at f
    have:i=l.length:=by omega
    subst this;rw[fA]at ol;exact aC ⟨λm=>absurd m (by decide),λ_=>⟨A,rfl,rfl,s,C,ol⟩⟩
  .rintro t vs h3 ⟨A,rfl,rfl,s,C,ol⟩
   refine bK (bV (aC ⟨rfl,(e0.trans r).trans A,(some ⟨d.size,0,none⟩,0,()),rfl, .ok T w o hle,λm=>absurd rfl m,λ_=>?_⟩));have W:=B.ext A;refine⟨{b:=⟨d.size,0,none⟩,t:=R.b,enc:=enc,limit:=limit,depth:=depth,sb:=s,lb:=l,sa:=R.sa,st:=R.st,E:=R.E,sd:=⟨none,0,0⟩,D:=[],sn:=⟨none,0,0⟩,R:=[],lost:=0,sm:=⟨none,0,0⟩,ms:=[],sw:=⟨none,0,0⟩,ws:=[],op:=false,c:=(⟨none,0,0⟩,[]),bg:=0,en:=0,gs:=0,so:=⟨none,0,0⟩,om:=[],sv:=⟨none,0,0⟩,ow:=[],saved:=0,last:=0},rfl,rfl,rfl,?_,λk rho=>?_⟩
   .have hE:R.E=(Mo.new (gT 0 0 (bC enc l)) depth).E:=aw
    exact⟨hE,rfl,rfl,rfl,rfl,rfl,rfl,λq hq=>(by cases hq),rfl,rfl,rfl,rfl,by exact hle⟩
   .have z1:=(Y R.b B.zb)
    have z2:=(B.lo R.b B.zb).2;have s0:=e0.1
    let rho':Nat->Nat:=λi=>if i<h.size then rho i else if i=d.size then k+1 else if i=R.b then k+2 else 0
    have old:∀i,i<h.size->rho' i=rho i:=λi hi=>if_pos hi;have r1:rho' d.size=k+1:=by show(if _ then _ else if _ then _ else _)=_;rw[if_neg (by have:=r.1;omega),if_pos rfl]
    have r2:rho' R.b=k+2:=by show(if _ then _ else if _ then _ else if _ then _ else _)=_;rw[if_neg (by omega),if_neg (by omega),if_pos rfl]
    have r0:∀i,h.size<=i->i≠d.size->i≠R.b->rho' i=0:=λi d h2 h3=>by show(if _ then _ else if _ then _ else if _ then _ else _)=_;rw[if_neg (by omega),if_neg h2,if_neg h3]
    refine⟨rho',⟨aY.bH ((e0.trans r).trans A),λi hi _=>old i hi,λi hi U=>?_⟩,old,?_⟩
    .by_cases a7:i<h.size
     .rw[old i a7]
      rcases U with U|U
      .omega
      .exact .inr U
     .by_cases h2:i=d.size
      .rw[h2,r1];omega
      .by_cases h3:i=R.b
       .rw[h3,r2];omega
       .rw[r0 i (by omega) h2 h3];exact .inl rfl
    .have al:∀i,YK (R.sa,R.st,R.E) i->rho' i=0:=λi hi=>by
      obtain⟨a1,a2,_⟩:=B.zc i hi;have a3:=Y i a1;have a4:=(B.lo i a1).2;exact r0 i (by omega) (by omega) a2
     have cur:=W.cur;exact{
      ob:=⟨by rw[cells]at C;exact cC.mono C (cS _),λa ha=>by cases ha;exact r1⟩
      ot:=⟨by have:=W.ob;rw[Z,a0,a5]at this;exact cC.mono this (cS _),λa ha=>by cases ha;exact r2⟩
      ea:=⟨cur.1.mono (cS _),λa ha=>al _ (.inl ⟨a,ha,rfl⟩)⟩
      et:=⟨cur.2.mono (cS _),λa ha=>al _ (.inr ⟨a,ha,rfl⟩)⟩
      HD:=λg c=>(c.pW ol λx j J=>by
       have d:=(ol.own.lt j).1;have h2:rho' x.block=0:=r0 _ (by have:=r.1;omega) (by omega) (by omega);rw[h2]at J;exact absurd J (HB 0)).kZ
      dn:=⟨cC.nil .., λa ha=>by cases ha⟩
      dk:=λg hg=>by cases hg
      nx:=λg c=>⟨rfl,λi v hi=>by simp at hi⟩
      nc:=⟨bL 0,(by decide:0<2^63)⟩
      nk:=λg hg=>by cases hg
      ma:=⟨cC.nil .., λa ha=>by cases ha⟩
      wa:=⟨bR.nil .., λa ha=>by cases ha⟩
      nw:=λm=>by cases m
      kn:=w
      li:=o
      fi:=by have:=B.fit;rw[Z]at this;exact this}
end
section
variable{P:Program}{S:cG}{h:aE}{Q:Nat->bE->aE->Prop}{k:Nat}{rho:Nat->Nat}{D:Doc}
variable{s:Sl}{a:Nat}
theorem Nr{n size:Nat}{vs:bE}(o:cC n size h s vs):∃ws,cC n size h ⟨s.aD,s.cap,s.cap⟩ (vs++ws):=by
 obtain⟨o1,o2,t,b⟩:=o;cases hb:s.aD with
 |none=>
  rw[hb]at b;have b:s.cap=0:=b;have:vs=[]:=Ab (by rw[<-o1,show s.len=0 by omega,Nat.zero_mul]);exact⟨[],by rw[this,b];exact⟨by simp,bL _,(by decide:0<2^63),rfl⟩⟩
 |some a=>
  rw[hb]at b;obtain⟨e0,g,j,cs,elem,m,c,r⟩:=b;have hle:vs.length<=cs.size:=by rw[<-o1,c];exact Jl _ o2
  have f:vs=cs.toList.take vs.length:=by
   refine List.ext_getElem? λi=>?_;rw[Hy];by_cases hi:i<vs.length
   .rw[if_pos hi,cM hi]
    have:=r i vs[i] (cM hi);rw[Array.getElem?_toList];exact this.symm
   .rw[if_neg hi,Ro (by omega)]
  refine⟨cs.toList.drop vs.length,?_⟩;have d:vs++cs.toList.drop vs.length=cs.toList:=by
   conv=>lhs;lhs;rw[f]
   exact eX ..
  rw[d];exact⟨by rw[Re,c],bL _,t,e0,g,j,cs,elem,m,c,λi v hi=>by rw[Array.getElem?_toList]at hi;exact hi⟩
def KQ(a n:Nat):aW:=(List.range n).map λi=>bJ .i64 (-71) ((a+i:Nat):Int)
theorem IK(a n:Nat):(KQ a n).length=n:=by simp[KQ]
theorem YZ(a n:Nat):KQ a (n+1)=KQ a n++[bJ .i64 (-71) ((a+n:Nat):Int)]:=by simp[KQ,LL]
theorem VE{n i:Nat}(hi:i<n):(KQ a n)[i]?=some (bJ .i64 (-71) ((a+i:Nat):Int)):=by simp[KQ,hi]
theorem YY{n:Nat}:∀x∈KQ a n,cR .i64 x:=λx b=>by
 obtain⟨i,hi,rfl⟩:=dC.1 b;exact range_i64 _
theorem Mp{l:aW}(E:kB .i64 h s l)(hl:l.length<=1073741824):aS P (pK S s) [tS] h λ(y:Sl×Unit) h'=>∃n,40<=n/\y.1.len=y.1.cap/\y.1.len=l.length+n/\bR h.size .i64 h' y.1 (l++KQ l.length n):=by
 unfold pK aS;refine aM (TY E (by omega)) λ⟨(q:Sl),_⟩ W J H=>?_;have H:bR h.size .i64 W q l:=H;have a0:=J.1;refine bO (λ(x:Sl×Int×Unit) h'=>Ext h h'/\∃(i:Nat) (m:aW),x.2.1=i/\i<=40/\m.length=l.length+i/\m.take l.length=l/\bR h.size .i64 h' x.1 m) (λx _=>((40:Int)-x.2.1).toNat)
  (λt vs h'=>Ext h h'/\t=2/\∃q m,vs=[dG q]/\m.length=l.length+40/\m.take l.length=l/\bR h.size .i64 h' q m) ⟨J,0,l,rfl,by omega,rfl,fA,H⟩ ?_ ?_
 .rintro⟨(q:Sl),(si:Int),u⟩ h2 ⟨w,i,m,hi,hle,B,j,o⟩
  dsimp only at hi o⊢;subst hi;refine aG (λf=>?_) λf=>?_
  .rw[aV]at f
   refine jG (k:=.i64) [-71] (by intro z hz;rw[dE.1 hz];exact eO.2 (by omega)) (by simp) λh3 d c=>?_;have V:=(aY.bH (F:=λ_=>False) d).pW o λ_ _ x=>x;refine uJ V (by have:=w.1;have:=d.1;omega) c.kZ (by simp;omega) (by simp;omega) λq' Y k4 G I b4 _=>?_;rw[bG (by omega) (by omega)];refine aC ⟨λ_=>⟨(q',(i:Int)+1,()),rfl,⟨jE.jA (w.trans d) I λa ha=>(V.own.lt ha).1,i+1,m++[-71],by push_cast;rfl,by omega,by simp;omega,?_,G⟩,by dsimp only;omega⟩,λg=>absurd rfl g⟩;rw[Aa (by omega)];exact j
  .rw[aZ]at f
   have:i=40:=by omega
   subst this;exact aC ⟨λg=>absurd g (by decide),λ_=>⟨w,rfl,q,m,rfl,B,j,o⟩⟩
 rintro t vs h2 ⟨w,rfl,q,m,rfl,B,j,o⟩;refine bK (lZ ?_);have ab:=o.own.2.1;have al:=o.own.2.2.1;have hlen:=o.len;refine aL (iQ (by rw[aN];omega) (by rw[aN];exact nJ _)) ?_;dsimp only;have K:bF q.aD q.cap 0 1=q.aD:=eQ ..;have Z:aQ (cV (bP (aQ q.cap)) 0)=(q.cap:Int):=rfl;rw[K,Z];obtain⟨ws,ow⟩:=Nr o.own;have a1:ws.length=q.cap-m.length:=by have:=ow.1;rw[bM,cD]at this;dsimp only at this;omega
 have O:m=l++m.drop l.length:=by conv=>lhs;rw[<-eX l.length m,j]
 obtain⟨rest,r⟩:∃rest:bE,rest=(m.drop l.length).map (.int .i64)++ws:=⟨_,rfl⟩;have aw:rest.length=q.cap-l.length:=by rw[r,bM,cD,cZ];omega
 have U:cC h.size 1 h2 ⟨q.aD,q.cap,q.cap⟩ (l.map (.int .i64)++rest):=by
  rw[r,<-eC,<-dL,<-O];exact ow
 have R:aQ s.len=(l.length:Int):=by rw[aN,E.len]
 rw[R];obtain⟨n,hn⟩:∃n,q.cap=l.length+n:=⟨q.cap-l.length,by omega⟩;refine bO (λ(x:Int×Unit) h'=>Ext h h'/\∃i:Nat,x.1=((l.length+i:Nat):Int)/\i<=n/\cC h.size 1 h' ⟨q.aD,q.cap,q.cap⟩ (l.map (.int .i64)++(KQ l.length i).map (.int .i64)++rest.drop i)) (λx _=>((q.cap:Int)-x.1).toNat)
  (λt vs h'=>Ext h h'/\t=4/\vs=[]/\cC h.size 1 h' ⟨q.aD,q.cap,q.cap⟩ (l.map (.int .i64)++(KQ l.length n).map (.int .i64))) ⟨w,0,rfl,cS _,by simpa[KQ] using U⟩ ?_ ?_
 .rintro⟨(si:Int),u⟩ h3 ⟨d,i,hi,hle,c⟩
  dsimp only at hi⊢;subst hi;refine aG (λf=>?_) λf=>?_
  .rw[aV]at f
   have ao:i<n:=by omega
   have A:∃a,q.aD=some a:=by
    cases hb:q.aD with
    |none=>
     have:=ow.2.2.2;rw[hb]at this;have:q.cap=0:=this;omega
    |some a=>exact⟨a,rfl⟩
   obtain⟨a,ea⟩:=A;refine aL (fD.2 ⟨by rw[ea];rfl,lR.2 ⟨by omega,by show((l.length+i:Nat):Int)<((q.cap:Nat):Int);omega⟩⟩) ?_;have hd:rest.drop i=(rest[i]'(by omega))::rest.drop (i+1):=gK (by omega);have T:cC h.size 1 h3 ⟨q.aD,q.cap,q.cap⟩ ((l.map (.int .i64)++(KQ l.length i).map (.int .i64))++[rest[i]'(by omega)]++rest.drop (i+1)):=by
    rw[hd]at c;simpa using c
   have C:bB (bP ((l.length+i:Nat):Int)) 1=(l.map (Value.int .i64)++(KQ l.length i).map (Value.int .i64)).length:=by
    rw[bM,cD,cD,IK,gX,eR,cN];omega
   rw[C];refine rD (s:=⟨q.aD,q.cap,q.cap⟩) (mid:=[rest[i]'(by omega)]) [aH (bJ .i64 (-71) ((l.length+i:Nat):Int))] T rfl rfl (by simp) (by intro x b;rw[dE.1 b];rfl) λY G I z4=>?_;rw[bG (by omega) (by omega)];refine aC ⟨λ_=>⟨(((l.length+i:Nat):Int)+1,()),rfl,⟨jE.jA d I λx b=>(c.lt b).1,i+1,by push_cast;omega,by omega,?_⟩,by dsimp only;omega⟩,λg=>absurd rfl g⟩;rw[YZ,dL];simpa using G
  .rw[aZ]at f
   have:i=n:=by omega
   subst this;rw[tY (by omega),jX]at c;exact aC ⟨λg=>absurd g (by decide),λ_=>⟨d,rfl,rfl,c⟩⟩
 .rintro t vs h3 ⟨d,rfl,rfl,c⟩
  refine bK (bV (aC ⟨rfl,d,(⟨q.aD,q.cap,q.cap⟩,()),rfl,n,by omega,rfl,by exact hn,?_⟩));refine⟨by rw[dL];exact c,λx b=>?_⟩;rcases dD.1 b with b|b
  .exact E.wf x b
  .exact YY x b
end
section
variable{P:Program}{S:cG}{h:aE}{Q:Nat->bE->aE->Prop}{k:Nat}{rho:Nat->Nat}{D:Doc}
variable{i:Nat}{v:Value}
theorem Mn{c b:Sl}{l:aW}{n:Nat}(oc:kB .i64 h c (l++KQ l.length n))(hb:kB .i64 h b l)(I:40<=n):aS P (pJ S c b) [tB] h λ(y:Bool×Unit) _=>y.1=true:=by
 unfold pJ aS;have g:=oc.len;rw[bM,IK]at g;have G:=oc.cap;have w:=oc.max;have A:=hb.len;have C:aQ b.len=(l.length:Int):=by rw[aN,A]
 have E:aQ c.len=((l.length+n:Nat):Int):=by rw[aN,g]
 rw[C,E];refine bO (λ(x:Int×Unit) h'=>h'=h/\∃i:Nat,x.1=((l.length+i:Nat):Int)/\i<=n) (λx _=>(((l.length+n:Nat):Int)-x.1).toNat)
  (λt vs h'=>h'=h/\t=2/\vs=[]) ⟨rfl,0,rfl,cS _⟩ ?_ ?_
 .rintro⟨(J:Int),u⟩ z ⟨rfl,i,hi,hle⟩
  dsimp only at hi⊢;subst hi;refine aG (λf=>?_) λf=>aC ⟨λr=>absurd r (by decide),λ_=>⟨rfl,rfl,rfl⟩⟩;rw[aV]at f;have B:i<n:=by omega
  refine qM oc (by omega) (by rw[bM,IK];omega) λ_=>?_;have H:(l++KQ l.length n).getD ((l.length+i:Nat):Int).toNat 0=bJ .i64 (-71) ((l.length+i:Nat):Int):=by
   rw[cN,gF,jK (by omega),show l.length+i-l.length=i by omega,VE B];rfl
  rw[H];refine aG (λj=>by rw[lB]at j;exact absurd rfl j) λ_=>?_;rw[bG (by omega) (by omega)];exact aC ⟨λ_=>⟨(((l.length+i:Nat):Int)+1,()),rfl,⟨rfl,i+1,by push_cast;omega,by omega⟩,by dsimp only;omega⟩,λr=>absurd rfl r⟩
 .rintro t vs z ⟨rfl,rfl,rfl⟩
  refine bK (bV ?_);rw[bG (by omega) (by omega)];refine iO (tys:=[tB]) (λ(y:Bool×Unit) _=>y.1=true) ?_ λ⟨(y:Bool),_⟩ h2 o d=>?_
  .refine aG (λ_=>aL (iQ (by omega) (by omega)) ?_) λf=>by rw[fC]at f;omega
   have ht:kB .i64 z ⟨bF c.aD c.cap 0 1,cV (bP (l.length:Int)) 0,cV c.cap 0⟩ l:=by
    have:=oc.take (n:=l.length) (m:=c.cap) (by rw[bM];omega) (by omega) w;rw[Aa (bL _),fA]at this;rw[eQ,eR,cN];exact this
   refine aM (EE ht hb) λ⟨(y:Bool),_⟩ h2 o d=>aC ⟨rfl,o,(y,()),rfl,?_⟩;have d:y=decide (l=l):=d;rw[d];exact decide_eq_true rfl
  .have d:y=true:=d
   subst d;exact aC ⟨rfl,o,(true,()),rfl,rfl⟩
theorem eS.um(r:eS k rho h D){K:aK}(f:(AQ D)[i]?=some v)(d:wp P K h Q):wp P (.check (aB (some D.b) i) [v] K) h Q:=by
 refine⟨⟨_,rfl,aI.2 λj w c=>?_⟩,d⟩;cases j with
 |zero=>cases c;rw[add_zero'];exact aI.1 r.ob.1.cells i _ f
 |succ j=>simp at c
theorem eS.ss(r:eS k rho h D){K:aK}(d:(qv D)[i]?=some v)(c:wp P K h Q):wp P (.check (aB (some (B9 D.t)) i) [v] K) h Q:=by
 refine⟨⟨_,rfl,aI.2 λj w b=>?_⟩,c⟩;cases j with
 |zero=>cases b;rw[add_zero'];exact aI.1 r.ot.1.cells i _ d
 |succ j=>simp at b
theorem Vj(I:jM P S)(U:Cl0 P S)(V:Xv P S){T:TX}{n:Nat}(t:eM S n h T)(r:eS k rho h D)(z:gS T.enc T.cur.ps=D.E)(hl:D.E.length<=65536) :
  aS P (uY S (some T.p) (some D.b)) [tB] h λ(y:Bool×Unit) _=>y.1=true:=by
 unfold uY aS;refine aG (λd=>by cases d) λ_=>?_;refine r.rd (b:=.ptr) (some (B9 D.t)) rfl (r.uj (b:=.sl) D.sa rfl ?_);have R:aQ D.sa.len=(D.E.length:Int):=by rw[aN,r.ea.1.len,cD]
 rw[R];refine iO (tys:=[tB]) (λ(y:Bool×Unit) _=>y.1=true) ?_ λ⟨(y:Bool),_⟩ h2 f B=>?_
 .refine aM (Vd t) λ⟨(L:Int),_⟩ c u A=>?_
  have A:L=D.E.length:=by
   have c:L=_:=A;rw[c,<-z]
  subst A;refine aG (λ_=>?_) λd=>by rw[dM]at d;exact absurd rfl d
  have C:=r.ext u;have t1:=t.ext u;refine C.rd (b:=.ptr) (some (B9 D.t)) rfl (C.uj (b:=.sl) D.sa rfl ?_);refine aM (au I U (from_:=Int.ofNat 0) (to:=(D.E.length:Int)) t1 (eO.2 (by omega))) λ⟨(sa:Sl),_⟩ h2 f m=>?_;have m:bR c.size .i64 h2 sa ((Ob (gS T.enc T.cur.ps) 0 D.E.length).map (·.1)):=m;rw[z,R6]at m;have o:=C.ext f;have t2:=t1.ext f;refine o.ss rfl (o.um rfl ?_);refine aM (EE m.kZ o.ea.1.kZ) λ⟨(J:Bool),_⟩ h3 w g=>?_;have g:J=true:=by have c:J=decide _:=g;rw[c];exact decide_eq_true rfl
  subst g;refine aG (λ_=>?_) λd=>by cases d
  have G:=o.ext w;have t3:=t2.ext w;refine G.rd (b:=.ptr) (some (B9 D.t)) rfl (G.uj (b:=.sl) D.st rfl ?_);refine aM (bf I V (from_:=Int.ofNat 0) (to:=(D.E.length:Int)) t3 (eO.2 (by omega))) λ⟨(st:Sl),_⟩ Y O ot=>?_;have ot:bR h3.size .i64 Y st ((Ob (gS T.enc T.cur.ps) 0 D.E.length).map (·.2)):=ot;rw[z,R6]at ot;have H:=G.ext O;refine H.ss rfl (H.um rfl ?_);refine aM (EE ot.kZ H.et.1.kZ) λ⟨(K:Bool),_⟩ Z W j=>?_;have j:K=true:=by have c:K=decide _:=j;rw[c];exact decide_eq_true rfl
  subst j;exact aC ⟨rfl,(((u.trans f).trans w).trans O).trans W,(true,()),rfl,rfl⟩
 .have B:y=true:=B
  subst B;exact aC ⟨rfl,f,(true,()),rfl,rfl⟩
end
section
variable{P:Program}{S:cG}{h:aE}{Q:Nat->bE->aE->Prop}{n k:Nat}{rho:Nat->Nat}{X:Bk}{D:Doc}
variable{h':aE}{rho':Nat->Nat}{i:Nat}
structure qE(k:Nat)(h:aE)(rho:Nat->Nat)(h':aE)(rho':Nat->Nat):Prop where
 c:aY (λi=>k<rho i/\rho i<=k+30) h h'
 old:∀i,i<h.size->(rho i<=k\/k+30<rho i)->rho' i=rho i
 new:∀i,i<h'.size->(h.size<=i\/(k<rho i/\rho i<=k+30))->rho' i=0\/(k<rho' i/\rho' i<=k+30)
theorem qE.trans{h h1 h2:aE}{rho d f:Nat->Nat}(a:qE k h rho h1 d)(b:qE k h1 d h2 f):qE k h rho h2 f where
 c:=a.c.trans b.c λi hi o=>by
  by_cases g:rho i<=k\/k+30<rho i
  .rw[a.old i hi g]at o;omega
  .omega
 old i hi g:=by
  have h1:=a.old i hi g;have h2:=a.c.1;rw[b.old i (by omega) (by rw[h1];exact g),h1]
 new i hi m:=by
  have r:=a.c.1;by_cases j:i<h1.size
  .have h3:=a.new i j m
   rcases h3 with h3|h3
   .have:=b.old i j (.inl (by omega))
    rw[this,h3];exact .inl rfl
   .exact b.new i hi (.inr h3)
  .exact b.new i hi (.inl (by omega))
theorem cQ.UQ{j:Nat}(s:cQ j h rho h' rho')(g:k<=j/\j+10<=k+30):qE k h rho h' rho' where
 c:=s.c.mono λi hi o=>by omega
 old i hi m:=s.old i hi (by omega)
 new i hi b:=by
  by_cases d:j<rho i/\rho i<=j+10
  .have:=s.new i hi (.inr d);omega
  .by_cases f:i<h.size
   .have:=s.old i f (by omega)
    rw[this];rcases b with b|b
    .omega
    .exact .inr b
   .have:=s.new i hi (.inl (by omega));omega
structure fZ(S:cG)(n k:Nat)(rho:Nat->Nat)(h:aE)(p:Addr)(X:Bk)(D:Doc)(sl sw:Sl)(vs:bE)(ls:aW):Prop where
 bk:cL S n h rho k X
 doc:eS (k+11) rho h D
 ob:sU (k+23) 1 rho h ⟨some p,5,5⟩ [.pointer (some X.b), .pointer (some X.T.p), .pointer (some D.b),dG sl,dG sw]
 le:sU (k+24) 3 rho h sl vs
 lw:BH (k+25) rho h sw ls
variable{p:Addr}{sl sw:Sl}{vs:bE}{ls:aW}
theorem fZ.book{f:Bk}(q:fZ S n k rho h p X D sl sw vs ls)(st:cQ k h rho h' rho')(b:cL S n h' rho' k f)(sm:Sm X f):fZ S n k rho' h' p f D sl sw vs ls where
 bk:=b
 doc:=q.doc.aP st.c (λi hi g=>by omega) λi hi d=>st.old i hi (by omega)
 ob:=by rw[sm.b,sm.p];exact q.ob.aP st.c (λi hi g=>by omega) λi hi d=>by rw[st.old i hi (by omega)];exact d
 le:=q.le.aP st.c (λi hi g=>by omega) λi hi d=>by rw[st.old i hi (by omega)];exact d
 lw:=q.lw.aP st.c (λi hi g=>by omega) λi hi d=>by rw[st.old i hi (by omega)];exact d
theorem fZ.k_{g:Doc}(q:fZ S n k rho h p X D sl sw vs ls)(st:cQ (k+11) h rho h' rho')(d:eS (k+11) rho' h' g)(hb:g.b=D.b):fZ S n k rho' h' p X g sl sw vs ls where
 bk:=q.bk.other st.c (λi hi j=>by omega) λi hi f=>st.old i hi (by omega)
 doc:=d
 ob:=by rw[hb];exact q.ob.aP st.c (λi hi j=>by omega) λi hi f=>by rw[st.old i hi (by omega)];exact f
 le:=q.le.aP st.c (λi hi j=>by omega) λi hi f=>by rw[st.old i hi (by omega)];exact f
 lw:=q.lw.aP st.c (λi hi j=>by omega) λi hi f=>by rw[st.old i hi (by omega)];exact f
theorem fZ.ext(q:fZ S n k rho h p X D sl sw vs ls)(e:Ext h h'):fZ S n k (Hist.zr h rho) h' p X D sl sw vs ls:=
 q.book (cQ.mV e) (q.bk.zr e) (Sm.refl X)
structure Gj(X:Bk)(D:Doc)(M:Mo)(N:Nat):Prop where
 inv:Inv X M N
 dm:DocM D M
 enc:D.enc=X.T.enc
 Bp:D.limit=X.T.limit
theorem Gj.ok{M:Mo}{N:Nat}(b:Gj X D M N):gQ D.enc D.limit M N:=by rw[b.enc,b.Bp];exact b.inv.ok
def gM(S:cG)(n k:Nat)(h:aE)(rho:Nat->Nat)(h':aE)(p:Addr)(X:Bk)(D:Doc)(M:Mo)(N:Nat):Prop:=
 ∃rho' X' D' sl' sw' vs' ls',qE k h rho h' rho'/\fZ S n k rho' h' p X' D' sl' sw' vs' ls'/\Gj X' D' M N/\Sm X X'/\D'.b=D.b
theorem gM.of{h1 h2:aE}{b:Nat->Nat}{c:Bk}{M:Mo}{N:Nat}(q:fZ S n k rho h p X D sl sw vs ls)(he:D.enc=X.T.enc/\D.limit=X.T.limit)(st:cQ k h rho h1 b)(r:cL S n h1 b k c)(i1:Inv c M N)(sm:Sm X c)(d:jL (k+11) h1 b h2 D M):gM S n k h rho h2 p X D M N:=by
 obtain⟨g,o,f,d2,t,hb,j,m⟩:=d;exact⟨g,c,o,sl,sw,vs,ls,(st.UQ ⟨bL _,by omega⟩).trans (f.UQ ⟨by omega,by omega⟩),(q.book st r sm).k_ f d2 hb,⟨i1,t,by rw[j,sm.enc];exact he.1,by rw[m,sm.limit];exact he.2⟩,sm,hb⟩
theorem fZ.rd(q:fZ S n k rho h p X D sl sw vs ls){b:B}(x:b.den){K:b.den->aK}(d:([.pointer (some X.b), .pointer (some X.T.p), .pointer (some D.b),dG sl,dG sw]:bE)[i]?=some (b.inj x))(c:wp P (K x) h Q) :
  wp P (bD (aJ (some p))<|bD (aJ (some p))<|.load (.one b) (aB (some p) i) K) h Q:=
 aL rfl (aL rfl (bY (b:=b) x rfl q.ob.1.cells d c))
theorem fZ.ck(q:fZ S n k rho h p X D sl sw vs ls){v:Value}{K:aK}(f:([.pointer (some X.b), .pointer (some X.T.p), .pointer (some D.b),dG sl,dG sw]:bE)[i]?=some v)(d:wp P K h Q):wp P (.check (aB (some p) i) [v] K) h Q:=by
 refine⟨⟨_,rfl,aI.2 λj w c=>?_⟩,d⟩;cases j with
 |zero=>cases c;rw[add_zero'];exact aI.1 q.ob.1.cells i _ f
 |succ j=>simp at c
end
section
variable{P:Program}{S:cG}{h:aE}{Q:Nat->bE->aE->Prop}{n k:Nat}{rho:Nat->Nat}{X:Bk}{D:Doc}{p:Addr}{sl sw:Sl}{vs:bE}{ls:aW}
theorem fZ.ext'{h':aE}(q:fZ S n k rho h p X D sl sw vs ls)(e:Ext h h'):fZ S n k rho h' p X D sl sw vs ls where
 bk:=q.bk.ext e
 doc:=q.doc.ext e
 ob:=q.ob.aP (aY.bH (F:=λ_=>False) e) (λ_ _ f=>f.elim) λ_ _ h=>h
 le:=q.le.aP (aY.bH (F:=λ_=>False) e) (λ_ _ f=>f.elim) λ_ _ h=>h
 lw:=q.lw.aP (aY.bH (F:=λ_=>False) e) (λ_ _ f=>f.elim) λ_ _ h=>h
def Lo(P:Program)(S:cG):Prop:=∀(n k:Nat) (rho:Nat->Nat) (h:aE) (p:Addr) (X:Bk) (D:Doc) (sl sw:Sl) (vs:bE) (ls:aW) (M:Mo) (N:Nat),fZ S n k rho h p X D sl sw vs ls->Gj X D M N->aS P (Db S (some p)) [tB] h λ(y:Bool×Unit) _=>y.1=true
theorem bw(Me:jM P S)(Y:Cl0 P S)(Z:Xv P S){M:Mo}{N:Nat}(q:fZ S n k rho h p X D sl sw vs ls)(b:Gj X D M N)(hN:N<=1073741824)(o1 o2 j A:Int)(o5 o6:Sl)(C:o1=13->Lo P S) :
  aS P (Ao S (some p) (o1,o2,j,A,o5,o6,())) [tB] h λ(y:Bool×Unit) _=>y.1=true:=by
 unfold Ao aS;refine λel=>?_;have m:Ext h (h.push (.cells [aH o1,aH o2,aH j,aH A,dG o5,dG o6].toArray el)):=Ext.push ..;have I:cC h.size 1 (h.push (.cells [aH o1,aH o2,aH j,aH A,dG o5,dG o6].toArray el)) ⟨some ⟨h.size,0,none⟩,6,6⟩ [aH o1,aH o2,aH j,aH A,dG o5,dG o6]:=bX rfl (by decide) (by decide);show wp P _ (h.push (.cells [aH o1,aH o2,aH j,aH A,dG o5,dG o6].toArray el)) _;generalize h.push (.cells [aH o1,aH o2,aH j,aH A,dG o5,dG o6].toArray el)=h1 at m I⊢;have d:=q.ext' m;have ok:=b.ok;have hE:=b.dm.E;have J:D.E.length<=65536:=by have:=ok.len;rw[hE];omega
 have G:=ok.EB;unfold Mo.all at G;rw[bM,bM]at G;have K:gS X.T.enc X.T.cur.ps=D.E:=by rw[hE];exact b.inv.lk.E
 refine bY (b:=bI) o1 rfl I.cells rfl ?_;refine aG (λ_=>?_) λ_=>aG (λ_=>?_) λ_=>aG (λ_=>?_) λ_=>aG (λab=>?_) λ_=>aG (λ_=>?_) λ_=>aG (λ_=>?_) λ_=>aG (λ_=>?_) λ_=>aG (λ_=>?_) λ_=>aC ⟨rfl,m,(true,()),rfl,rfl⟩
 .refine d.rd (b:=.ptr) (some X.b) rfl (d.rd (b:=.ptr) (some D.b) rfl ?_)
  refine aM (Vc d.bk) λ⟨(tp:OA),_⟩ h2 f ht=>?_;have ht:tp=some X.T.p:=ht;subst ht;have g:=d.ext' f;refine g.ck rfl (aM (Vj Me Y Z g.bk.t g.doc K J) λ⟨(y:Bool),_⟩ h3 o c=>aC ⟨rfl,(m.trans f).trans o,(y,()),rfl,c⟩)
 .refine d.rd (b:=.ptr) (some X.T.p) rfl (d.rd (b:=.ptr) (some D.b) rfl ?_)
  exact aM (Vj Me Y Z d.bk.t d.doc K J) λ⟨(y:Bool),_⟩ h3 o c=>aC ⟨rfl,m.trans o,(y,()),rfl,c⟩
 .refine d.rd (b:=.ptr) (some X.b) rfl (bY (b:=bI) j rfl I.cells rfl ?_)
  refine aM (ov d.bk b.inv) λ⟨(R:Int),(U:Int),_⟩ h2 f c=>?_;obtain⟨r,u⟩:=c;have r:R=(M.Em j).1:=r;have u:U=(M.Em j).2:=u;have g:=d.ext' f;have al:=(aY.bH (F:=λ_=>False) f).own I λ_ _ x=>x;refine g.rd (b:=.ptr) (some D.b) rfl (bY (b:=bI) j rfl al.cells rfl ?_);refine aM (jy g.doc b.dm j) λ⟨(V:Int),(W:Int),_⟩ h3 o O=>?_;obtain⟨w,z⟩:=O;have w:V=(M.Em j).1:=w;have z:W=(M.Em j).2:=z;subst r;subst u;subst w;subst z;refine iO (tys:=[tB]) (λ(y:Bool×Unit) _=>y.1=true) ?_ λ⟨(y:Bool),_⟩ h4 B c=>aC ⟨rfl,((m.trans f).trans o).trans B,(y,()),rfl,c⟩;refine aM GZ λ⟨(a:Int),_⟩ h4 B ha=>?_;have ha:a=(M.Em j).2:=ha;subst ha;refine aG (λ_=>aC ⟨rfl,B,(_,()),rfl,cJ.2 rfl⟩) λH=>by rw[dM]at H;exact absurd rfl H
 .exact aM (C (cJ.1 ab) _ _ _ _ _ _ _ _ _ _ _ _ _ d b) λ⟨(y:Bool),_⟩ h2 f c=>aC ⟨rfl,m.trans f,(y,()),rfl,c⟩
 .refine d.rd (b:=.ptr) (some X.b) rfl (d.rd (b:=.ptr) (some D.b) rfl (d.doc.rd (b:=.sl) D.sw rfl ?_))
  refine aM (Xq d.bk b.inv (by omega)) λ⟨(s:Sl),_⟩ h2 f os=>?_;have os:bR h1.size .i64 h2 s M.watched:=os;have g:=d.ext' f;refine g.doc.um rfl (g.ck rfl ?_);have ow:=g.doc.wa.1;rw[b.dm.ws]at ow;refine aM (EE os.kZ ow.kZ) λ⟨(y:Bool),_⟩ h3 o c=>aC ⟨rfl,(m.trans f).trans o,(y,()),rfl,?_⟩;have c:y=decide _:=c;rw[c];exact decide_eq_true rfl
 .refine d.rd (b:=.ptr) (some X.b) rfl ?_
  refine aM (fe d.bk b.inv) λ⟨(R:Int),(U:Int),_⟩ h2 f c=>?_;obtain⟨r,u⟩:=c;have r:R=M.done.length:=r;have u:U=M.next.length:=u
  have g:=d.ext' f;refine g.rd (b:=.ptr) (some D.b) rfl ?_;refine aM (Yj g.doc b.dm (by omega)) λ⟨(V:Int),(W:Int),_⟩ h3 o O=>?_;obtain⟨w,z⟩:=O;have w:V=M.done.length:=w;have z:W=M.next.length:=z
  subst r;subst u;subst w;subst z;refine iO (tys:=[tB]) (λ(y:Bool×Unit) _=>y.1=true) ?_ λ⟨(y:Bool),_⟩ h4 B c=>aC ⟨rfl,((m.trans f).trans o).trans B,(y,()),rfl,c⟩;exact aG (λ_=>aC ⟨rfl,Ext.refl _,(_,()),rfl,cJ.2 rfl⟩) λH=>by rw[dM]at H;exact absurd rfl H
 .refine d.rd (b:=.ptr) (some X.b) rfl (d.rd (b:=.ptr) (some D.b) rfl ?_)
  refine aM (ff d.bk b.inv) λ⟨(y:Bool),_⟩ h2 f c=>?_;have c:y=M.DX:=c;subst c;have g:=d.ext' f;refine g.ck rfl (aM (bz g.doc b.dm) λ⟨(y:Bool),_⟩ h3 o c=>aC ⟨rfl,(m.trans f).trans o,(_,()),rfl,?_⟩);have c:y=M.DX:=c;subst c;show Yp M.DX M.DX=true;simp[Yp]
 .refine d.rd (b:=.ptr) (some X.b) rfl (d.rd (b:=.ptr) (some D.b) rfl (d.doc.rd (b:=.bool) D.op rfl ?_))
  refine aM (ZQ d.bk b.inv) λ⟨(y:Bool),_⟩ h2 f c=>?_;have c:y=M.now.isSome:=c;subst c;have g:=d.ext' f;refine g.doc.um rfl (g.ck rfl (aC ⟨rfl,m.trans f,(_,()),rfl,?_⟩));show Yp M.now.isSome D.op=true;rw[b.dm.op];simp[Yp]
end
section
variable{P:Program}{S:cG}{h:aE}{Q:Nat->bE->aE->Prop}{n k:Nat}{rho:Nat->Nat}{X:Bk}{D:Doc}{p:Addr}{sl sw:Sl}{vs:bE}{ls:aW}{M:Mo}{N:Nat}
variable{h2 h3:aE}{M':Mo}{N':Nat}
theorem gM.pre{h1:aE}{b:Nat->Nat}(st:qE k h rho h1 b)(d:gM S n k h1 b h2 p X D M' N'):gM S n k h rho h2 p X D M' N':=by
 obtain⟨c,j,g,s1,s2,v,l,f,o,m,sm,hb⟩:=d;exact⟨c,j,g,s1,s2,v,l,st.trans f,o,m,sm,hb⟩
theorem gM.ext{h2:aE}(q:fZ S n k rho h p X D sl sw vs ls)(b:Gj X D M N)(e:Ext h h2):gM S n k h rho h2 p X D M N:=
 ⟨_,X,D,sl,sw,vs,ls,(cQ.mV (k:=k) e).UQ ⟨bL _,by omega⟩,q.ext e,b,Sm.refl X,rfl⟩
theorem gM.more{f:Nat}(d:gM S n k h rho h2 p X D M' N')(o:N'<=f):gM S n k h rho h2 p X D M' f:=by
 obtain⟨c,m,j,s1,s2,v,l,g,r,b,sm,hb⟩:=d;exact⟨c,m,j,s1,s2,v,l,g,r,⟨b.inv.mono o,b.dm,b.enc,b.Bp⟩,sm,hb⟩
theorem gM.Yt(d:gM S n k h rho h2 p X D M' N')(e:Ext h2 h3):gM S n k h rho h3 p X D M' N':=by
 obtain⟨m,f,c,s1,s2,v,l,b,j,g,sm,hb⟩:=d;exact⟨_,f,c,s1,s2,v,l,b.trans ((cQ.mV (k:=k) e).UQ ⟨bL _,by omega⟩),j.ext e,g,sm,hb⟩
theorem jL.Yt{k:Nat}(d:jL k h rho h2 D M')(e:Ext h2 h3):jL k h rho h3 D M':=by
 obtain⟨g,c,b,d2,f,hb⟩:=d;exact⟨_,c,b.trans (cQ.mV e),d2.zr e,f,hb⟩
theorem QR{A B:aK}{m vsB:bE}{tyA tyB:List Ty}{xA:Ts.den tyA}{xB:Ts.den tyB}{mid:aK->aK}{r:Ts.den tyA->aK}{KB:Ts.den tyB->aK}
  (q:fZ S n k rho h p X D sl sw vs ls) (b:Gj X D M N)
  (y:wp P A h λtg vs h'=>tg=0/\vs=m/\kL S n k X h rho h' M' N') (w:m=Ts.inj tyA xA)
  (u:∀f c o,cQ k h rho f c->fZ S n k c f p o D sl sw vs ls->(∀h2,jL (k+11) f c h2 D M'->gM S n k h rho h2 p X D M' N')->wp P (r xA) f Q):wp P (.call A tyA r) h Q:=by
 refine eU y λtg vs f z=>?_;obtain⟨rfl,rfl,c,o,g,t,i1,j⟩:=z;exact⟨rfl,xA,w,u f c o g (q.book g t j) λh2 d=>gM.of q ⟨b.enc,b.Bp⟩ g t i1 j d⟩
end
section
variable{P:Program}{S:cG}{h:aE}{Q:Nat->bE->aE->Prop}{n k:Nat}{rho:Nat->Nat}{X:Bk}{D:Doc}{p:Addr}{sl sw:Sl}{vs:bE}{ls:aW}{M M':Mo}{N N':Nat}
theorem ZB{A:aK}{B:OA->aK}{u v:Int}(q:fZ S n k rho h p X D sl sw vs ls)(b:Gj X D M N)
  (C:wp P A h λtg vs h'=>tg=0/\vs=[aH u,aH v]/\kL S n k X h rho h' M' N')
  (E:∀d c,eS (k+11) c d D->wp P (B (some D.b)) d λtg vs h2=>tg=0/\vs=[aH u,aH v]/\jL (k+11) d c h2 D M') :
  wp P (.call A [tI, tI] λ(o:Int×Int×Unit)=>bD (aJ (some p))<|bD (aJ (some p))<|.load (tP) (aB (some p) 2) λ(H:OA)=>.call (B H) [tI, tI] λ(z:Int×Int×Unit)=>
   .bind (.call (gI S o.2.1) [tI] λ(I:Int×Unit)=>aR (fU I.1 z.2.1) (.ret 0 [.bool (fU o.1 z.1)]) (.ret 0 [.bool Bool.false])) λt w=>aR (jC t 0) (.cast [tB] w λ(r:Bool×Unit)=>.ret 1 [.bool r.1]) .fail) h
   λtg vs h2=>tg=1/\vs=[.bool true]/\gM S n k h rho h2 p X D M' N':=by
 refine QR (xA:=(u,v,())) (xB:=(u,v,())) (tyB:=[tI, tI]) (B:=.fail) (vsB:=[]) (mid:=id) (KB:=λ_=>.fail) q b C rfl λd c K J m fin=>?_;refine m.rd (b:=.ptr) (some D.b) rfl ?_;refine eU (E d c m.doc) λtg vs h2 G=>?_;obtain⟨rfl,rfl,d2⟩:=G;refine⟨rfl,(u,v,()),rfl,?_⟩;refine iO (tys:=[tB]) (λ(y:Bool×Unit) _=>y.1=true) ?_ λ⟨(y:Bool),_⟩ h3 f g=>?_
 .refine aM GZ λ⟨(a:Int),_⟩ h3 f ha=>?_
  have ha:a=v:=ha;subst ha;refine aG (λ_=>aC ⟨rfl,f,(_,()),rfl,cJ.2 rfl⟩) λj=>by rw[dM]at j;exact absurd rfl j
 .have g:y=true:=g
  subst g;exact aC ⟨rfl,rfl,fin h3 (d2.Yt f)⟩
theorem ib{A:aK}{B:OA->aK}{u:Int}{m:Addr}{os:bE}{x:Int}(q:fZ S n k rho h p X D sl sw vs ls)(b:Gj X D M N)(oo:sU 0 1 rho h ⟨some m,6,6⟩ os)(hx:os[3]?=some (aH x))
  (U:wp P A h λtg vs h'=>tg=0/\vs=[aH u]/\kL S n k X h rho h' M' N')
  (V:∀y d,eS (k+11) d y D->wp P (B (some D.b)) y λtg vs h2=>tg=0/\vs=[aH u]/\jL (k+11) y d h2 D M') :
  wp P (.call A [tI] λ(r1:Int×Unit)=>.check (aB (some m) 3) [aH x]<|.check (aB (some p) 2) [.pointer (some D.b)]<|.call (gI S r1.1) [tI] λ(r2:Int×Unit)=>
   .check (aB (some m) 3) [aH x]<|.check (aB (some p) 2) [.pointer (some D.b)]<|.call (B (some D.b)) [tI] λ(r3:Int×Unit)=>.ret 1 [.bool (fU r2.1 r3.1)]) h
   λtg vs h2=>tg=1/\vs=[.bool true]/\gM S n k h rho h2 p X D M' N':=by
 have ck:∀{g:aE} {r:Nat->Nat} {K:aK} {Q:Nat->bE->aE->Prop},sU 0 1 r g ⟨some m,6,6⟩ os->wp P K g Q->wp P (.check (aB (some m) 3) [aH x] K) g Q:=λo W=>by
  refine⟨⟨_,rfl,aI.2 λj w I=>?_⟩,W⟩;cases j with
  |zero=>cases I;rw[add_zero'];exact aI.1 o.1.cells 3 _ hx
  |succ j=>simp at I
 refine QR (xA:=(u,())) (xB:=(u,())) (tyB:=[tI]) (B:=.fail) (vsB:=[]) (mid:=id) (KB:=λ_=>.fail) q b U rfl λy d X1 C E fin=>?_;have z:=oo.aP (rho':=d) C.c (λi hi hf=>by omega) λi hi Z=>by rw[C.old i hi (by omega)];exact Z
 refine ck z (E.ck rfl (aM GZ λ⟨(a:Int),_⟩ h2 t ha=>?_));have ha:a=u:=ha;subst ha;have J:=z.aP (rho':=d) (aY.bH (F:=λ_=>False) t) (λ_ _ f=>f.elim) λ_ _ h=>h;have q2:=E.ext' t;refine ck J (q2.ck rfl ?_);have O:=E.ext t;refine eU (V h2 _ O.doc) λtg vs h3 Y=>?_;obtain⟨rfl,rfl,d3⟩:=Y;refine⟨rfl,(a,()),rfl,aC ⟨rfl,?_,fin h3 ?_⟩⟩
 .show[Value.bool (fU a a)]=_
  rw[cJ.2 rfl]
 .obtain⟨G,T,R,H,m3,hb⟩:=d3
  exact⟨G,T,(cQ.mV t).trans R,H,m3,hb⟩
end
section
variable{P:Program}{S:cG}{h:aE}{Q:Nat->bE->aE->Prop}{n k:Nat}{rho:Nat->Nat}{X:Bk}{D:Doc}{p:Addr}{sl sw:Sl}{vs:bE}{ls:aW}{M M':Mo}{N N':Nat}
theorem mz{A:aK}{B:OA->aK}{u:Int}{m:Addr}{os:bE}{x z:Int}(q:fZ S n k rho h p X D sl sw vs ls)(b:Gj X D M N)(oo:sU 0 1 rho h ⟨some m,6,6⟩ os)(hx:os[3]?=some (aH x))(hz:os[2]?=some (aH z))
  (Y:wp P A h λtg vs h'=>tg=0/\vs=[aH u]/\kL S n k X h rho h' M' N')
  (Z:∀E d,eS (k+11) d E D->wp P (B (some D.b)) E λtg vs h2=>tg=0/\vs=[aH u]/\jL (k+11) E d h2 D M') :
  wp P (.call A [tI] λ(r1:Int×Unit)=>.check (aB (some m) 3) [aH x]<|.check (aB (some m) 2) [aH z]<|.check (aB (some p) 2) [.pointer (some D.b)]<|.call (gI S r1.1) [tI] λ(r2:Int×Unit)=>
   .check (aB (some m) 3) [aH x]<|.check (aB (some m) 2) [aH z]<|.check (aB (some p) 2) [.pointer (some D.b)]<|.call (B (some D.b)) [tI] λ(r3:Int×Unit)=>.ret 1 [.bool (fU r2.1 r3.1)]) h
   λtg vs h2=>tg=1/\vs=[.bool true]/\gM S n k h rho h2 p X D M' N':=by
 have ck:∀{g:aE} {r:Nat->Nat} {K:aK} {Q:Nat->bE->aE->Prop},sU 0 1 r g ⟨some m,6,6⟩ os->wp P K g Q->wp P (.check (aB (some m) 3) [aH x] K) g Q:=λo J=>by
  refine⟨⟨_,rfl,aI.2 λj w t=>?_⟩,J⟩;cases j with
  |zero=>cases t;rw[add_zero'];exact aI.1 o.1.cells 3 _ hx
  |succ j=>simp at t
 have G:∀{g:aE} {r:Nat->Nat} {K:aK} {Q:Nat->bE->aE->Prop},sU 0 1 r g ⟨some m,6,6⟩ os->wp P K g Q->wp P (.check (aB (some m) 2) [aH z] K) g Q:=λo J=>by
  refine⟨⟨_,rfl,aI.2 λj w t=>?_⟩,J⟩;cases j with
  |zero=>cases t;rw[add_zero'];exact aI.1 o.1.cells 2 _ hz
  |succ j=>simp at t
 refine QR (xA:=(u,())) (xB:=(u,())) (tyB:=[tI]) (B:=.fail) (vsB:=[]) (mid:=id) (KB:=λ_=>.fail) q b Y rfl λE d X1 I O fin=>?_;have y:=oo.aP (rho':=d) I.c (λi hi hf=>by omega) λi hi hr=>by rw[I.old i hi (by omega)];exact hr
 refine ck y (G y (O.ck rfl (aM GZ λ⟨(a:Int),_⟩ h2 C ha=>?_)));have ha:a=u:=ha;subst ha;have H:=y.aP (rho':=d) (aY.bH (F:=λ_=>False) C) (λ_ _ f=>f.elim) λ_ _ h=>h;have q2:=O.ext' C;refine ck H (G H (q2.ck rfl ?_));have U:=O.ext C;refine eU (Z h2 _ U.doc) λtg vs h3 hq=>?_;obtain⟨rfl,rfl,d3⟩:=hq;refine⟨rfl,(a,()),rfl,aC ⟨rfl,?_,fin h3 ?_⟩⟩
 .show[Value.bool (fU a a)]=_
  rw[cJ.2 rfl]
 .obtain⟨R,W,V,T,m3,hb⟩:=d3
  exact⟨R,W,(cQ.mV C).trans V,T,m3,hb⟩
theorem TU(C:V8 P S){o1 o2 u m:Int}{o5 o6:Sl}(q:fZ S n k rho h p X D sl sw vs ls)(b:Gj X D M N)(hN:N<=1048576)(h2:o1≠2)(Y:o1≠8)(O:cR .i64 u)(z:cR .i64 m) :
  wp P (iK S (some p) (o1,o2,u,m,o5,o6,())) h λtg vs h'=>tg=0/\vs=[.bool true]/\∃M',gM S n k h rho h' p X D M' (N+1):=by
 unfold iK;refine λel=>?_;have R:Ext h (h.push (.cells [aH o1,aH o2,aH u,aH m,dG o5,dG o6].toArray el)):=Ext.push ..;have I:cC h.size 1 (h.push (.cells [aH o1,aH o2,aH u,aH m,dG o5,dG o6].toArray el)) ⟨some ⟨h.size,0,none⟩,6,6⟩ [aH o1,aH o2,aH u,aH m,dG o5,dG o6]:=bX rfl (by decide) (by decide);show wp P _ (h.push (.cells [aH o1,aH o2,aH u,aH m,dG o5,dG o6].toArray el)) _;generalize h.push (.cells [aH o1,aH o2,aH u,aH m,dG o5,dG o6].toArray el)=o at R I⊢;have f:=q.ext R;have A:qE k h rho o (Hist.zr h rho):=(cQ.mV (k:=k) R).UQ ⟨bL _,by omega⟩;have J:sU 0 1 (Hist.zr h rho) o ⟨some ⟨h.size,0,none⟩,6,6⟩ [aH o1,aH o2,aH u,aH m,dG o5,dG o6]:=⟨cC.mono I (cS _),λa ha=>by cases ha;exact qA (bL _)⟩;generalize Hist.zr h rho=T at f A J;have ok:=b.ok;have G:=ok.EB;unfold Mo.all at G;rw[bM,bM]at G;have E:∀{K:Int->aK} {Q},wp P (K m) o Q->wp P (.load (tI) (aB (some ⟨h.size,0,none⟩) 3) K) o Q:=λy=>bY (b:=bI) m rfl I.cells rfl y;have U:∀{K:Int->aK} {Q},wp P (K u) o Q->wp P (.load (tI) (aB (some ⟨h.size,0,none⟩) 2) K) o Q:=λy=>bY (b:=bI) u rfl I.cells rfl y;have rb:∀{K:OA->aK} {Q},wp P (K (some X.b)) o Q->wp P (bD (aJ (some p))<|bD (aJ (some p))<|.load (tP) (aB (some p) 0) K) o Q:=λy=>f.rd (b:=.ptr) (some X.b) rfl y;have rd:∀{K:OA->aK} {Q},wp P (K (some D.b)) o Q->wp P (bD (aJ (some p))<|bD (aJ (some p))<|.load (tP) (aB (some p) 2) K) o Q:=λy=>f.rd (b:=.ptr) (some D.b) rfl y;refine eN (λt w h'=>(t=1/\w=[.bool true]\/t=0/\w=[])/\∃M',gM S n k h rho h' p X D M' (N+1)) ?_ ?_
 .have t1:∀{h':aE} {w:bE} {t:Nat} {M':Mo} {N':Nat},N'<=N+1->(t=1/\w=[.bool true]/\gM S n k o T h' p X D M' N')->(t=1/\w=[.bool true]\/t=0/\w=[])/\∃M',gM S n k h rho h' p X D M' (N+1):=λZ ⟨a,b,c⟩=>⟨.inl ⟨a,b⟩,_,(gM.pre A c).more Z⟩
  refine bY (b:=bI) o1 rfl I.cells rfl ?_;refine aG (λ_=>?_) λ_=>aG (λH=>by rw[cJ]at H;exact absurd H h2) λ_=>aG (λ_=>?_) λ_=>aG (λ_=>?_) λ_=>aG (λ_=>?_) λ_=>aG (λ_=>?_) λ_=>aG (λ_=>?_) λ_=>aG (λH=>by rw[cJ]at H;exact absurd H Y) λ_=>aG (λ_=>?_) λ_=>aC ⟨.inr ⟨rfl,rfl⟩,M,(gM.pre A (gM.ext f b (Ext.refl _))).more (by omega)⟩
  .exact rb (E (rd (E (cU _ (λt w h' j=>t1 (Gi _) j) (ib (B:=λb=>nV S b m) f b J rfl (fc f.bk b.inv (by omega)) λg r d=>bx d b.dm ok (by omega) (by have:=ok.mb;have:=ok.wl;omega) z)))))
  .exact rb (E (rd (E (cU _ (λt w h' j=>t1 (bL _) j) (ib (B:=λb=>qV S b m) f b J rfl (ud C f.bk b.inv (by omega)) λg r d=>qu d b.dm ok (by omega) z (by omega))))))
  .exact rb (cU _ (λt w h' j=>t1 (Gi _) j) (ZB (B:=λb=>pL S b) f b (oj C f.bk b.inv) λg r d=>jx d b.dm ok (by omega)))
  .exact rb (cU _ (λt w h' j=>t1 (Gi _) j) (ZB (B:=λb=>pN S b) f b (pf f.bk b.inv (by omega)) λg r d=>j7 d b.dm ok (by omega)))
  .exact rb (cU _ (λt w h' j=>t1 (Gi _) j) (ZB (B:=λb=>pM S b) f b (p_ f.bk b.inv (by omega)) λg r d=>j5 d b.dm ok (by omega)))
  .exact rb (U (E (rd (U (E (cU _ (λt w h' j=>t1 (bL _) j) (mz (B:=λb=>lN S b u m) f b J rfl rfl (Xp f.bk b.inv O z) λg r d=>Wz d b.dm ok.so (by have:=ok.mb;omega) ⟨O,z⟩)))))))
  .refine rb ?_
   refine QR (xA:=()) (xB:=()) (tyA:=[]) (tyB:=[]) (B:=.fail) (vsB:=[]) (mid:=id) (KB:=λ_=>.fail) f b (fg f.bk b.inv) rfl λg2 ab X2 al V fin=>?_;refine V.rd (b:=.ptr) (some D.b) rfl (eU (j6 V.doc b.dm) λtg vs W j=>?_);obtain⟨rfl,rfl,d3⟩:=j;exact⟨rfl,(),rfl,aC ⟨.inr ⟨rfl,rfl⟩,_,(gM.pre A (fin W d3)).more (by omega)⟩⟩
 .rintro t w h3 ⟨⟨rfl,rfl⟩|⟨rfl,rfl⟩,M',pp⟩
  .exact bK (jQ (aC ⟨rfl,rfl,M',pp⟩))
  .exact nT (by decide) (bK (bV (aC ⟨rfl,rfl,M',pp⟩)))
end
section
variable{P:Program}{S:cG}{h:aE}{Q:Nat->bE->aE->Prop}
variable{α:Type}{i:Nat}
theorem VV{T m:List α}{v:α}(b:T[i]?=some v)(f:T.length=m.length):(T.take i++m.drop i).set i v=T.take (i+1)++m.drop (i+1):=by
 have d:=(eK.1 b).1;have c:(T.take i).length=i:=by rw[dJ];omega
 rw[Bl (h:=by omega),c,tZ,gK (by omega),xS,eG,b,HA,eC];rfl
theorem ZD{T m:List α}{u v:α}(b:T[i]?=some v)(c:T.length=m.length):((T.take i++m.drop i).set i u).set i v=T.take (i+1)++m.drop (i+1):=by
 rw[List.set_set];exact VV b c
theorem Zz{n j:Nat}{s x:Sl}{m l:aW}{C:Addr}{os:bE}(o:bR n .i64 h s m)(hm:m.length=l.length+j)(O:∀h',aY (iE s) h h'->kB .i64 h' x l)(Z:∀h',aY (iE s) h h'->cC 0 1 h' ⟨some C,6,6⟩ os)(V:os[5]?=some (dG x)){K:aK}
  (H:∀h',bR n .i64 h' s (l++KQ l.length j)->aY (iE s) h h'->wp P K h' Q) :
  wp P (.bind (.loop [tI] ((0:Int),()) λ(r:Int×Unit)=>aR (fE r.1 (aQ s.len))
   (.bind (bD (bN (aJ s.aD) (eV r.1 s.len))<|.store (aB s.aD (bB (bP r.1) 1)) [aH (bJ .i64 (-71) r.1)]<|
     aR (fE r.1 (aQ x.len)) (.load (tS) (aB (some C) 5) λ(y:Sl)=>bD (bN (aJ y.aD) (eV r.1 y.len))<|.load (tI) (aB y.aD (bB (bP r.1) 1)) λ(v:Int)=>bD (bN (aJ s.aD) (eV r.1 s.len))<|.store (aB s.aD (bB (bP r.1) 1)) [aH v]<|.ret 0 [])
      (.ret 0 [])) λt w=>aR (jC t 0) (.cast [] w λ_=>.ret 0 [aH (aT .i64 r.1 1)]) .fail)
   (.ret 3 [])) λt w=>aR (jC t 3) (.cast [] w λ_=>K) .fail) h Q:=by
 have hlen:=o.len;have W:=o.own.2.1;have Y:=o.own.2.2.1;have I:aQ s.len=(m.length:Int):=by rw[aN,hlen]
 have R:=(O h (aY.refl _ _)).len;have J:aQ x.len=(l.length:Int):=by rw[aN,R]
 rw[I,J];obtain⟨T,f⟩:∃T,T=l++KQ l.length j:=⟨_,rfl⟩;have z:T.length=m.length:=by rw[f,bM,IK,hm]
 rw[<-f]at H;have h0:bR n .i64 h s (T.take 0++m.drop 0):=o;refine bO (λ(r:Int×Unit) h'=>∃i:Nat,r.1=i/\i<=m.length/\aY (iE s) h h'/\bR n .i64 h' s (T.take i++m.drop i)) (λr _=>((m.length:Int)-r.1).toNat)
  (λt w h'=>t=3/\w=[]/\aY (iE s) h h'/\bR n .i64 h' s T) ⟨0,rfl,cS _,aY.refl _ _,h0⟩ ?_ ?_
 .rintro⟨(si:Int),u⟩ E ⟨i,hi,hle,c1,o1⟩
  dsimp only at hi⊢;subst hi;refine aG (λA=>?_) λA=>?_
  .rw[aV]at A
   have al:i<m.length:=by omega
   have ab:(T.take i++m.drop i).length=m.length:=by rw[bM,dJ,cZ];omega
   refine eN (λt w h'=>t=0/\w=[]/\aY (iE s) h h'/\bR n .i64 h' s (T.take (i+1)++m.drop (i+1))) ?_ ?_
   .refine Ti o1 (by omega) (range_i64 _) λh2 o2 c2 z2=>?_
    have c:=c1.trans c2 λ_ _ h=>h;refine aG (λd=>?_) λd=>?_
    .rw[aV]at d
     refine bY (b:=.sl) x rfl (Z h2 c).cells V (qM (O h2 c) (by omega) (by omega) λG=>?_);have g:T[i]?=some (l.getD (i:Int).toNat 0):=by
      rw[f,lV (by omega)];simp[List.getD,cM (show i<l.length by omega)]
     generalize l.getD (i:Int).toNat 0=v at g G⊢;refine Ti o2 (by rw[FL];omega) G λh3 U c3 z3=>aC ⟨rfl,rfl,c.trans c3 λ_ _ h=>h,?_⟩;rw[ZD g z]at U;exact U
    .rw[aZ]at d
     have g:T[i]?=some (bJ .i64 (-71) (i:Int)):=by
      rw[f,jK (by omega),VE (by omega),show l.length+(i-l.length)=i by omega]
     rw[VV g z]at o2;exact aC ⟨rfl,rfl,c,o2⟩
   .rintro t w h2 ⟨rfl,rfl,c2,o2⟩
    refine bK (bV ?_);rw[bG (by omega) (by omega)];exact aC ⟨λ_=>⟨((i:Int)+1,()),rfl,⟨i+1,by push_cast;rfl,by omega,c2,o2⟩,by dsimp only;omega⟩,λB=>absurd rfl B⟩
  .rw[aZ]at A
   have:i=m.length:=by omega
   subst this;rw[iF (by omega),FN,jX]at o1;exact aC ⟨λB=>absurd B (by decide),λ_=>⟨rfl,rfl,c1,o1⟩⟩
 .rintro t w E ⟨rfl,rfl,c1,o1⟩
  exact bK (bV (H E o1 c1))
end
section
variable{P:Program}{S:cG}{h:aE}{Q:Nat->bE->aE->Prop}{n k:Nat}{rho:Nat->Nat}{X:Bk}{D:Doc}{p:Addr}{sl sw:Sl}{vs:bE}{ls:aW}{M M':Mo}{N N':Nat}
theorem nu{n tg:Nat}{v:Int}{s:Sl}{m:aW}(B:cR .i64 v)(h0:tg≠0)(o:bR n .i64 h s m){K:aK}{Y:aK}
  (y:∀h' b,bR n .i64 h' s b->aY (iE s) h h'->wp P K h' Q) :
  wp P (.bind (.loop [tI] ((0:Int),()) λ(r:Int×Unit)=>aR (fE r.1 (aQ s.len)) (bD (bN (aJ s.aD) (eV r.1 s.len))<|.store (aB s.aD (bB (bP r.1) 1)) [aH v]<|.ret 0 [aH (aT .i64 r.1 1)])
   (.ret tg [])) λt w=>aR (jC t tg) (.cast [] w λ_=>K) Y) h Q:=by
 have hlen:=o.len;have j:=o.own.2.1;have A:=o.own.2.2.1;have g:aQ s.len=(m.length:Int):=by rw[aN,hlen]
 rw[g];refine bO (λ(r:Int×Unit) h'=>∃(i:Nat) (b:aW),r.1=i/\i<=m.length/\b.length=m.length/\aY (iE s) h h'/\bR n .i64 h' s b) (λr _=>((m.length:Int)-r.1).toNat)
  (λt w h'=>t=tg/\w=[]/\∃b,aY (iE s) h h'/\bR n .i64 h' s b) ⟨0,m,rfl,cS _,rfl,aY.refl _ _,o⟩ ?_ ?_
 .rintro⟨(C:Int),u⟩ d ⟨i,b,hi,hle,z,c1,o1⟩
  dsimp only at hi⊢;subst hi;refine aG (λf=>?_) λf=>aC ⟨λc=>absurd c h0,λ_=>⟨rfl,rfl,b,c1,o1⟩⟩;rw[aV]at f;refine Ti o1 (by omega) B λh2 o2 c2 E=>?_;rw[bG (by omega) (by omega)];exact aC ⟨λ_=>⟨((i:Int)+1,()),rfl,⟨i+1,_,by push_cast;rfl,by omega,by rw[FL];exact z,c1.trans c2 λ_ _ h=>h,o2⟩,by dsimp only;omega⟩,λc=>absurd rfl c⟩
 .rintro t w d ⟨rfl,rfl,b,c1,o1⟩
  exact bK (bV (y d b o1 c1))
theorem fZ.rp{h':aE}{F:Nat->Prop}{f:aW}(q:fZ S n k rho h p X D sl sw vs ls)(c:aY F h h')(d:∀i,i<h.size->F i->rho i=k+25)(o:bR 0 .i64 h' sw f):fZ S n k rho h' p X D sl sw vs f where
 bk:=q.bk.other c (λi hi b=>by have:=d i hi b;omega) λ_ _ _=>rfl
 doc:=q.doc.aP c (λi hi b=>by have:=d i hi b;omega) λ_ _ _=>rfl
 ob:=q.ob.aP c (λi hi b=>by have:=d i hi b;omega) λ_ _ h=>h
 le:=q.le.aP c (λi hi b=>by have:=d i hi b;omega) λ_ _ h=>h
 lw:=⟨o,q.lw.2⟩
end
section
variable{P:Program}{S:cG}{h:aE}{Q:Nat->bE->aE->Prop}{n k:Nat}{rho:Nat->Nat}{X:Bk}{D:Doc}{p:Addr}{sl sw:Sl}{vs:bE}{ls:aW}{M M':Mo}{N N':Nat}
theorem fZ.nv{c:Sl}{l:aW}{K:aK}(q:fZ S n k rho h p X D sl sw vs ls)(oc:BH (k+25) rho h c l)
  (m:∀h',fZ S n k rho h' p X D sl c vs l->aY (λi=>i=p.block) h h'->h'.size=h.size->wp P K h' Q) :
  wp P (bD (aJ (some p))<|bD (aJ (some p))<|.store (aB (some p) 4) [dG c] K) h Q:=by
 have j:rho p.block=k+23:=q.ob.2 p rfl;have o:cC 0 1 h ⟨some p,5,5⟩ ([.pointer (some X.b), .pointer (some X.T.p), .pointer (some D.b),dG sl]++[dG sw]++[]):=q.ob.1;refine aL rfl (aL rfl (rD (mid:=[dG sw]) [dG c] o rfl rfl (by simp) (by intro v r;rw[dE.1 r];rfl) λh' t u w=>?_));have f:aY (λi=>i=p.block) h h':=aY.dP u λa ha _=>by cases ha;rfl
 have g:∀i,i<h.size->i=p.block->rho i=k+23:=λi _ e=>by rw[e];exact j
 refine m h' ⟨q.bk.other f (λi hi d=>by have:=g i hi d;omega) λ_ _ _=>rfl,q.doc.aP f (λi hi d=>by have:=g i hi d;omega) λ_ _ _=>rfl,⟨t,q.ob.2⟩,q.le.aP f (λi hi d=>by have:=g i hi d;omega) λ_ _ h=>h,oc.aP f (λi hi d=>by have:=g i hi d;omega) λ_ _ h=>h⟩ f w
theorem TW{o2 C G:Int}{o5 o6:Sl}{l6:aW}(q:fZ S n k rho h p X D sl sw vs ls)(b:Gj X D M N)(hN:N<=1048576)(cc:l6.length<=1048576)(hs:∀h',aY (λi=>k<rho i/\rho i<=k+30) h h'->kB .i64 h' o6 l6) :
  wp P (iK S (some p) (8,o2,C,G,o5,o6,())) h λtg vs h'=>tg=0/\vs=[.bool true]/\∃M',gM S n k h rho h' p X D M' (N+l6.length):=by
 unfold iK;refine λel=>?_;have e1:Ext h (h.push (.cells [aH 8,aH o2,aH C,aH G,dG o5,dG o6].toArray el)):=Ext.push ..;have oo:cC h.size 1 (h.push (.cells [aH 8,aH o2,aH C,aH G,dG o5,dG o6].toArray el)) ⟨some ⟨h.size,0,none⟩,6,6⟩ [aH 8,aH o2,aH C,aH G,dG o5,dG o6]:=bX rfl (by decide) (by decide);show wp P _ (h.push (.cells [aH 8,aH o2,aH C,aH G,dG o5,dG o6].toArray el)) _;generalize h.push (.cells [aH 8,aH o2,aH C,aH G,dG o5,dG o6].toArray el)=h1 at e1 oo⊢;have K:=q.ext e1;have W:qE k h rho h1 (Hist.zr h rho):=(cQ.mV (k:=k) e1).UQ ⟨bL _,by omega⟩;have z1:=(KW h rho).mono e1.1;have J:sU 0 1 (Hist.zr h rho) h1 ⟨some ⟨h.size,0,none⟩,6,6⟩ [aH 8,aH o2,aH C,aH G,dG o5,dG o6]:=⟨cC.mono oo (cS _),λa ha=>by cases ha;exact qA (bL _)⟩;generalize Hist.zr h rho=d at K W J z1;generalize b9:(⟨h.size,0,none⟩:Addr)=A at J⊢;have T:∀{g:aE} {r:Nat->Nat},qE k h rho g r->kB .i64 g o6 l6:=λst=>hs _ st.c;refine eN (λt w h'=>t=1/\w=[.bool true]/\∃M',gM S n k h rho h' p X D M' (N+l6.length)) ?_ ?_
 .refine bY (b:=bI) 8 rfl J.1.cells rfl ?_
  refine aG (λu=>by cases u) λ_=>aG (λu=>by cases u) λ_=>aG (λu=>by cases u) λ_=>aG (λu=>by cases u) λ_=>aG (λu=>by cases u) λ_=>aG (λu=>by cases u) λ_=>aG (λu=>by cases u) λ_=>aG (λ_=>?_) λu=>by cases u
  refine bY (b:=.sl) o6 rfl J.1.cells rfl (bY (b:=.sl) o6 rfl J.1.cells rfl ?_);have L1:=T W;refine aM (Mp L1 (by omega)) λ⟨(r9:Sl),_⟩ h2 H bt=>?_;obtain⟨j9,bs,_,_,o9⟩:=bt;have o9:bR h1.size .i64 h2 r9 (l6++KQ l6.length j9):=o9;have q2:=K.ext' H;have a7:qE k h rho h2 d:=W.trans ((pF (k:=k) z1 (aY.bH (F:=λ_=>False) H) λ_ _ f=>f.elim).UQ ⟨bL _,by omega⟩);have a5:=J.aP (rho':=d) (aY.bH (F:=λ_=>False) H) (λ_ _ f=>f.elim) λ_ _ h=>h;have al:aQ o6.len=(l6.length:Int):=by rw[aN,L1.len]
  refine eN (λt w h'=>t=0/\∃c j o a4,w=[dG c]/\40<=j/\qE k h rho h' o/\fZ S n k o h' p X D sl sw vs a4/\BH (k+25) o h' c (l6++KQ l6.length j)/\sU 0 1 o h' ⟨some A,6,6⟩ [aH 8,aH o2,aH C,aH G,dG o5,dG o6]) ?_ ?_
  .refine q2.rd (b:=.sl) sw rfl ?_
   rw[al,bG (by omega) (by omega)];refine aG (λhg=>?_) λ_=>?_
   .rw[dT,aN]at hg
    have cd:=q2.lw.1.len;obtain⟨j,hj⟩:∃j,ls.length=l6.length+j:=⟨ls.length-l6.length,by omega⟩;have R:∀i,i<h2.size->iE sw i->d i=k+25:=λi _ ⟨a,ha,e⟩=>by rw[<-e];exact q2.lw.2 a ha
    have a8:∀{g:aE},aY (iE sw) h2 g->qE k h2 d g d:=λc=>⟨c.mono λi hi B=>by rw[R i hi B];omega,λ_ _ _=>rfl,λi hi z=>by
     rcases z with z|z
     .exact .inl (z1 i (by have:=H.1;omega))
     .exact .inr z⟩
    refine q2.rd (b:=.sl) sw rfl ?_;rw[<-al];refine Zz q2.lw.1 hj (λg c=>T (a7.trans (a8 c))) (λg c=>(a5.aP (rho':=d) c (λi hi B=>by rw[R i hi B];omega) λ_ _ h=>h).1) rfl λh3 C c3=>?_;have q3:=q2.rp c3 R C;exact aC ⟨rfl,sw,j,d,_,rfl,by omega,a7.trans (a8 c3),q3,⟨C,q3.lw.2⟩,a5.aP (rho':=d) c3 (λi hi B=>by rw[R i hi B];omega) λ_ _ h=>h⟩
   .have b6:qE k h1 d h2 (Hist.nr h1 d r9 (k+25)):=(IP (k:=k+20) (s:=r9) (r:=k+25) H (by omega)).UQ ⟨by omega,by omega⟩
    have q9:fZ S n k (Hist.nr h1 d r9 (k+25)) h2 p X D sl sw vs ls:=by
     have c:=aY.bH (F:=λ_=>False) H;exact⟨K.bk.other c (λ_ _ f=>f.elim) λi hi _=>vY hi,K.doc.aP c (λ_ _ f=>f.elim) λi hi _=>vY hi,K.ob.aP c (λ_ _ f=>f.elim) λi hi h=>by rw[vY hi];exact h,K.le.aP c (λ_ _ f=>f.elim) λi hi h=>by rw[vY hi];exact h,K.lw.aP c (λ_ _ f=>f.elim) λi hi h=>by rw[vY hi];exact h⟩
    exact aC ⟨rfl,r9,j9,_,ls,rfl,bs,W.trans b6,q9,⟨o9.mono (cS _),λa ha=>En (o9.own.lt ha).1 ⟨a,ha,rfl⟩⟩,J.aP (aY.bH (F:=λ_=>False) H) (λ_ _ f=>f.elim) λi hi h=>by rw[vY hi];exact h⟩
  rintro t w h3 ⟨rfl,c,j,o,a4,rfl,hj,b3,q3,oc,b0⟩;refine bK (lZ ?_);have a3:o p.block=k+23:=q3.ob.2 p rfl;refine q3.nv oc λh4 q4 c4 z4=>?_;have b4:qE k h3 o h4 o:=⟨c4.mono λi hi B=>by rw[B,a3];omega,λ_ _ _=>rfl,λi hi z=>by
   rcases z with z|z
   .omega
   .exact .inr z⟩
  have bd:=b3.trans b4;have b1:=b0.aP (rho':=o) c4 (λi hi B=>by rw[B,a3];omega) λ_ _ h=>h;have U:=q4.lw.1.kZ;have ab:=U.len;rw[bM,IK]at ab;have ab:c.len=l6.length+j:=ab;have b8:c.len<=c.cap:=U.cap;have ba:c.cap<2^63:=U.max;refine q4.rd (b:=.ptr) (some X.b) rfl ?_;rw[al];refine aL (iQ (by omega) (by dsimp only;omega)) ?_;have ht:kB .i64 h4 ⟨bF c.aD c.cap 0 1,cV (bP (l6.length:Int)) 0,cV c.cap 0⟩ l6:=by
   have:=U.take (n:=l6.length) (m:=c.cap) (by rw[bM];omega) (by omega) ba;rw[Aa (bL _),fA]at this;rw[eQ,eR,cN];exact this
  refine eU (fh q4.bk b.inv ht (by omega)) λtg w g1 hq=>?_;obtain⟨rfl,rfl,bb,X5,Y,b5,i5,V⟩:=hq;refine⟨rfl,(_,()),rfl,?_⟩;have q5:=q4.book Y b5 V;have ao:=bd.trans (Y.UQ (k:=k) ⟨bL _,by omega⟩);have a6:=b1.aP (rho':=bb) Y.c (λi hi B=>by omega) λi hi hr=>by rw[Y.old i hi (by omega)];exact hr
  refine q5.rd (b:=.ptr) (some D.b) rfl (bY (b:=.sl) o6 rfl a6.1.cells rfl ?_);refine eU (c_ q5.doc b.dm (T ao) (by omega)) λtg w g2 hq=>?_;obtain⟨rfl,rfl,E,D6,Z,d6,m6,a2,bp,a9⟩:=hq;refine⟨rfl,(_,()),rfl,?_⟩;have q6:=q5.k_ Z d6 a2;have aw:=ao.trans (Z.UQ (k:=k) ⟨by omega,by omega⟩);have b2:=a6.aP (rho':=E) Z.c (λi hi B=>by omega) λi hi hr=>by rw[Z.old i hi (by omega)];exact hr
  refine bY (b:=.sl) o6 rfl b2.1.cells rfl ?_;refine aM (Mn q6.lw.1.kZ (T aw) hj) λ⟨(y:Bool),_⟩ g3 e7 I=>?_;have I:y=true:=I;subst I;have q7:=q6.ext e7;have a0:=aw.trans ((cQ.mV (k:=k) (rho:=E) e7).UQ (k:=k) ⟨bL _,by omega⟩);have z7:=(KW g2 E).mono e7.1;generalize Hist.zr g2 E=O at q7 a0 z7;refine nu (v:=-9) (tg:=5) (eO.2 (by omega)) (by decide) q7.lw.1 λg4 m' o8 c8=>?_;have a1:∀i,i<g3.size->iE c i->O i=k+25:=λi _ ⟨a,ha,e⟩=>by rw[<-e];exact q7.lw.2 a ha
  have q8:=q7.rp c8 a1 o8;have bo:qE k h rho g4 O:=a0.trans ⟨c8.mono λi hi B=>by rw[a1 i hi B];omega,λ_ _ _=>rfl,λi hi z=>by
   rcases z with z|z
   .exact .inl (z7 i z)
   .exact .inr z⟩
  refine iO (tys:=[tB]) (λ(y:Bool×Unit) _=>y.1=true) ?_ λ⟨(y:Bool),_⟩ g5 e9 I=>?_
  .refine aM GZ λ⟨(a:Int),_⟩ g5 e9 ha=>?_
   have ha:a=_:=ha;subst ha;exact aG (λ_=>aC ⟨rfl,e9,(true,()),rfl,rfl⟩) λu=>by rw[dM]at u;exact absurd rfl u
  .have I:y=true:=I
   subst I;refine aC ⟨rfl,rfl,_,gM.Yt ⟨O,X5,D6,sl,c,vs,m',bo,q8,⟨i5,m6,?_,?_⟩,V,a2⟩ e9⟩
   .rw[bp,V.enc];exact b.enc
   .rw[a9,V.limit];exact b.Bp
 .rintro t w h3 ⟨rfl,rfl,M',pp⟩
  exact bK (jQ (aC ⟨rfl,rfl,M',pp⟩))
end
section
variable{P:Program}{S:cG}{h h0:aE}{enc limit depth e:Int}{l:aW}{pp:OA}
theorem ak(b:Da S h0 h enc limit depth l pp e):Cz enc limit depth l e/\(e≠0->pp=none):=by
 cases b with
 |deep c=>exact⟨.deep c,λ_=>rfl⟩
 |text c he m=>
  refine⟨?_,λ_=>rfl⟩;cases m with
  |enc d=>exact .enc c d
  |arg d f=>exact .arg c d f
  |full d f g=>exact .full c d f g
 |ok T X c d f hle _ _ _ _ _ _ _ _=>exact⟨.ok c d f hle,λj=>absurd rfl j⟩
theorem RU(b:Da S h0 h enc limit depth l pp 0):∃X:Bk,pp=some X.b/\X.T.enc=enc/\X.T.limit=limit/\∀(k:Nat) (rho:Nat->Nat),∃rho',cQ k h0 rho h rho'/\(∀i,i<h0.size->rho' i=rho i)/\cL S h0.size h rho' k X/\Inv X (Mo.new (gT 0 0 (bC enc l)) depth) 0:=by
 obtain⟨e,he⟩:∃e:Int,e=0:=⟨_,rfl⟩;rw[<-he]at b;cases b with
 |deep d=>exact absurd he (by decide)
 |text d g A=>exact absurd he g
 |ok T X d y z hle f h2 h3 m o u j w=>
  have c:=j.T;refine⟨X,rfl,by rw[c];exact f,by rw[c];exact h2,λk rho=>?_⟩;obtain⟨rho',st,old,r⟩:=w k rho;refine⟨rho',st,old,r,?_⟩;have t:=r.t;rw[c]at t;have:=dz t j m (by rw[u,h2];exact hle) d;rw[f,o]at this;exact this
end
section
variable{P:Program}{S:cG}{h:aE}{Q:Nat->bE->aE->Prop}
variable{s:Sl}{i:Nat}{h':aE}
abbrev Tr:=Int×Int×Sl
abbrev Ah(e:Tr):bE:=[aH e.1,aH e.2.1,dG e.2.2]
theorem Ch(l:List Tr):(l.flatMap Ah).length=l.length*3:=fT (f:=Ah) (m:=3) (λ_=>rfl) l
theorem o_{p:OA}{x y:Nat}:aB (aB p x) y=aB p (x+y):=by
 cases p with
 |none=>rfl
 |some a=>show some ((a.add x).add y)=some (a.add (x+y));rw[add_add]
theorem m7{n:Nat}{l:List Tr}{off:Nat}{e e':Tr}{c1 mid new c2:bE}{K:aK}(o:cC n 3 h s (l.flatMap Ah))(hi:l[i]?=some e)(h1:Ah e=c1++mid++c2)(h2:Ah e'=c1++new++c2)(r:new.length=mid.length)(h0:mid≠[])(j:∀v∈new,flat v=true)(c:off=i*3+c1.length)
  (m:∀h',cC n 3 h' s ((l.set i e').flatMap Ah)->aY (iE s) h h'->h'.size=h.size->wp P K h' Q):wp P (.store (aB s.aD off) new K) h Q:=by
 have f:=(eK.1 hi).1;have g:l=l.take i++(e::l.drop (i+1)):=by
  rw[<-(eK.1 hi).2,<-gK f,eX]
 have b:(l.take i).length=i:=by rw[dJ];omega
 have d:l.set i e'=l.take i++(e'::l.drop (i+1)):=by
  conv=>lhs;rw[g]
  rw[Bl (h:=by omega),b,tZ,xS]
 have t:cC n 3 h s (((l.take i).flatMap Ah++c1)++mid++(c2++(l.drop (i+1)).flatMap Ah)):=by
  rw[g,hQ,fY,h1]at o;simpa using o
 refine rD (mid:=mid) new t (by rw[c,bM,Ch,b]) r h0 j λh' u w y=>m h' ?_ (aY.dP w λa ha _=>⟨a,ha,rfl⟩) y;rw[d,hQ,fY,h2];simpa using u
theorem Pk{n:Nat}{l:List Tr}{j:Nat}{x:Int}{e:Tr}{b:B}{v:b.den}{K:b.den->aK}(o:cC n 3 h s (l.flatMap Ah))(t:x=(i:Int))(hi:l[i]?=some e)(r:(Ah e)[j]?=some (b.inj v))(d:wp P (K v) h Q) :
  wp P (bD (bN (aJ s.aD) (eV x s.len))<|bD (aJ (aB s.aD (bB (bP x) 3)))<|.load (.one b) (aB (aB s.aD (bB (bP x) 3)) j) K) h Q:=by
 subst t;have u:=(eK.1 hi).1;have f:=o.1;rw[Ch]at f;obtain⟨a,ea,c⟩:=uH (m:=3) (λ_=>rfl) (by decide) o hi;refine aL (fD.2 ⟨by rw[ea];rfl,lR.2 ⟨by omega,by omega⟩⟩) ?_;have g:aB s.aD (bB (bP (i:Int)) 3)=some (a.add (i*3)):=by rw[ea,gX,eR,cN];rfl
 rw[g];exact aL rfl (bY (b:=b) v rfl c r d)
structure LE where
 f:Int
 t:Int
 p:Sl
 w:aW
 j:Nat
abbrev Z5(e:LE):Sl:=⟨e.p.aD,e.w.length,e.p.cap⟩
abbrev JN(e:LE):Tr:=(e.f,e.t,Z5 e)
abbrev vj(e:LE):gY:=(e.f,e.t,(Z5 e,e.w),())
def SY(a m:Nat):List Tr:=(List.range m).map λi=>(bJ .i64 (-71) ((a+i:Nat):Int), -72,⟨none,0,0⟩)
theorem QD(a m:Nat):(SY a m).length=m:=by simp[SY]
theorem Y0(a m:Nat):SY a (m+1)=SY a m++[(bJ .i64 (-71) ((a+m:Nat):Int), -72,⟨none,0,0⟩)]:=by simp[SY,LL]
theorem du{a m:Nat}(hi:i<m):(SY a m)[i]?=some (bJ .i64 (-71) ((a+i:Nat):Int), -72,⟨none,0,0⟩):=by simp[SY,hi]
structure LentP(n:Nat)(h:aE)(out pt:Sl)(l:List LE):Prop where
 pl:cC n 1 h pt (l.map λe=>dG e.p)
 pu:∀e∈l,bR n .i64 h e.p (e.w++KQ e.w.length e.j)/\40<=e.j/\cR .i64 e.f/\cR .i64 e.t
 ne:l.Pairwise λa b=>∀x y,a.p.aD=some x->b.p.aD=some y->x.block≠y.block
 no:∀e∈l,∀x,e.p.aD=some x->¬iE out x.block/\¬iE pt x.block
 np:∀x,pt.aD=some x->¬iE out x.block
structure Cw(n:Nat)(h:aE)(out pt:Sl)(l:List LE)(m:Nat):Prop extends LentP n h out pt l where
 lo:cC 0 3 h out ((l.map JN++SY l.length m).flatMap Ah)
theorem LentP.aP{n:Nat}{out pt:Sl}{l:List LE}{F:Nat->Prop}(r:LentP n h out pt l)(c:aY F h h')(h1:∀i,n<=i->i<h.size->F i->¬iE pt i/\∀e∈l,¬iE e.p i):LentP n h' out pt l where
 pl:=c.own r.pl λa ha b=>(h1 _ (r.pl.lt ha).1 (r.pl.lt ha).2 b).1 ⟨a,ha,rfl⟩
 pu:=λe he=>⟨c.pW (r.pu e he).1 λa ha b=>(h1 _ ((r.pu e he).1.own.lt ha).1 ((r.pu e he).1.own.lt ha).2 b).2 e he ⟨a,ha,rfl⟩,(r.pu e he).2⟩
 ne:=r.ne
 no:=r.no
 np:=r.np
theorem LentP.ext{n:Nat}{out pt:Sl}{l:List LE}(r:LentP n h out pt l)(e:Ext h h'):LentP n h' out pt l:=r.aP (aY.bH (F:=λ_=>False) e) λ_ _ _ f=>f.elim
theorem LentP.out{n:Nat}{out d pt:Sl}{l:List LE}(r:LentP n h out pt l)(hb:∀a,d.aD=some a->out.aD=some a\/h.size<=a.block):LentP n h d pt l where
 pl:=r.pl
 pu:=r.pu
 ne:=r.ne
 no:=λe he x b=>⟨λ⟨a,ha,f⟩=>(hb a ha).elim (λc=>(r.no e he x b).1 ⟨a,c,f⟩) λc=>by have:=((r.pu e he).1.own.lt b).2;omega,(r.no e he x b).2⟩
 np:=λx b ⟨a,ha,f⟩=>(hb a ha).elim (λc=>r.np x b ⟨a,c,f⟩) λc=>by have:=(r.pl.lt b).2;omega
theorem LentP.wrote{n:Nat}{out pt:Sl}{l:List LE}(r:LentP n h out pt l)(c:aY (iE out) h h'):LentP n h' out pt l:=
 r.aP c λi _ _ b=>⟨λ⟨a,ha,e⟩=>r.np a ha (by rw[e];exact b),λe he ⟨a,ha,d⟩=>(r.no e he a ha).1 (by rw[d];exact b)⟩
theorem Cw.aP{n m:Nat}{out pt:Sl}{l:List LE}{F:Nat->Prop}{h':aE}(r:Cw n h out pt l m)(c:aY F h h')(h1:∀i,i<h.size->F i->¬iE out i/\(n<=i->¬iE pt i/\∀e∈l,¬iE e.p i)):Cw n h' out pt l m where
 toLentP:=r.toLentP.aP c λi d hi b=>(h1 i hi b).2 d
 lo:=c.own r.lo λa ha b=>(h1 _ (r.lo.lt ha).2 b).1 ⟨a,ha,rfl⟩
theorem Cw.len{n m:Nat}{out pt:Sl}{l:List LE}(r:Cw n h out pt l m):out.len=l.length+m:=by
 have:=r.lo.1;rw[Ch,bM,cD,QD]at this;omega
theorem Cw.ok{n m:Nat}{out pt:Sl}{l:List LE}(r:Cw n h out pt l m):(Sh.list jD).ok h (⟨out.aD,l.length,out.cap⟩,l.map vj):=by
 have u:=r.len;refine⟨by show l.length=_;rw[cD],by have:=r.lo.2.1;show l.length<=out.cap;omega,r.lo.2.2.1,λi y hi=>?_⟩;rw[fX]at hi;obtain⟨e,he,rfl⟩:=mK.1 hi;have d:=(eK.1 he).1;obtain⟨a,ea,g⟩:=uH (m:=3) (i:=i) (x:=JN e) (λ_=>rfl) (by decide) r.lo (by rw[lV (by rw[cD];exact d),fX,he];rfl);obtain⟨c,z,o,t⟩:=r.pu e (eL he);refine⟨a,ea,aI.2 λj v b=>?_,⟨o,t,VJ (w:=Z5 e) ?_,trivial⟩⟩
 .refine aI.1 g j v ?_
  match j,b with
  |0,b=>exact b
  |1,b=>exact b
  |2,b=>exact b
  |j+3,b=>simp[Sh.cells]at b
 .have:=c.kZ.take (n:=e.w.length) (m:=e.p.cap) (by rw[bM];omega) (by have f:=c.len;have h2:=c.own.2.1;rw[bM]at f;omega) c.own.2.2.1
  rw[Aa (bL _),fA]at this;exact this
theorem WV{l:List LE}{x:List gY}(h:l.map (λe=>((e.f,e.t,(⟨none,0,0⟩,e.w),()):gY))=x.map gH):(l.map vj).map gH=x.map gH:=by
 rw[<-h,sL];rfl
end
section
variable{P:Program}{S:cG}{h:aE}{Q:Nat->bE->aE->Prop}
variable{vs:bE}
theorem Zc{n size:Nat}{s:Sl}(o:cC n size h s vs):cC n size h ⟨s.aD,0,s.cap⟩ []:=by
 obtain⟨o1,o2,j,b⟩:=o;refine⟨by simp,cS _,j,?_⟩;cases hb:s.aD with
 |none=>rw[hb]at b;exact b
 |some a=>
  rw[hb]at b;obtain⟨e0,c,d,cs,elem,f,g,m⟩:=b;exact⟨e0,c,d,cs,elem,f,g,λi v hi=>by simp at hi⟩
theorem LentP.nil(n:Nat)(h:aE)(out:Sl):LentP n h out ⟨none,0,0⟩ []:=⟨cC.nil .., λe he=>(by cases he),List.Pairwise.nil,λe he=>(by cases he),λx b=>(by cases b)⟩
theorem LentP.put{n:Nat}{out pt B:Sl}{l:List LE}{e:LE}{h1 h2 h3:aE}(r:LentP n h out pt l)(K:∀a,out.aD=some a->a.block<h.size)(W:n<=h.size)(J:Ext h h1)(R:bR h.size .i64 h1 e.p (e.w++KQ e.w.length e.j))(V:40<=e.j)(U:cR .i64 e.f)(ht:cR .i64 e.t)
  (I:Ext h1 h2) (op:cC n 1 h3 B ((l.map λe=>dG e.p)++[dG e.p])) (c:aY (iE pt) h2 h3) (hb:∀a,B.aD=some a->pt.aD=some a\/h2.size<=a.block):LentP n h3 out B (l++[e]):=by
 have s1:=J.1;have s2:=I.1;have Z:=(r.ext J).ext I;have T:=(aY.bH (F:=λ_=>False) I).pW R λ_ _ f=>f;have H:∀a,pt.aD=some a->a.block<h.size:=λa ha=>(r.pl.lt ha).2;have C:∀a,e.p.aD=some a->h.size<=a.block/\a.block<h1.size:=λa ha=>R.own.lt ha;have E:∀y∈l,∀a,y.p.aD=some a->a.block<h.size:=λy d a ha=>((r.pu y d).1.own.lt ha).2;have O:∀{m:Nat} {y:LE} {t:aW},(∀a,y.p.aD=some a->¬iE pt a.block)->bR m .i64 h2 y.p t->bR m .i64 h3 y.p t:=λd o=>c.pW o d;refine⟨by rw[dL];exact op,λy d=>?_,?_,λy d x u=>?_,λx u ⟨a,ha,g⟩=>?_⟩
 .rcases dD.1 d with d|d
  .exact⟨O (λa ha=>(r.no y d a ha).2) (Z.pu y d).1,(r.pu y d).2⟩
  .rw[dE.1 d]
   exact⟨(O (λa ha ⟨b,A,g⟩=>by have h1:=C a ha;have h2:=H b A;omega) T).mono W,V,U,ht⟩
 .refine L2.2 ⟨r.ne,Ry .., λy d z Y a b ha A=>?_⟩
  rw[dE.1 Y]at A;have h1:=E y d a ha;have h2:=C b A;omega
 .have G:(iE B x.block->iE pt x.block\/h2.size<=x.block):=λ⟨a,ha,g⟩=>(hb a ha).elim (λh1=>.inl ⟨a,h1,g⟩) λh1=>.inr (by omega)
  rcases dD.1 d with d|d
  .exact⟨(r.no y d x u).1,λg=>(G g).elim (r.no y d x u).2 λh1=>by have:=E y d x u;omega⟩
  .rw[dE.1 d]at u
   have h1:=C x u;exact⟨λ⟨a,ha,g⟩=>by have:=K a ha;omega,λg=>(G g).elim (λ⟨a,ha,g⟩=>by have:=H a ha;omega) λh2=>by omega⟩
 .have h1:=K a ha
  rcases hb x u with h2|h2
  .exact r.np x h2 ⟨a,ha,g⟩
  .omega
theorem jt{sl:Sl}{x:Gr}(o:cC 0 3 h sl vs)(hx:∀h',aY (iE sl) h h'->(Sh.list jD).ok h' x)(hl:x.2.length<=1048576)(hp:∀e∈x.2,e.2.2.1.2.length<=1048576) :
  wp P (BD S sl x.1) h λtg vs h'=>tg=0/\∃out pt l m,vs=[dG out,dG pt]/\9<=m/\l.length=x.2.length/\Cw h.size h' out pt l m/\l.map (λe=>((e.f,e.t,(⟨none,0,0⟩,e.w),()):gY))=x.2.map gH/\aY (iE sl) h h'/\∀a,out.aD=some a->sl.aD=some a\/h.size<=a.block:=by
 unfold BD;have cf:=(hx h (aY.refl _ _)).len;have b3:aQ x.1.len=(x.2.length:Int):=by rw[aN,cf]
 rw[b3];refine aL (iQ (nJ 0) (by omega)) ?_;refine bO (λ(s:Sl×Sl×Int×Unit) h'=>∃(i:Nat) (l:List LE),s.2.2.1=i/\i<=x.2.length/\l.length=i/\l.map (λe=>((e.f,e.t,(⟨none,0,0⟩,e.w),()):gY))=(x.2.take i).map gH/\cC 0 3 h' s.1 ((l.map JN).flatMap Ah)/\LentP h.size h' s.1 s.2.1 l/\aY (iE sl) h h'/\∀a,s.1.aD=some a->sl.aD=some a\/h.size<=a.block) (λs _=>((x.2.length:Int)-s.2.2.1).toNat)
  (λt vs h'=>t=2/\∃out pt l,vs=[dG out,dG pt]/\l.length=x.2.length/\l.map (λe=>((e.f,e.t,(⟨none,0,0⟩,e.w),()):gY))=x.2.map gH/\cC 0 3 h' out ((l.map JN).flatMap Ah)/\LentP h.size h' out pt l/\aY (iE sl) h h'/\∀a,out.aD=some a->sl.aD=some a\/h.size<=a.block)
  ⟨0,[],rfl,cS _,rfl,rfl,?_,LentP.nil .., aY.refl _ _,λa ha=>.inl ?_⟩ ?_ ?_
 .have:=Zc o
  show cC 0 3 h ⟨bF sl.aD sl.cap 0 3,0,cV sl.cap 0⟩ [];rw[eQ];exact this
 .have ha:bF sl.aD sl.cap 0 3=some a:=ha
  rw[eQ]at ha;exact ha
 .rintro⟨(out:Sl),(pt:Sl),(si:Int),u⟩ d ⟨i,l,hi,hle,y,I,o1,K,c1,U⟩
  dsimp only at hi o1 K U⊢;subst hi;refine aG (λC=>?_) λC=>?_
  .rw[aV]at C
   have a4:i<x.2.length:=by omega
   obtain⟨c,r⟩:∃c,x.2[i]?=some c:=⟨x.2[i],cM a4⟩;have a9:=c1.1;have a8:=hx d c1;refine jH (b:=.sl) (z:=c.2.2.1.1) a8 r rfl ?_;have c7:=hp c (eL r);refine aM (Mp (Hj a8 r) (by omega)) λ⟨(g:Sl),_⟩ h2 e2 cd=>?_;obtain⟨j9,b0,_,ao,o9⟩:=cd;have o9:bR d.size .i64 h2 g (c.2.2.1.2++KQ c.2.2.1.2.length j9):=o9;have ao:g.len=c.2.2.1.2.length+j9:=ao;have df:=e2.1;refine λel=>?_;have G:Ext h2 (h2.push (.cells [dG g].toArray el)):=Ext.push ..;have B:cC h2.size 1 (h2.push (.cells [dG g].toArray el)) ⟨some ⟨h2.size,0,none⟩,1,1⟩ [dG g]:=bX rfl (by decide) (by decide);show wp P _ (h2.push (.cells [dG g].toArray el)) _;generalize h2.push (.cells [dG g].toArray el)=h3 at G B⊢;have cr:=G.1;have W:=e2.trans G;have V:=K.ext W;have bd:=V.pl.1;rw[cD,y,Hz]at bd;refine iS V.pl (by omega) B.rd (by intro v H;rw[dE.1 H];rfl) rfl (by dsimp only;omega) (by dsimp only;omega) λaw j o4 l4 u4 b4 _=>?_;have R:aY (iE pt) h3 j:=aY.dP u4 λa ha _=>⟨a,ha,rfl⟩;have dr:=R.1;have a2:aY (iE sl) h j:=(c1.trans (aY.bH (F:=λ_=>False) W) λ_ _ f=>f.elim).trans R λi hi ⟨a,ha,e⟩=>by have:=(K.pl.lt ha).1;omega
   have J:=hx j a2;refine jH (b:=bI) (z:=c.1) J r rfl (jH (b:=bI) (z:=c.2.1) J r rfl (jH (b:=.sl) (z:=c.2.2.1.1) J r rfl ?_));have a3:=J.el r;have b9:aQ c.2.2.1.1.len=(c.2.2.1.2.length:Int):=by rw[aN,(Hj J r).len]
   have c5:=o9.own.2.1;rw[b9];refine aL (iQ (by omega) (by dsimp only;omega)) ?_;dsimp only;have bp:bF g.aD g.cap 0 1=g.aD:=eQ ..;have hN:cV (bP (c.2.2.1.2.length:Int)) 0=c.2.2.1.2.length:=by rw[eR,cN];rfl
   have hM:cV g.cap 0=g.cap:=rfl;rw[bp,hN,hM];obtain⟨ne,E⟩:∃ne:LE,ne=⟨c.1,c.2.1,g,c.2.2.1.2,j9⟩:=⟨_,rfl⟩;have rN:LentP h.size j out aw (l++[ne]):=K.put (λa ha=>(o1.lt ha).2) a9 e2 (by rw[E];exact o9) (by rw[E];exact b0) (by rw[E];exact a3.1) (by rw[E];exact a3.2.1) G (by rw[E];exact o4) R b4;refine λel=>?_;have Y:Ext j (j.push (.cells (Ah (JN ne)).toArray el)):=Ext.push ..;have o5:cC j.size 1 (j.push (.cells (Ah (JN ne)).toArray el)) ⟨some ⟨j.size,0,none⟩,3,3⟩ (Ah (JN ne)):=bX rfl (by decide) (by decide);have bt:[aH c.1,aH c.2.1,dG ⟨g.aD,c.2.2.1.2.length,g.cap⟩]=Ah (JN ne):=by rw[E]
   show wp P _ (j.push (.cells ([aH c.1,aH c.2.1,dG ⟨g.aD,c.2.2.1.2.length,g.cap⟩]).toArray el)) _;rw[bt];generalize j.push (.cells (Ah (JN ne)).toArray el)=h5 at Y o5⊢;have ds:=Y.1;have rd:Rd 3 h5 ⟨some ⟨j.size,0,none⟩,1,1⟩ (Ah (JN ne)):=⟨rfl,λi v hi=>⟨_,rfl,aI.1 o5.cells i v hi⟩⟩;have bb:∀a,pt.aD=some a->¬iE out a.block:=K.np;have a6:cC 0 3 h5 out ((l.map JN).flatMap Ah):=(R.own (o1.ext W) λa ha ⟨b,hb,e⟩=>bb b hb ⟨a,ha,e.symm⟩).ext Y;have al:=a6.1;rw[Ch,cD,y]at al;refine iS a6 (cS _) rd (by intro v H;simp at H;rcases H with rfl|rfl|rfl<;>rfl) rfl (by dsimp only;omega) (by dsimp only;omega) λT h6 o6 l6 u6 b6 _=>?_;have c6:aY (iE out) h5 h6:=aY.dP u6 λa ha _=>⟨a,ha,rfl⟩;have r6:LentP h.size h6 T aw (l++[ne]):=by
    have r5:=(rN.ext Y);have de:=r5.wrote c6;exact(r5.out b6).aP c6 λi _ _ hf=>⟨λ⟨a,ha,e⟩=>r5.np a ha (by rw[e];exact hf),λe he ⟨a,ha,e'⟩=>(r5.no e he a ha).1 (by rw[e'];exact hf)⟩
   rw[bG (by omega) (by omega)];refine aC ⟨λ_=>⟨(T,aw,(i:Int)+1,()),rfl,⟨i+1,l++[ne],by push_cast;rfl,by omega,by simp[y],?_,?_,r6,?_,λa ha=>?_⟩,by dsimp only;omega⟩,λA=>absurd rfl A⟩
   .rw[eG,r,dL,dL,I,E];rfl
   .show cC 0 3 h6 T (((l++[ne]).map JN).flatMap Ah)
    rw[dL,hQ];simpa using o6
   .exact(a2.trans (aY.bH (F:=λ_=>False) Y) λ_ _ f=>f.elim).trans c6 λi hi ⟨a,ha,e⟩=>by
     rcases U a ha with d|d
     .exact⟨a,d,e⟩
     .omega
   .rcases b6 a ha with d|d
    .exact U a d
    .exact .inr (by omega)
  .rw[aZ]at C
   have:i=x.2.length:=by omega
   subst this;rw[fA]at I;exact aC ⟨λA=>absurd A (by decide),λ_=>⟨rfl,out,pt,l,rfl,y,I,o1,K,c1,U⟩⟩
 rintro t vs d ⟨rfl,out,pt,l,rfl,y,I,o1,K,c1,U⟩;refine bK ?_;refine⟨(out,pt,()),rfl,?_⟩;dsimp only;refine bO (λ(s:Sl×Int×Unit) h'=>∃(i:Nat) (L:List Tr),s.2.1=i/\i<=9/\L.length=i/\cC 0 3 h' s.1 ((l.map JN++L).flatMap Ah)/\LentP h.size h' s.1 pt l/\aY (iE sl) h h'/\∀a,s.1.aD=some a->sl.aD=some a\/h.size<=a.block) (λs _=>((9:Int)-s.2.1).toNat)
  (λt vs h'=>t=4/\∃out L,vs=[dG out]/\L.length=9/\cC 0 3 h' out ((l.map JN++L).flatMap Ah)/\LentP h.size h' out pt l/\aY (iE sl) h h'/\∀a,out.aD=some a->sl.aD=some a\/h.size<=a.block)
  ⟨0,[],rfl,cS _,rfl,by rw[jX];exact o1,K,c1,U⟩ ?_ ?_
 .rintro⟨(q:Sl),(si:Int),u⟩ h2 ⟨i,L,hi,hle,Z,o2,r2,c2,O⟩
  dsimp only at hi o2 r2 O⊢;subst hi;refine aG (λC=>?_) λC=>?_
  .rw[aV]at C
   refine λel=>?_;have G:Ext h2 (h2.push (.cells (Ah (0,0,⟨none,0,0⟩)).toArray el)):=Ext.push ..;have B:cC h2.size 1 (h2.push (.cells (Ah (0,0,⟨none,0,0⟩)).toArray el)) ⟨some ⟨h2.size,0,none⟩,3,3⟩ (Ah (0,0,⟨none,0,0⟩)):=bX rfl (by decide) (by decide);show wp P _ (h2.push (.cells (Ah (0,0,⟨none,0,0⟩)).toArray el)) _;generalize h2.push (.cells (Ah (0,0,⟨none,0,0⟩)).toArray el)=h3 at G B⊢;have rd:Rd 3 h3 ⟨some ⟨h2.size,0,none⟩,1,1⟩ (Ah (0,0,⟨none,0,0⟩)):=⟨rfl,λi v hi=>⟨_,rfl,aI.1 B.cells i v hi⟩⟩;have a7:=o2.ext G;have al:=a7.1;rw[Ch,bM,cD,y,Z]at al;have a9:=c2.1;have cr:=G.1;refine iS a7 (cS _) rd (by intro v H;simp at H;rcases H with rfl|rfl|rfl<;>rfl) rfl (by dsimp only;omega) (by dsimp only;omega) λq' j o4 l4 u4 b4 _=>?_;have R:aY (iE q) h3 j:=aY.dP u4 λa ha _=>⟨a,ha,rfl⟩;have V:=r2.ext G;rw[bG (by omega) (by omega)];refine aC ⟨λ_=>⟨(q',(i:Int)+1,()),rfl,⟨i+1,L++[(0,0,⟨none,0,0⟩)],by push_cast;rfl,by omega,by simp[Z],?_,?_,?_,λa ha=>?_⟩,by dsimp only;omega⟩,λA=>absurd rfl A⟩
   .show cC 0 3 j q' ((l.map JN++(L++[((0,0,⟨none,0,0⟩):Tr)])).flatMap Ah)
    rw[<-eC,hQ];simpa using o4
   .exact(V.out b4).aP R λi _ _ hf=>⟨λ⟨a,ha,e⟩=>V.np a ha (by rw[e];exact hf),λe he ⟨a,ha,e'⟩=>(V.no e he a ha).1 (by rw[e'];exact hf)⟩
   .exact(c2.trans (aY.bH (F:=λ_=>False) G) λ_ _ f=>f.elim).trans R λi hi ⟨a,ha,e⟩=>by
     rcases O a ha with d|d
     .exact⟨a,d,e⟩
     .omega
   .rcases b4 a ha with d|d
    .exact O a d
    .exact .inr (by omega)
  .rw[aZ]at C
   have:i=9:=by omega
   subst this;exact aC ⟨λA=>absurd A (by decide),λ_=>⟨rfl,q,L,rfl,Z,o2,r2,c2,O⟩⟩
 rintro t vs h2 ⟨rfl,q,L,rfl,Z,o2,r2,c2,O⟩;refine bK (lZ ?_);have ct:=o2.2.1;have cx:=o2.2.2.1;have cc:=o2.1;rw[Ch,bM,cD,y,Z]at cc;refine aL (iQ (by rw[aN];omega) (by rw[aN];exact nJ _)) ?_;dsimp only;have bs:bF q.aD q.cap 0 3=q.aD:=eQ ..;have hN:aQ (cV (bP (aQ q.cap)) 0)=(q.cap:Int):=rfl;rw[bs,hN];obtain⟨ws,ow⟩:=Nr o2;obtain⟨rest,a1⟩:∃rest:bE,rest=L.flatMap Ah++ws:=⟨_,rfl⟩;have a5:cC 0 3 h2 ⟨q.aD,q.cap,q.cap⟩ ((l.map JN).flatMap Ah++rest):=by
  rw[a1,<-eC,<-hQ];exact ow
 have c8:l.length*3+rest.length=q.cap*3:=by
  have:=a5.1;rw[bM,Ch,cD]at this;dsimp only at this;omega
 obtain⟨n,hn⟩:∃n,q.cap=l.length+n:=⟨q.cap-l.length,by omega⟩;have c9:rest.length=n*3:=by omega
 have bo:(x.2.length:Int)=((l.length:Nat):Int):=by rw[y]
 rw[bo];have cg:LentP h.size h2 ⟨q.aD,q.cap,q.cap⟩ pt l:=r2.out λa ha=>.inl ha;refine bO (λ(x:Int×Unit) h'=>∃i:Nat,x.1=((l.length+i:Nat):Int)/\i<=n/\aY (iE q) h2 h'/\cC 0 3 h' ⟨q.aD,q.cap,q.cap⟩ ((l.map JN).flatMap Ah++(SY l.length i).flatMap Ah++rest.drop (i*3))) (λx _=>((q.cap:Int)-x.1).toNat)
  (λt vs h'=>t=6/\vs=[]/\aY (iE q) h2 h'/\cC 0 3 h' ⟨q.aD,q.cap,q.cap⟩ ((l.map JN).flatMap Ah++(SY l.length n).flatMap Ah)) ⟨0,rfl,cS _,aY.refl _ _,by simpa[SY] using a5⟩ ?_ ?_
 .rintro⟨(si:Int),u⟩ h3 ⟨i,hi,hle,c3,B⟩
  dsimp only at hi⊢;subst hi;refine aG (λC=>?_) λC=>?_
  .rw[aV]at C
   have a4:i<n:=by omega
   have a0:∃a,q.aD=some a:=by
    cases hb:q.aD with
    |none=>
     have:=ow.2.2.2;rw[hb]at this;have:q.cap=0:=this;omega
    |some a=>exact⟨a,rfl⟩
   obtain⟨a,ea⟩:=a0;refine aL (fD.2 ⟨by rw[ea];rfl,lR.2 ⟨by omega,by show((l.length+i:Nat):Int)<((q.cap:Nat):Int);omega⟩⟩) ?_;have b8:cC 0 3 h3 ⟨q.aD,q.cap,q.cap⟩ (((l.map JN).flatMap Ah++(SY l.length i).flatMap Ah)++(rest.drop (i*3)).take 3++rest.drop ((i+1)*3)):=by
    have hd:rest.drop (i*3)=(rest.drop (i*3)).take 3++rest.drop ((i+1)*3):=by
     conv=>lhs;rw[<-eX 3 (rest.drop (i*3))]
     rw[FK,show i*3+3=(i+1)*3 by omega]
    rw[hd]at B;rw[eC];exact B
   have ab:((rest.drop (i*3)).take 3).length=3:=by rw[dJ,cZ];omega
   have ba:bB (bP ((l.length+i:Nat):Int)) 3=((l.map JN).flatMap Ah++(SY l.length i).flatMap Ah).length:=by
    rw[bM,Ch,Ch,cD,QD,gX,eR,cN];omega
   rw[ba];refine rD (s:=⟨q.aD,q.cap,q.cap⟩) (mid:=(rest.drop (i*3)).take 3) [aH (bJ .i64 (-71) ((l.length+i:Nat):Int)),aH (-72), .slice none 0 0] b8 rfl (by rw[ab];rfl) (λA=>by rw[A]at ab;cases ab) (by intro v H;simp at H;rcases H with rfl|rfl|rfl<;>rfl) λj o4 u4 z4=>?_;rw[bG (by omega) (by omega)];refine aC ⟨λ_=>⟨(((l.length+i:Nat):Int)+1,()),rfl,⟨i+1,by push_cast;omega,by omega,c3.trans (aY.dP (F:=iE q) u4 λx hx _=>⟨x,hx,rfl⟩) λ_ _ f=>f,?_⟩,by dsimp only;omega⟩,λA=>absurd rfl A⟩;rw[Y0,hQ];simpa using o4
  .rw[aZ]at C
   have:i=n:=by omega
   subst this;rw[tY (by omega),jX]at B;exact aC ⟨λA=>absurd A (by decide),λ_=>⟨rfl,rfl,c3,B⟩⟩
 .rintro t vs h3 ⟨rfl,rfl,c3,B⟩
  refine bK (bV (aC ⟨rfl,⟨q.aD,q.cap,q.cap⟩,pt,l,n,rfl,by omega,y,⟨cg.wrote c3,by rw[hQ];exact B⟩,I,c2.trans c3 λi hi ⟨a,ha,e⟩=>?_,O⟩));rcases O a ha with d|d
  .exact⟨a,d,e⟩
  .omega
end
section
variable{P:Program}{S:cG}{h:aE}{Q:Nat->bE->aE->Prop}
variable{e:LE}{s:Sl}{l:List LE}{i:Nat}{x:Int}
theorem lj{n:Nat}(o:bR n .i64 h e.p (e.w++KQ e.w.length e.j)):kB .i64 h (Z5 e) e.w:=by
 have:=o.kZ.take (n:=e.w.length) (m:=e.p.cap) (by rw[bM];omega) (by have b:=o.len;have h2:=o.own.2.1;rw[bM]at b;omega) o.own.2.2.1;rw[Aa (bL _),fA]at this;exact this
theorem Zw{n:Nat}{K:Sl->aK}(o:cC n 1 h s (l.map λe=>dG e.p))(j:x=(i:Int))(hi:l[i]?=some e)(d:wp P (K e.p) h Q) :
  wp P (bD (bN (aJ s.aD) (eV x s.len))<|.load (tS) (aB s.aD (bB (bP x) 1)) K) h Q:=by
 subst j;have m:=(eK.1 hi).1;have f:=o.1;rw[cD]at f;obtain⟨a,ea,c⟩:=o.rd.2 i (dG e.p) (by rw[fX,hi];rfl);refine aL (fD.2 ⟨by rw[ea];rfl,lR.2 ⟨by omega,by omega⟩⟩) ?_;have g:aB s.aD (bB (bP (i:Int)) 1)=some (a.add i):=by rw[ea,gX,eR,cN,Hz];rfl
 rw[g];exact aX (b:=.sl) _ e.p rfl c d
theorem ie{n:Nat}{l:List Tr}{j:Nat}{e e':Tr}{c1 c2:bE}{v b:Value}{K:aK}(o:cC n 3 h s (l.flatMap Ah))(r:x=(i:Int))(hi:l[i]?=some e)(h1:Ah e=c1++[v]++c2)(h2:Ah e'=c1++[b]++c2)(d:c1.length=j)(c:flat b=true)
  (f:∀h',cC n 3 h' s ((l.set i e').flatMap Ah)->aY (iE s) h h'->h'.size=h.size->wp P K h' Q) :
  wp P (bD (bN (aJ s.aD) (eV x s.len))<|bD (aJ (aB s.aD (bB (bP x) 3)))<|.store (aB (aB s.aD (bB (bP x) 3)) j) [b] K) h Q:=by
 subst r;have t:=(eK.1 hi).1;have g:=o.1;rw[Ch]at g;obtain⟨a,ea,u⟩:=uH (m:=3) (λ_=>rfl) (by decide) o hi;refine aL (fD.2 ⟨by rw[ea];rfl,lR.2 ⟨by omega,by omega⟩⟩) ?_;refine aL (by rw[ea];rfl) ?_;rw[o_];exact m7 o hi h1 h2 rfl (by simp) (by intro w hw;rw[dE.1 hw];exact c) (by rw[gX,eR,cN,d]) f
theorem jr{n m:Nat}{out pt:Sl}{x:Gr}(r:Cw n h out pt l m)(hm:9<=m)(b8:l.length=x.2.length)(hl:x.2.length<=1048576)(bb:l.map (λe=>((e.f,e.t,(⟨none,0,0⟩,e.w),()):gY))=x.2.map gH)
  (hx:∀h',aY (λi=>iE out i\/∃e∈l,iE e.p i) h h'->(Sh.list jD).ok h' x) :
  wp P (BC S out pt x.1) h λtg vs h'=>tg=0/\vs=[.bool true]/\aY (λi=>iE out i\/∃e∈l,iE e.p i) h h'/\∃T:List Tr,cC 0 3 h' out (T.flatMap Ah):=by
 unfold BC;have ba:=r.len;have b3:=r.lo.2.1;have b4:=r.lo.2.2.1;have a3:aQ x.1.len=(x.2.length:Int):=by rw[aN,(hx h (aY.refl _ _)).len]
 have a2:aQ out.len=((l.length+m:Nat):Int):=by rw[aN,ba]
 have hg:pV (aQ out.len) (aT .i64 (aQ x.1.len) 9)=true:=by rw[dT,a3,a2,bG (by omega) (by omega)];omega
 rw[hg,a3,a2];have hL:∀{j:Nat} {e:LE},l[j]?=some e->(l.map JN++SY l.length m)[j]?=some (JN e):=λ{j e} H=>by
  rw[lV (by rw[cD];exact(eK.1 H).1),fX,H];rfl
 refine bO (λ(s:Bool×Int×Unit) h'=>Ext h h'/\s.1=true/\∃i:Nat,s.2.1=((l.length+i:Nat):Int)/\i<=m) (λs _=>(((l.length+m:Nat):Int)-s.2.1).toNat)
  (λt vs h'=>Ext h h'/\t=2/\vs=[.bool true]) ⟨Ext.refl _,rfl,0,by show(x.2.length:Int)=_;omega,cS _⟩ ?_ ?_
 .rintro⟨(sb:Bool),(si:Int),u⟩ Y ⟨O,hb,i,hi,hle⟩
  dsimp only at hi hb⊢;subst hi;subst hb;refine aG (λd=>?_) λd=>aC ⟨λA=>absurd A (by decide),λ_=>⟨O,rfl,rfl⟩⟩;rw[aV]at d;have ao:i<m:=by omega
  have o1:=r.lo.ext O;have R:(l.map JN++SY l.length m)[l.length+i]?=some (bJ .i64 (-71) ((l.length+i:Nat):Int), -72,⟨none,0,0⟩):=by
   rw[jK (by rw[cD];omega),cD,show l.length+i-l.length=i by omega,du ao]
  refine iO (tys:=[tB]) (λ(y:Bool×Unit) _=>y.1=true) ?_ λ⟨(y:Bool),_⟩ h2 e2 o=>?_
  .refine aG (λ_=>?_) λd=>by cases d
   refine Pk (b:=bI) (v:=bJ .i64 (-71) ((l.length+i:Nat):Int)) o1 rfl R rfl ?_;refine aG (λ_=>?_) λd=>by rw[dM]at d;exact absurd rfl d
   refine Pk (b:=bI) (v:=-72) o1 rfl R rfl ?_;refine aG (λ_=>?_) λd=>by rw[dM]at d;exact absurd rfl d
   refine Pk (b:=.sl) (v:=⟨none,0,0⟩) o1 rfl R rfl ?_;exact aC ⟨rfl,Ext.refl _,(true,()),rfl,rfl⟩
  .have o:y=true:=o
   subst o;rw[bG (by omega) (by omega)];exact aC ⟨λ_=>⟨(true,((l.length+i:Nat):Int)+1,()),rfl,⟨O.trans e2,rfl,i+1,by push_cast;omega,by omega⟩,by dsimp only;omega⟩,λA=>absurd rfl A⟩
 rintro t vs Y ⟨O,rfl,rfl⟩;refine bK (jQ ?_);have r1:Cw n Y out pt l m:=⟨r.toLentP.ext O,r.lo.ext O⟩;refine bO (λ(s:Bool×Int×Unit) h'=>s.1=true/\∃(i:Nat) (T:List Tr),s.2.1=i/\i<=l.length/\aY (λi=>iE out i\/∃e∈l,iE e.p i) h h'/\T.length=l.length+m/\(∀j,i<=j->T[j]?=(l.map JN++SY l.length m)[j]?)/\cC 0 3 h' out (T.flatMap Ah)/\cC n 1 h' pt (l.map λe=>dG e.p)/\∀j e,i<=j->l[j]?=some e->bR n .i64 h' e.p (e.w++KQ e.w.length e.j)) (λs _=>((l.length:Int)-s.2.1).toNat)
  (λt vs h'=>t=4/\vs=[.bool true]/\aY (λi=>iE out i\/∃e∈l,iE e.p i) h h'/\∃T:List Tr,cC 0 3 h' out (T.flatMap Ah))
  ⟨rfl,0,_,rfl,cS _,aY.bH O,by rw[bM,cD,QD],λ_ _=>rfl,r1.lo,r1.pl,λj e _ H=>(r1.pu e (eL H)).1⟩ ?_ ?_
 .rintro⟨(sb:Bool),(si:Int),u⟩ h2 ⟨hb,i,T,hi,hle,c2,hT,a1,U,oP,oE⟩
  dsimp only at hi hb⊢;subst hi;subst hb;refine aG (λd=>?_) λd=>aC ⟨λA=>absurd A (by decide),λ_=>⟨rfl,rfl,c2,T,U⟩⟩;rw[aV]at d;have ao:i<l.length:=by omega
  obtain⟨e,he⟩:∃e,l[i]?=some e:=⟨l[i],cM ao⟩;obtain⟨c,B⟩:∃c,x.2[i]?=some c:=⟨x.2[i]'(by omega),cM (by omega)⟩;have C:=eL he;have al:e.f=c.1/\e.t=c.2.1/\e.w=c.2.2.1.2:=by
   have:=congrArg (·[i]?) bb;simp only[fX,he,B,Jj,gH,fW,oL]at this;exact⟨this.1,this.2.1,this.2.2.1.2⟩
  have J:=hx h2 c2;have W:T[i]?=some (JN e):=by rw[a1 i (bL _)];exact hL he
  have oe:=oE i e (bL _) he;refine iO (tys:=[tB]) (λ(y:Bool×Unit) _=>y.1=true) ?_ λ⟨(y:Bool),_⟩ h3 G o=>?_
  .refine aG (λ_=>?_) λd=>by cases d
   refine Pk (b:=bI) (v:=e.f) U rfl W rfl (jH (b:=bI) (z:=c.1) J B rfl ?_);refine aG (λ_=>?_) λd=>by rw[dM]at d;exact absurd al.1 d
   refine Pk (b:=bI) (v:=e.t) U rfl W rfl (jH (b:=bI) (z:=c.2.1) J B rfl ?_);refine aG (λ_=>?_) λd=>by rw[dM]at d;exact absurd al.2.1 d
   refine Pk (b:=.sl) (v:=Z5 e) U rfl W rfl (jH (b:=.sl) (z:=c.2.2.1.1) J B rfl ?_);have lc:=Hj J B;rw[<-al.2.2]at lc;refine aM (EE (lj oe) lc) λ⟨(b1:Bool),_⟩ h3 G ab=>?_;have ab:b1=true:=by have Y:b1=decide _:=ab;rw[Y];exact decide_eq_true rfl
   subst ab;refine aG (λ_=>?_) λd=>by cases d
   have b0:=J.ext G;refine Zw (oP.ext G) rfl he (jH (b:=.sl) (z:=c.2.2.1.1) b0 B rfl ?_);refine aM (Mn (oe.kZ.ext G) (lc.ext G) (r.pu e C).2.1) λ⟨(b2:Bool),_⟩ h4 e4 a8=>?_;exact aC ⟨rfl,G.trans e4,(b2,()),rfl,a8⟩
  have o:y=true:=o;subst o;have a0:aY (λ_=>False) h2 h3:=aY.bH G;have bs:=U.ext G;have a6:=oP.ext G;have I:=a0.pW oe λ_ _ f=>f;have a4:=I.len;have b9:=I.own.2.1;have cc:=I.own.2.2.1;dsimp only;obtain⟨V,bd⟩:∃V,V=e.w++KQ e.w.length e.j:=⟨_,rfl⟩;rw[<-bd]at I a4;have a9:aQ e.p.len=(V.length:Int):=by rw[aN,a4]
  refine bO (λ(s:Int×Unit) h'=>∃(j:Nat) (w:aW),s.1=j/\j<=V.length/\w.length=V.length/\aY (iE e.p) h3 h'/\bR n .i64 h' e.p w) (λs _=>((V.length:Int)-s.1).toNat)
   (λt vs h'=>t=6/\vs=[]/\aY (iE e.p) h3 h') ⟨0,V,rfl,cS _,rfl,aY.refl _ _,I⟩ ?_ ?_
  .rintro⟨(sj:Int),u⟩ h4 ⟨j,w,H,b6,bo,K,o4⟩
   dsimp only at H⊢;subst H;have aw:=K.own a6 λa ha g=>by
    obtain⟨b,hb,E⟩:=g;exact(r.no e C b hb).2 ⟨a,ha,E.symm⟩
   refine Zw aw rfl he ?_;rw[a9];refine aG (λd=>?_) λd=>aC ⟨λA=>absurd A (by decide),λ_=>⟨rfl,rfl,K⟩⟩;rw[aV]at d;refine Zw aw rfl he (aL rfl ?_);refine Ti o4 (by omega) (range_i64 _) λh5 o5 c5 z5=>?_;rw[bG (by omega) (by omega)];exact aC ⟨λ_=>⟨((j:Int)+1,()),rfl,⟨j+1,_,by push_cast;rfl,by omega,by rw[FL];exact bo,K.trans c5 λ_ _ h=>h,o5⟩,by dsimp only;omega⟩,λA=>absurd rfl A⟩
  .rintro t vs h4 ⟨rfl,rfl,K⟩
   refine bK (bV ?_);have a5:∀y∈l,∀a,y.p.aD=some a->¬iE out a.block:=λy o a ha=>(r.no y o a ha).1;have bt:cC 0 3 h4 out (T.flatMap Ah):=K.own bs λa ha g=>by
    obtain⟨b,hb,E⟩:=g;exact a5 e C b hb ⟨a,ha,E.symm⟩
   have aw:=K.own a6 λa ha g=>by
    obtain⟨b,hb,E⟩:=g;exact(r.no e C b hb).2 ⟨a,ha,E.symm⟩
   refine ie (e:=JN e) (e':=(-5,e.t,Z5 e)) (c1:=[]) (v:=aH e.f) (c2:=[aH e.t,dG (Z5 e)]) bt rfl W rfl rfl rfl rfl λh5 o5 c5 z5=>?_;have a7:i<T.length:=by omega
   refine ie (e:=(-5,e.t,Z5 e)) (e':=(-5,99999,Z5 e)) (c1:=[aH (-5)]) (v:=aH e.t) (c2:=[dG (Z5 e)]) o5 rfl (by rw[List.getElem?_set_self a7]) rfl rfl rfl rfl λh6 o6 c6 z6=>?_;rw[bG (by omega) (by omega)];have Z:aY (λi=>iE out i\/iE e.p i) h2 h6:=(((a0.mono λ_ _ f=>f.elim).trans K λ_ _ h=>.inr h).trans c5 λ_ _ h=>.inl h).trans c6 λ_ _ h=>.inl h;refine aC ⟨λ_=>⟨(true,(i:Int)+1,()),rfl,⟨rfl,i+1,_,by push_cast;rfl,by omega,c2.trans Z λk _ g=>g.imp id λh=>⟨e,C,h⟩,by rw[FL,FL];exact hT,λj H=>?_,o6,?_,λj y H o=>?_⟩,by dsimp only;omega⟩,λA=>absurd rfl A⟩
   .rw[Rm (by omega),Rm (by omega)]
    exact a1 j (by omega)
   .refine Z.own oP λa ha g=>?_
    rcases g with g|⟨b,hb,E⟩
    .exact r.np a ha g
    .exact(r.no e C b hb).2 ⟨a,ha,E.symm⟩
   .have bp:=eL o
    refine Z.pW (oE j y (by omega) o) λa ha g=>?_;rcases g with g|⟨b,hb,E⟩
    .exact a5 y bp a ha g
    .obtain⟨Y,h2⟩:=eK.1 he
     obtain⟨h3,h4⟩:=eK.1 o;have:=List.pairwise_iff_getElem.1 r.ne i j Y h3 (by omega);rw[h2,h4]at this;exact this b a hb ha E
 .rintro t vs h2 ⟨rfl,rfl,c2,T,U⟩
  exact bK (jQ (aC ⟨rfl,rfl,c2,T,U⟩))
end
section
variable{P:Program}{S:cG}{h:aE}{Q:Nat->bE->aE->Prop}{n k:Nat}{rho:Nat->Nat}{X:Bk}{D:Doc}{p:Addr}{sl sw:Sl}{vs:bE}{ls:aW}{M M':Mo}{N N':Nat}
variable{l:List LE}{i:Nat}{h':aE}{F:Nat->Prop}{x:Gr}
noncomputable def Uu(h:aE)(rho:Nat->Nat)(k:Nat)(out pt:Sl)(l:List LE):Nat->Nat:=open Classical in λi=>if i<h.size then rho i else if iE out i then k+24 else if iE pt i\/∃e∈l,iE e.p i then k+26 else 0
theorem YS{out pt:Sl}(hi:i<h.size):Uu h rho k out pt l i=rho i:=if_pos hi
theorem lu{out pt:Sl}(hi:h.size<=i)(b:iE out i):Uu h rho k out pt l i=k+24:=by unfold Uu;rw[if_neg (by omega),if_pos b]
theorem YT{out pt:Sl}(hi:h.size<=i)(b:¬iE out i)(c:iE pt i\/∃e∈l,iE e.p i):Uu h rho k out pt l i=k+26:=by unfold Uu;rw[if_neg (by omega),if_neg b,if_pos c]
theorem lq{out pt:Sl}(hi:h.size<=i):Uu h rho k out pt l i=0\/(k<Uu h rho k out pt l i/\Uu h rho k out pt l i<=k+30):=by
 unfold Uu;rw[if_neg (by omega)];split
 .exact .inr (by omega)
 .split
  .exact .inr (by omega)
  .exact .inl rfl
theorem fZ.v7{c:Sl}{l:bE}{K:aK}{rho':Nat->Nat}(q:fZ S n k rho h p X D sl sw vs ls)(c0:aY F h h')(m:∀i,i<h.size->F i->rho i=k+24)(h0:∀i,i<h.size->rho' i=rho i)(oc:sU (k+24) 3 rho' h' c l)
  (B:∀g,fZ S n k rho' g p X D c sw l ls->aY (λi=>i=p.block) h' g->g.size=h'.size->wp P K g Q) :
  wp P (bD (aJ (some p))<|bD (aJ (some p))<|.store (aB (some p) 3) [dG c] K) h' Q:=by
 have z:rho p.block=k+23:=q.ob.2 p rfl;have y:p.block<h.size:=(q.ob.1.lt rfl).2;have u:rho' p.block=k+23:=by rw[h0 _ y];exact z
 have o:=q.ob.aP (rho':=rho') c0 (λi hi d=>by have:=m i hi d;omega) λi hi t=>by rw[h0 i hi];exact t
 have A:=q.lw.aP (rho':=rho') c0 (λi hi d=>by have:=m i hi d;omega) λi hi t=>by rw[h0 i hi];exact t
 have w:=q.bk.other (rho':=rho') c0 (λi hi d=>by have:=m i hi d;omega) λi hi _=>h0 i hi;have r:=q.doc.aP (rho':=rho') c0 (λi hi d=>by have:=m i hi d;omega) λi hi _=>h0 i hi;have C:cC 0 1 h' ⟨some p,5,5⟩ ([.pointer (some X.b), .pointer (some X.T.p), .pointer (some D.b)]++[dG sl]++[dG sw]):=o.1;refine aL rfl (aL rfl (rD (mid:=[dG sl]) [dG c] C rfl rfl (by simp) (by intro v E;rw[dE.1 E];rfl) λg G H I=>?_));have j:aY (λi=>i=p.block) h' g:=aY.dP H λa ha _=>by cases ha;rfl
 have f:∀i,i<h'.size->i=p.block->rho' i=k+23:=λi _ e=>by rw[e];exact u
 exact B g ⟨w.other j (λi hi d=>by have:=f i hi d;omega) λ_ _ _=>rfl,r.aP j (λi hi d=>by have:=f i hi d;omega) λ_ _ _=>rfl,⟨G,o.2⟩,oc.aP j (λi hi d=>by have:=f i hi d;omega) λ_ _ h=>h,A.aP j (λi hi d=>by have:=f i hi d;omega) λ_ _ h=>h⟩ j I
theorem fZ.rq{f:bE}(q:fZ S n k rho h p X D sl sw vs ls)(c:aY F h h')(d:∀i,i<h.size->F i->rho i=k+24\/rho i=k+26)(o:cC 0 3 h' sl f):fZ S n k rho h' p X D sl sw f ls where
 bk:=q.bk.other c (λi hi b=>by have:=d i hi b;omega) λ_ _ _=>rfl
 doc:=q.doc.aP c (λi hi b=>by have:=d i hi b;omega) λ_ _ _=>rfl
 ob:=q.ob.aP c (λi hi b=>by have:=d i hi b;omega) λ_ _ h=>h
 le:=⟨o,q.le.2⟩
 lw:=q.lw.aP c (λi hi b=>by have:=d i hi b;omega) λ_ _ h=>h
def py(enc limit:Int)(M:Mo)(es:List gY)(e:Int)(M':Mo):Prop:=(M.now=none/\e=71/\M'=M)\/∃q,M.now=some q/\Ez enc limit M.E es e/\M'=if e=0 then M.oQ q es else M
theorem py.fn{enc limit:Int}{es:List gY}{e e':Int}{o M2:Mo}(a:py enc limit M es e o)(b:py enc limit M es e' M2):e=e'/\o=M2:=by
 rcases a with⟨g,j,m⟩|⟨q,g,j,m⟩
 .rcases b with⟨c,d,f⟩|⟨r,c,d,f⟩
  .exact⟨by rw[j,d],by rw[m,f]⟩
  .rw[g]at c;cases c
 .rcases b with⟨c,d,f⟩|⟨r,c,d,f⟩
  .rw[g]at c;cases c
  .rw[g]at c
   cases c;have:=Ez.fn j d;subst this;exact⟨rfl,by rw[m,f]⟩
theorem kL.mono{h':aE}(b:kL S n k X h rho h' M N)(d:N<=N'):kL S n k X h rho h' M N':=by
 obtain⟨rho',c,st,r,i,sm⟩:=b;exact⟨rho',c,st,r,i.mono d,sm⟩
theorem Xo(o:jM P S){enc limit:Int}{es:List gY}(r:cL S n h rho k X)(i:Inv X M N)(he:enc=X.T.enc)(w:limit=X.T.limit)(c:x.2.map gH=es.map gH)(m:∀h',aY (λi=>k<rho i/\rho i<=k+10) h h'->(Sh.list jD).ok h' x)
  (y:∀e,e∈x.2->e.2.2.1.2≠[]->∀a,e.2.2.1.1.aD=some a->rho a.block<=k\/k+10<rho a.block) (u:N+1+(aU es).length<=68719476736) :
  wp P (jN S (some X.b) x.1) h λtg vs h'=>tg=0/\∃e M',vs=[aH e]/\py enc limit M es e M'/\kL S n k X h rho h' M' (N+1+(aU es).length):=by
 have d:aU x.2=aU es:=by rw[<-F9 x.2,c,F9]
 cases hm:M.now with
 |none=>
  refine cU _ (λtg vs h' ⟨f,h2,h3⟩=>?_) (QZ (x:=x.1) r i hm);exact⟨f,71,M,h2, .inl ⟨hm,rfl,rfl⟩,h3.mono (by omega)⟩
 |some q=>
  refine cU _ (λtg vs h' ⟨f,e,h2,h3,z,g⟩=>?_) (ZP o (x:=x) r i hm m y (by rw[d];exact u));have j:=Zl r.t.enc r.t.cur.bytes h3;rw[i.lk.E,<-he,<-w,<-NH,c,NH]at j;refine⟨f,e,_,h2, .inr ⟨q,hm,j,rfl⟩,?_⟩;rw[d,Ww c]at g;exact g
theorem Wy(r:eS k rho h D)(m:DocM D M)(o:gQ D.enc D.limit M N)(u:N<=68719476736)(w:∀h',aY (λi=>k<rho i/\rho i<=k+10) h h'->(Sh.list jD).ok h' x)(j:x.2.length<=1073741824)(f:(aU x.2).length<=1000000000) :
  wp P (iL S (some D.b) x.1) h λtg vs h'=>tg=0/\∃e M',vs=[aH e]/\py D.enc D.limit M x.2 e M'/\jL k h rho h' D M':=by
 cases hm:M.now with
 |none=>
  refine cU _ (λtg vs h' ⟨c,h2,h3⟩=>?_) (PO (x:=x.1) r m hm);exact⟨c,71,M,h2, .inl ⟨hm,rfl,rfl⟩,h3⟩
 |some q=>
  have g:=im o.sz;have d:M.ch=q.kQ:=by unfold Mo.ch;rw[hm];rfl
  rw[d]at g;refine cU _ (λtg vs h' ⟨c,e,h2,h3,t⟩=>?_) (Yi r m o u hm w j f (by omega));exact⟨c,e,_,h2, .inr ⟨q,hm,h3,rfl⟩,t⟩
theorem TV(Me:jM P S){o2 o3 o4:Int}{x5:Gr}{o6:Sl}(q:fZ S n k rho h p X D sl sw vs ls)(b:Gj X D M N)(hN:N<=1048576)(ba:x5.2.length<=1048576)(er:(aU x5.2).length<=1048576)(hs:∀h',aY (λi=>k<rho i/\rho i<=k+30) h h'->(Sh.list jD).ok h' x5) :
  wp P (iK S (some p) (2,o2,o3,o4,x5.1,o6,())) h λtg vs h'=>tg=0/\vs=[.bool true]/\∃M',gM S n k h rho h' p X D M' (N+1+(aU x5.2).length):=by
 unfold iK;refine λel=>?_;obtain⟨os,ab⟩:∃os,os=[aH 2,aH o2,aH o3,aH o4,dG x5.1,dG o6]:=⟨_,rfl⟩;have b8:os[0]?=some (aH 2):=by rw[ab];rfl
 have Y:os[4]?=some (dG x5.1):=by rw[ab];rfl
 have c5:os.length=6:=by rw[ab];rfl
 show wp P _ (h.push (.cells [aH 2,aH o2,aH o3,aH o4,dG x5.1,dG o6].toArray el)) _;rw[<-ab];have e1:Ext h (h.push (.cells os.toArray el)):=Ext.push ..;have oo:cC h.size 1 (h.push (.cells os.toArray el)) ⟨some ⟨h.size,0,none⟩,6,6⟩ os:=bX (by rw[c5]) (by decide) (by decide);generalize h.push (.cells os.toArray el)=d at e1 oo⊢;have W:=q.ext e1;have a7:qE k h rho d (Hist.zr h rho):=(cQ.mV (k:=k) e1).UQ ⟨bL _,by omega⟩;have z1:=(KW h rho).mono e1.1;have oA:sU 0 1 (Hist.zr h rho) d ⟨some ⟨h.size,0,none⟩,6,6⟩ os:=⟨cC.mono oo (cS _),λa ha=>by cases ha;exact qA (bL _)⟩;generalize Hist.zr h rho=j at W a7 oA z1;generalize ei:(⟨h.size,0,none⟩:Addr)=A at oA⊢;have a3:∀{g g':aE} {r:Nat->Nat} {F:Nat->Prop},qE k h rho g r->aY F g g'->(∀i,i<g.size->F i->k<r i/\r i<=k+30)->(Sh.list jD).ok g' x5:=λ{g g' r F} st c hF=>hs _ (st.c.trans c λi hi f=>by
  have d:=hF i (by have:=st.c.1;omega) f;by_cases ho:rho i<=k\/k+30<rho i
  .rw[st.old i hi ho]at d;omega
  .omega)
 have c6:∀{g:aE} {r:Nat->Nat},qE k h rho g r->(Sh.list jD).ok g x5:=λst=>hs _ st.c;refine eN (λt w h'=>t=1/\w=[.bool true]/\∃M',gM S n k h rho h' p X D M' (N+1+(aU x5.2).length)) ?_ ?_
 .refine bY (b:=bI) 2 rfl oA.1.cells b8 ?_
  refine aG (λhc=>by cases hc) λ_=>aG (λ_=>?_) λhc=>by cases hc
  refine W.rd (b:=.sl) sl rfl (bY (b:=.sl) x5.1 rfl oA.1.cells Y ?_);have Z:∀i,i<d.size->iE sl i->j i=k+24:=λi _ ⟨a,ha,e⟩=>by rw[<-e];exact W.le.2 a ha
  have b1:∀e∈x5.2,e.2.2.1.2.length<=1048576:=λe he=>by
   have:e.2.2.1.2.length<=(aU x5.2).length:=by
    unfold aU;rw[L4];exact xP (λe:gY=>e.2.2.1.2.length) he
   omega
  refine eU (jt W.le.1 (λg c=>a3 a7 c λi hi f=>by rw[Z i hi f];omega) ba b1) λtg w h2 V=>?_;obtain⟨rfl,out,pt,l,m,rfl,cx,bb,I,bd,c2,b2⟩:=V;refine⟨rfl,(out,pt,()),rfl,?_⟩;have e2:=c2.1;have C:∀i,iE out i->Uu d j k out pt l i=k+24:=λi hi=>by
   by_cases K:i<d.size
   .rw[YS K]
    obtain⟨a,ha,rfl⟩:=hi;rcases b2 a ha with h3|h3
    .exact W.le.2 a h3
    .omega
   .exact lu (by omega) hi
  have a1:∀i,iE pt i->d.size<=i/\i<h2.size/\Uu d j k out pt l i=k+26:=λi hi=>by
   obtain⟨a,ha,rfl⟩:=hi;have:=I.pl.lt ha;exact⟨this.1,this.2,YT this.1 (I.np a ha) (.inl ⟨a,ha,rfl⟩)⟩
  have O:∀i,(∃e∈l,iE e.p i)->d.size<=i/\i<h2.size/\Uu d j k out pt l i=k+26:=λi ⟨e,he,hi⟩=>by
   obtain⟨a,ha,rfl⟩:=hi;have:=(I.pu e he).1.own.lt ha;exact⟨this.1,this.2,YT this.1 (I.no e he a ha).1 (.inr ⟨e,he,a,ha,rfl⟩)⟩
  have G:∀i,i<d.size->Uu d j k out pt l i=j i:=λi hi=>YS hi;have bt:qE k d j h2 (Uu d j k out pt l):=⟨c2.mono λi hi f=>by rw[Z i hi f];omega,λi hi _=>G i hi,λi hi u=>by
   by_cases K:i<d.size
   .rw[G i K]
    rcases u with u|u
    .omega
    .exact .inr u
   .exact lq (by omega)⟩
  generalize Uu d j k out pt l=o at C a1 O G bt;have oc:sU (k+24) 3 o h2 out ((l.map JN++SY l.length m).flatMap Ah):=⟨I.lo,λa ha=>C _ ⟨a,ha,rfl⟩⟩;have df:=oA.aP (rho':=o) c2 (λi hi f=>by rw[Z i hi f];omega) λi hi hr=>by rw[G i hi];exact hr
  refine W.v7 c2 Z G oc λh3 q3 c3 z3=>?_;have a2:o p.block=k+23:=q3.ob.2 p rfl;have ey:p.block<d.size:=(W.ob.1.lt rfl).2;have dx:qE k h2 o h3 o:=⟨c3.mono λi hi f=>by rw[f,a2];omega,λ_ _ _=>rfl,λi hi u=>by
   rcases u with u|u
   .omega
   .exact .inr u⟩
  have a4:=(a7.trans bt).trans dx;have bp:=df.aP (rho':=o) c3 (λi hi f=>by rw[f,a2];omega) λ_ _ h=>h;have R:Cw d.size h3 out pt l m:=I.aP c3 λi hi f=>⟨λB=>by have:=C i B;rw[f,a2]at this;omega,λhn=>by omega⟩;have eh:=R.len;have ec:=R.lo.2.1;have eg:=R.lo.2.2.1;have c8:=(c6 a4).len;refine q3.rd (b:=.ptr) (some X.b) rfl (bY (b:=.sl) x5.1 rfl bp.1.cells Y ?_);have c4:aQ x5.1.len=(x5.2.length:Int):=by rw[aN,c8]
  rw[c4];refine aL (iQ (by omega) (by dsimp only;omega)) ?_;dsimp only;have cf:bF out.aD out.cap 0 3=out.aD:=eQ ..;have cd:cV (bP (x5.2.length:Int)) 0=l.length:=by rw[eR,cN,bb];rfl
  have b9:cV out.cap 0=out.cap:=rfl;rw[cf,cd,b9];have bo:∀{g:aE},aY (λi=>k<o i/\o i<=k+10) h3 g->Cw d.size g out pt l m:=λc=>R.aP c λi hi f=>⟨λB=>by have:=C i B;omega,λ_=>⟨λB=>by have:=(a1 i B).2.2;omega,λe he B=>by have:=(O i ⟨e,he,B⟩).2.2;omega⟩⟩;refine eU (Xo Me (enc:=D.enc) (limit:=D.limit) (x:=(⟨out.aD,l.length,out.cap⟩,l.map vj)) (es:=x5.2) q3.bk b.inv b.enc b.Bp (WV bd) (λg c=>(bo c).ok) (λe he _ a ha=>?_) (by omega)) λtg w h5 V=>?_
  .obtain⟨y,hy,rfl⟩:=dC.1 he
   have:=(O a.block ⟨y,hy,a,ha,rfl⟩).2.2;omega
  obtain⟨rfl,e,M5,rfl,b4,J,X5,z,b5,i5,ao⟩:=V;refine⟨rfl,(e,()),rfl,?_⟩;have q5:=q3.book z b5 ao;have a5:=a4.trans (z.UQ (k:=k) ⟨bL _,by omega⟩);have bs:=bp.aP (rho':=J) z.c (λi hi f=>by omega) λi hi hr=>by rw[z.old i hi (by omega)];exact hr
  have c9:=bo z.c;have e3:=c3.1;have e4:=z.c.1;have a9:∀i,iE out i->i<h3.size:=λi ⟨a,ha,e⟩=>by rw[<-e];exact(R.lo.lt ha).2
  have al:∀i,iE out i->J i=k+24:=λi hi=>by rw[z.old i (a9 i hi) (by rw[C i hi];omega)];exact C i hi
  have b0:∀i,iE pt i->J i=k+26:=λi hi=>by have:=a1 i hi;rw[z.old i (by omega) (by omega)];exact this.2.2
  have a0:∀i,(∃e∈l,iE e.p i)->J i=k+26:=λi hi=>by have:=O i hi;rw[z.old i (by omega) (by omega)];exact this.2.2
  refine q5.rd (b:=.ptr) (some D.b) rfl (bY (b:=.sl) x5.1 rfl bs.1.cells Y ?_);refine eU (Wy (x:=x5) q5.doc b.dm b.ok (by omega) (λg c=>a3 a5 c λi hi f=>by omega) (by omega) (by omega)) λtg w U V=>?_;obtain⟨rfl,e',M6,rfl,b6,E,D6,H,d6,m6,a8,cg,ct⟩:=V;obtain⟨cr,cc⟩:=b4.fn b6;subst cr;subst cc;refine⟨rfl,(e,()),rfl,?_⟩;have q6:=q5.k_ H d6 a8;have a6:=a5.trans (H.UQ (k:=k) ⟨by omega,by omega⟩);have dr:=bs.aP (rho':=E) H.c (λi hi f=>by omega) λi hi hr=>by rw[H.old i hi (by omega)];exact hr
  have de:Cw d.size U out pt l m:=c9.aP H.c λi hi f=>⟨λB=>by have:=al i B;omega,λ_=>⟨λB=>by have:=b0 i B;omega,λe he B=>by have:=a0 i ⟨e,he,B⟩;omega⟩⟩;have aw:∀i,i<U.size->(iE out i\/∃e∈l,iE e.p i)->E i=k+24\/E i=k+26:=λi _ hi=>by
   rcases hi with hi|hi
   .have d:=al i hi;have h2:=a9 i hi
    rw[H.old i (by omega) (by omega)];exact .inl d
   .have d:=a0 i hi;have h2:=O i hi
    rw[H.old i (by omega) (by omega)];exact .inr d
  refine bY (b:=.sl) x5.1 rfl dr.1.cells Y ?_;refine eU (jr de cx bb ba bd (λg c=>a3 a6 c λi hi f=>by have:=aw i hi f;omega)) λtg w h7 V=>?_;obtain⟨rfl,rfl,c7,T,oT⟩:=V;refine⟨rfl,(true,()),rfl,?_⟩;have b3:qE k U E h7 (Hist.zr U E):=⟨c7.mono λi hi f=>by have:=aw i hi f;omega,λi hi _=>sM hi,λi hi u=>by
   by_cases K:i<U.size
   .rw[sM K]
    rcases u with u|u
    .omega
    .exact .inr u
   .exact .inl (qA (by omega))⟩
  have ds:fZ S n k (Hist.zr U E) h7 p X5 D6 out sw (T.flatMap Ah) ls:=by
   have z6:=q6.ext (Ext.refl U);exact z6.rq c7 (λi hi f=>by rw[sM hi];exact aw i hi f) oT
  refine iO (tys:=[tB]) (λ(y:Bool×Unit) _=>y.1=true) ?_ λ⟨(y:Bool),_⟩ h8 e8 hy=>?_
  .refine aM GZ λ⟨(a:Int),_⟩ g5 e9 ha=>?_
   have ha:a=e:=ha;subst ha;exact aG (λ_=>aC ⟨rfl,e9,(true,()),rfl,rfl⟩) λhc=>by rw[dM]at hc;exact absurd rfl hc
  .have hy:y=true:=hy
   subst hy;refine aC ⟨rfl,rfl,_,gM.Yt ⟨_,X5,D6,out,sw,_,ls,a6.trans b3,ds,⟨i5,m6,?_,?_⟩,ao,a8⟩ e8⟩
   .rw[cg,ao.enc];exact b.enc
   .rw[ct,ao.limit];exact b.Bp
 .rintro t w h3 ⟨rfl,rfl,M',pp⟩
  exact bK (jQ (aC ⟨rfl,rfl,M',pp⟩))
end
end Go.Sw.Hist
