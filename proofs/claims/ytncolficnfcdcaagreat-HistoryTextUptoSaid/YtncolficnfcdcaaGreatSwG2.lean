
/- Steps. -/
import Derived.Test.YtncolficnfcdcaaGreatSwG1
import Derived.Test.YtncolficnfcdcaaGreatSwCD
set_option linter.unusedVariables false
set_option linter.unusedSimpArgs false
set_option maxRecDepth 100000
set_option maxHeartbeats 1000000
namespace Go.Sw.Hist
open Go.Sw.Any Go.Sw.Codec Go.Sw.Piece
open Go.Sw.Tree (iv fL jI jW nE pD kT sG kP dV lA)
section
variable{P:Program}{S:cG}{h:aE}{Q:Nat->bE->aE->Prop}{n k:Nat}{rho:Nat->Nat}{X:Bk}
variable{L:Int}{s:Sl}{vs:bE}
def Lo:Int->List (List mE)->Int->Prop
 |a,[],b=>0<=a/\a<=65536/\a=b
 |a,m::l,b=>0<=a/\a<=65536/\RB a 0 m/\m.length<=70000/\Lo (a+AA m) l b
theorem Lo.lo{b:Int}:∀{l:List (List mE)} {a:Int},Lo a l b->0<=a/\a<=65536
 |[],_,⟨h0,c,_⟩=>⟨h0,c⟩
 |m::l,_,⟨h0,c,_⟩=>⟨h0,c⟩
theorem Lo.hi{b:Int}:∀{l:List (List mE)} {a:Int},Lo a l b->0<=b/\b<=65536
 |[],_,⟨h0,c,e⟩=>e ▸ ⟨h0,c⟩
 |m::l,_,⟨h0,c,_,_,d⟩=>d.hi
def HJ(L:Int)(ms:fR)(ws:aW):Prop:=(∀e∈ms,0<=e.2.1/\e.2.1<=L)/\∀v∈ws,v<=L
theorem Uj{m:List mE}{ms:fR}{ws:aW}(d:0<=L)(b:RB L 0 m)(hm:HJ L ms ws):HJ (L+AA m) (Bn m ms) (kX m ws):=by
 have g:=F8 b d;refine⟨λe he=>?_,λv f=>?_⟩
 .obtain⟨x,c,rfl⟩:=dC.1 he
  have:=hm.1 x c;exact MJ b this.1 this.2
 .obtain⟨x,c,rfl⟩:=dC.1 f
  have:=hm.2 x c;unfold wv;split
  .omega
  .split
   .exact(MJ b (by omega) this).2
   .omega
theorem gl{len:Int}:∀{l:List mE} {at_ sh:Int},RB len at_ l->0<=at_->∀e∈pS sh l,e.2.2.1<=len
 |[],_,_,_,_=>λe he=>by cases he
 |x::l,at_,sh,⟨a,b,c,d,f⟩,h0=>λe he=>by
  rcases eJ.1 he with rfl|he
  .show x.2.1-x.1<=len;omega
  .exact gl f (by omega) e he
theorem Vx:∀{l:List mE} {sh:Int},(pS sh l).length=l.length
 |[],_=>rfl
 |x::l,sh=>by simp[pS,Vx (l:=l)]
theorem P8{m:List mE}(h0:0<=L)(h1:L<=65536)(c:L+AA m<=65536)(b:RB L 0 m)(d:m.length<=70000):KX (pS 0 m)/\RB (L+AA m) 0 (pS 0 m):=by
 have hi:=Vw (sh:=0) b;rw[Int.add_zero,Int.zero_add]at hi;exact⟨⟨by rw[Vx];omega,RB.mb (by omega) hi (nJ _) λe he=>by have:=gl b (nJ _) e he;omega⟩,hi⟩
theorem HJ.w{ms:fR}{ws:aW}(hm:HJ L ms ws)(c:L<=65536):(∀e∈ms,0<=e.2.1/\e.2.1<=2199023255552)/\∀v∈ws,v<=2199023255552:=
 ⟨λe he=>by have:=hm.1 e he;omega,λv b=>by have:=hm.2 v b;omega⟩
def Ja(l:List (List mE))(ms:fR):fR:=l.foldr (λm s=>Bn (pS 0 m) s) ms
def zG(l:List (List mE))(ws:aW):aW:=l.foldr (λm s=>kX (pS 0 m) s) ws
def GN(l:List (List mE))(ms:fR):fR:=l.foldl (λs m=>Bn m s) ms
def rZ(l:List (List mE))(ws:aW):aW:=l.foldl (λs m=>kX m s) ws
abbrev HE(g:HC):List (List mE):=g.mv.2.map (·.2)
theorem Lo.cut{b:Int}:∀{l:List (List mE)} {a:Int} (i:Nat),Lo a l b->∃c,Lo a (l.take i) c/\Lo c (l.drop i) b
 |l,a,0,h=>⟨a,by simpa[Lo] using h.lo,by simpa using h⟩
 |[],a,i+1,h=>⟨a,⟨h.1,h.2.1,rfl⟩,h⟩
 |m::l,a,i+1,⟨h0,d,f,g,j⟩=>by
  obtain⟨c,c1,c2⟩:=Lo.cut i j;exact⟨c,⟨h0,d,f,g,c1⟩,c2⟩
theorem Lo.Xn{b:Int}{ms:fR}{ws:aW}:∀{l:List (List mE)} {a:Int},Lo a l b->HJ b ms ws->HJ a (Ja l ms) (zG l ws)
 |[],_,⟨_,_,e⟩,hm=>e ▸ hm
 |m::l,a,⟨h0,d,f,g,c⟩,hm=>by
  have j:=Lo.Xn c hm;have hb:=P8 h0 d c.lo.2 f g;have:=Uj c.lo.1 hb.2 j;rw[NI,show a+AA m + -AA m=a by omega]at this;exact this
theorem Lo.W6{b:Int}:∀{l:List (List mE)} {a:Int} {ms:fR} {ws:aW},Lo a l b->HJ a ms ws->HJ b (GN l ms) (rZ l ws)
 |[],_,_,_,⟨_,_,e⟩,hm=>e ▸ hm
 |m::l,a,ms,ws,⟨h0,f,c,g,d⟩,hm=>Lo.W6 (ms:=Bn m ms) (ws:=kX m ws) d (Uj h0 c hm)
theorem cC.qo{n:Nat}{v:Value}(o:cC n 1 h s (vs++[v])):cC n 1 h ⟨s.aD,vs.length,s.cap⟩ vs:=by
 obtain⟨o1,o2,m,b⟩:=o;simp only[bM,Cq,Hz]at o1;refine⟨by simp,by dsimp only;omega,m,?_⟩;cases hb:s.aD with
 |none=>rw[hb]at b;exact b
 |some a=>
  rw[hb]at b;obtain⟨e0,c,d,cs,elem,f,g,j⟩:=b;exact⟨e0,c,d,cs,elem,f,g,λi v hi=>j i v (by rw[lV (eK.1 hi).1];exact hi)⟩
theorem QS{b:B}{i:Nat}(y:b.den){K:b.den->aK}(d:Rd 1 h s vs)(hi:vs[i]?=some (b.inj y))(f:wp P (K y) h Q) :
  wp P (bD (bN (aJ s.aD) (eV (i:Int) s.len))<|.load (.one b) (aB s.aD (bB (bP (i:Int)) 1)) K) h Q:=by
 obtain⟨a,e,c⟩:=d.2 i _ hi;have g:=(eK.1 hi).1;have j:=d.1;refine aL (fD.2 ⟨by rw[e];rfl,lR.2 ⟨by omega,by omega⟩⟩) ?_;rw[gX,eR,cN,Hz,e];exact aX (a.add i) y rfl c f
theorem TT{o:Kg}(r:cL S n h rho k X)(d:X.now=some o):wp P (mO S (some X.b)) h λtg vs h'=>tg=0/\vs=[aH 0,aH 70]/\h'=h:=by
 unfold mO;exact r.rd (b:=.ptr) (some o.o) (by simp[oN,d,B.inj]) (aG (λ_=>aC ⟨rfl,rfl,rfl⟩) λc=>by cases c)
theorem Wl(r:cL S n h rho k X)(g:X.now=none)(f:X.U.2=[]):wp P (mO S (some X.b)) h λtg vs h'=>tg=0/\vs=[aH 0,aH 72]/\h'=h:=by
 unfold mO;have d:X.U.1.len=0:=by have:=r.ou.1;rw[f]at this;simpa[oI] using this
 exact r.rd (b:=.ptr) none (by simp[oN,g,B.inj]) (aG (λc=>by cases c) λ_=>r.rd (b:=.sl) X.U.1 rfl (aG (λ_=>aC ⟨rfl,rfl,rfl⟩) λc=>by rw[d]at c;cases c))
theorem TS{o:Kg}(r:cL S n h rho k X)(d:X.now=some o):wp P (mN S (some X.b)) h λtg vs h'=>tg=0/\vs=[aH 0,aH 70]/\h'=h:=by
 unfold mN;exact r.rd (b:=.ptr) (some o.o) (by simp[oN,d,B.inj]) (aG (λ_=>aC ⟨rfl,rfl,rfl⟩) λc=>by cases c)
theorem Wi(r:cL S n h rho k X)(g:X.now=none)(f:X.R.2=[]):wp P (mN S (some X.b)) h λtg vs h'=>tg=0/\vs=[aH 0,aH 73]/\h'=h:=by
 unfold mN;have d:X.R.1.len=0:=by have:=r.KS.1;rw[f]at this;simpa[oI] using this
 exact r.rd (b:=.ptr) none (by simp[oN,g,B.inj]) (aG (λc=>by cases c) λ_=>r.rd (b:=.sl) X.R.1 rfl (aG (λ_=>aC ⟨rfl,rfl,rfl⟩) λc=>by rw[d]at c;cases c))
abbrev iq(X:Bk)(T':TX)(u q:Sl)(us:List HC)(g:HC):Bk:={X with T:=T',U:=(u,us),R:=(q,X.R.2++[g]),ms:=Ja (HE g) X.ms,ws:=zG (HE g) X.ws,state:=g.old}
abbrev h_(X:Bk)(T':TX)(u q:Sl)(rs:List HC)(g:HC):Bk:={X with T:=T',R:=(u,rs),U:=(q,X.U.2++[g]),ms:=GN (HE g) X.ms,ws:=rZ (HE g) X.ws,state:=g.fresh}
theorem Ph{x:Xw}(r:cL S n h rho k X)(j:Jz n h x.1 x.2)(h0:∀a,x.1.aD=some a->rho a.block≠k+2/\rho a.block≠k+3)(hb:KX x.2)(p:∀e∈X.ms,0<=e.2.1/\e.2.1<=2199023255552)(g:∀v∈X.ws,v<=2199023255552){K:Unit->aK}
  (o:∀h',aY (λi=>rho i=k+2\/rho i=k+3) h h'->cL S n h' rho k (qz x.2 X)->wp P (K ()) h' Q):wp P (.call (lE S (some X.b) x.1) [] K) h Q:=by
 refine Tw (OO (x:=x) r j.ok (λh' c=>(j.oQ c λa ha d=>?_).ok) hb p g) λ_ m c1 t=>o m (c1.mono λi hi d=>?_) t
 .rcases d with e|⟨y,f,e⟩
  .exact(h0 a ha).1 (by rw[e];exact r.rm)
  .exact(h0 a ha).2 (by rw[<-e];exact r.Es y f)
 .rcases d with rfl|⟨y,f,rfl⟩
  .exact .inl r.rm
  .exact .inr (r.Es y f)
open Classical in
theorem jn{us:List HC}{g:HC}{L0 L1:Int}(r:cL S n h rho k X)(hn:X.now=none)(hU:X.U.2=us++[g])(hc:Lo L0 (HE g) L1)(hm:HJ L1 X.ms X.ws)(hR:X.R.2.length<=1099511627776)(cx:us.length<=1099511627776)(c9:g.mv.2.length<=1099511627776) :
  wp P (mO S (some X.b)) h λtg vs h'=>tg=0/\vs=[aH g.bg,aH 0]/\∃rho' E u q,cQ k h rho h' rho'/\cL S n h' rho' k (iq X E u q us g)/\L8 X.T E h.size/\E.cur=g.sb/\E.A=X.T.A:=by
 unfold mO;have a0:X.b.block<h.size:=(r.ob.lt rfl).2;have de:n<=h.size:=dI (r.ob.lt rfl).1 (rH a0);have a5:X.U.1.len=us.length+1:=by have:=r.ou.1;rw[hU]at this;simpa[oI] using this
 have df:X.R.1.len=X.R.2.length:=by have:=r.KS.1;simpa[oI] using this
 have ou:cC n 1 h X.U.1 (oI us++[.pointer (some g.pt)]):=by have:=r.ou;rw[hU]at this;simpa[oI] using this
 have cr:=ou.2.1;refine r.rd (b:=.ptr) none (by simp[oN,hn,B.inj]) (aG (λC=>by cases C) λ_=>r.rd (b:=.sl) X.U.1 rfl (aG (λC=>?_) λ_=>?_))
 .rw[a5,cJ,aN]at C;omega
 have bo:bJ .i64 (aQ X.U.1.len) 1=(us.length:Int):=by rw[aN,a5,cY (by omega) (by omega)];omega
 simp only[bo];refine r.rd (b:=.sl) X.U.1 rfl (QS (b:=.ptr) (some g.pt) ou.rd (by rw[jK (by simp[oI])];simp[oI,B.inj]) ?_);refine r.rd (b:=.sl) X.U.1 rfl (aL (iQ (by omega) (by omega)) (r.rd (b:=.sl) X.R.1 rfl ?_));refine λelem=>?_;have e1:Ext h (h.push (.cells [.pointer (some g.pt)].toArray elem)):=Ext.push ..;have a9:Rd 1 (h.push (.cells [.pointer (some g.pt)].toArray elem)) ⟨some ⟨h.size,0,none⟩,1,1⟩ [.pointer (some g.pt)]:=mX rfl;generalize h.push (.cells [.pointer (some g.pt)].toArray elem)=I at e1 a9⊢;have r1:=r.ext e1;have dr:=e1.1;refine sC (aI.1 r1.ob.cells 3 _ rfl) (sC (aI.1 r1.ob.cells 2 _ rfl) ?_);refine iS r1.KS (by omega) a9 (by intro v hv;rw[dE.1 hv];rfl) rfl (by dsimp only;omega) (by dsimp only;omega) λq h2 a7 l2 u2 b2 _=>?_;have c2:aY (λi=>∃a,X.R.1.aD=some a/\a.block=i) I h2:=aY.dP u2 λa ha _=>⟨a,ha,rfl⟩;have dx:=c2.1;have W:∀a,X.R.1.aD=some a->rho a.block=k+5/\a.block<h.size:=λa ha=>⟨r.rr a ha,(r.KS.lt ha).2⟩;have a6:=c2.own r1.ob λa ha ⟨y,hy,e⟩=>by cases ha;have I:=(W y hy).1;have h2:=r.rb;rw[e]at I;omega
 refine sC (aI.1 a6.cells 2 _ rfl) (aL rfl (aL rfl ?_));have bb:(.slice (bF X.U.1.aD X.U.1.cap 0 1) (cV (bP (us.length:Int)) 0) (cV X.U.1.cap 0):Value)=dG ⟨X.U.1.aD,us.length,X.U.1.cap⟩:=by
  rw[eQ];simp[cV,bP]
 rw[bb];refine eW (dG ⟨X.U.1.aD,us.length,X.U.1.cap⟩) a6 (by simp[oN]) rfl λh3 cc u3=>aL rfl (aL rfl (eW (dG q) cc (by simp[oN]) rfl λh4 cd u4=>?_));have cb:∀{g z:aE} {m c:Nat},jE ⟨some X.b,m,c⟩ g z->aY (λi=>i=X.b.block) g z:=λu=>aY.dP u λa ha _=>by cases ha;rfl
 have ao:aY (λi=>i=X.b.block) h2 h4:=(cb u3).trans (cb u4) λ_ _ x=>x
 let F:Nat->Prop:=λi=>i=X.b.block\/∃a,X.R.1.aD=some a/\a.block=i
 have H:aY F h h4:=(aY.pre e1 (c2.mono (G:=F) λi _ x=>.inr x)).trans (ao.mono (G:=F) λi _ x=>.inl x) λ_ _ x=>x;have ec:=ao.1;have hF:∀i,i<h.size->F i->rho i=k+1\/rho i=k+5:=λi hi f=>by
  rcases f with rfl|⟨a,ha,rfl⟩
  .exact .inl r.rb
  .exact .inr (W a ha).1
 let o:Nat->Nat:=λi=>if i<h.size then rho i else if (∃a,q.aD=some a/\a.block=i) then k+5 else 0
 have hold:∀i,i<h.size->o i=rho i:=λi hi=>if_pos hi;have d:∀j i,i<h.size->rho i=j->o i=j:=λj i hi e=>by rw[hold i hi];exact e
 have b6:∀a,q.aD=some a->o a.block=k+5:=λa ha=>by
  rcases b2 a ha with hb|hb
  .exact d _ _ (W a hb).2 (W a hb).1
  .show(if _ then _ else _)=_
   rw[if_neg (by omega),if_pos ⟨a,ha,rfl⟩]
 have eh:∀i,h4.size<=i->o i=0:=λi hi=>by
  show(if _ then _ else _)=0;rw[if_neg (by omega),if_neg];rintro⟨a,ha,e⟩;have:=(a7.lt ha).2;omega
 have cf:cQ k h rho h4 o:=⟨H.mono λi hi f=>by have:=hF i hi f;omega,λi hi _=>hold i hi,λi hi hj=>by
  by_cases a4:i<h.size
  .rw[hold i a4];rcases hj with hj|hj
   .omega
   .exact .inr hj
  .show(if _ then _ else _)=0\/_<(if _ then _ else _)/\(if _ then _ else _)<=_
   rw[if_neg a4];split
   .exact .inr (by omega)
   .exact .inl rfl⟩
 let O:Bk:={X with U:=(⟨X.U.1.aD,us.length,X.U.1.cap⟩,us),R:=(q,X.R.2++[g])}
 have bd:∀z,z∈us\/z∈X.R.2++[g]->z∈X.U.2\/z∈X.R.2:=λz J=>by
  rw[hU];rcases J with J|J
  .exact .inl (oM _ J)
  .rcases dD.1 J with J|J
   .exact .inr J
   .exact .inl (pZ _ J)
 have r4:cL S n h4 o k O:={
  t:=r.tK H λi hi f=>by have:=hF i hi f;omega
  rt:=r.pk (d _)
  mp:=r.gr H λi hi f=>by have:=hF i hi f;omega
  rm:=r.mw (d _)
  ow:=r.gz H λi hi f=>by have:=hF i hi f;omega
  Es:=r.pw (d _)
  ou:=by
   have:=cC.qo (H.own ou λa ha f=>by have I:=hF _ (ou.lt ha).2 f;have h2:=r.ru a ha;omega);have e:(oI us).length=us.length:=by simp[oI]
   rw[e]at this;exact this
  ru:=λa ha=>d _ _ (r.ou.lt ha).2 (r.ru a ha)
  KS:=by
   have:=ao.own a7 λa ha e=>by
    rcases b2 a ha with hb|hb
    .have I:=(W a hb).1;have h2:=r.rb;rw[e]at I;omega
    .omega
   show cC n 1 h4 q (oI (X.R.2++[g]));rw[show oI (X.R.2++[g])=oI X.R.2++[.pointer (some g.pt)] by simp[oI]];exact this
  rr:=b6
  gs:=λz bs=>(r.gs z (bd z bs)).aP H (λi hi f=>by have:=hF i hi f;omega) (d _) rfl λs hs=>hs
  nw:=r.sf H (λi hi f=>by have:=hF i hi f;omega) (λi hi _=>hold i hi) rfl λs hs=>hs
  ob:=by
   have:oN O=((oN X).set 2 (dG ⟨X.U.1.aD,us.length,X.U.1.cap⟩)).set 3 (dG q):=by simp[oN,O]
   show cC n 1 h4 ⟨some X.b,10,10⟩ (oN O);rw[this];exact cd
  rb:=d _ _ a0 r.rb}
 have V:g∈O.U.2\/g∈O.R.2:=.inr (pZ _ (dE.2 rfl));have g4:=r4.gs g V;refine r4.rd (X:=O) (b:=.ptr) (some X.T.p) rfl (aL rfl (aL rfl (aX (b:=.ptr) (g.pt.add 0) (some g.U8) rfl (aI.1 g4.ob.cells 0 _ rfl) ?_)));refine eU (TP r4.t (by omega) g4.k1 g4.s1) λtg vs h5 C=>?_;obtain⟨rfl,rfl,c5,E,t5,nx,ba,hA⟩:=C;refine⟨rfl,(0,()),rfl,?_⟩;obtain⟨ab,cg,ct,r5⟩:=r4.text c5 t5 nx;have g5:=r5.gs g V;have eg:=c5.1;have ml:g.mv.1.len=g.mv.2.length:=by have:=g5.mv.own.1;simpa using this
 refine aL rfl (aL rfl (aX (b:=.sl) (g.pt.add 4) g.mv.1 rfl (aI.1 g5.ob.cells 4 _ rfl) ?_));have bt:bJ .i64 (aQ g.mv.1.len) 1=(g.mv.2.length:Int)-1:=by rw[aN,ml,cY (by omega) (by omega)]
 rw[bt];have b9:L8 X.T E h.size:=⟨nx.p,nx.enc,nx.limit,nx.kept,nx.zm,λi hi=>(nx.zn i hi).imp id λh=>by have:=H.1;omega,λx C=>(nx.adc x C).imp id λh=>by have:=H.1;omega⟩
 let Y:fR->aW->Bk:=λms ws=>{O with T:=E,ms:=ms,ws:=ws}
 refine bO (λ(s:Int×Unit) h'=>∃i:Nat,s.1=(i:Int)-1/\i<=g.mv.2.length/\∃rho',cQ k h5 ab h' rho'/\cL S n h' rho' k (Y (Ja ((HE g).drop i) X.ms) (zG ((HE g).drop i) X.ws))) (λs _=>(s.1+1).toNat)
  (λt vs h'=>t=2/\vs=[]/\∃rho',cQ k h5 ab h' rho'/\cL S n h' rho' k (Y (Ja (HE g) X.ms) (zG (HE g) X.ws)))
  ⟨g.mv.2.length,rfl,bL _,ab,cQ.refl _ _ _,by
   have:(HE g).drop g.mv.2.length=[]:=List.drop_eq_nil_of_le (by simp);rw[this];exact r5⟩ ?_ ?_
 .rintro⟨(s:Int),u⟩ h6 ⟨i,hs,hi,K,al,Z⟩
  dsimp only at hs⊢;subst hs;refine aG (λC=>?_) λC=>?_
  .rw[dT]at C
   obtain⟨j,rfl⟩:∃j,i=j+1:=⟨i-1,by omega⟩;have hj:((j+1:Nat):Int)-1=(j:Int):=by omega
   rw[hj];have a3:j<g.mv.2.length:=by omega
   have g6:=Z.gs g V;obtain⟨m,aw⟩:∃m,g.mv.2[j]?=some m:=⟨g.mv.2[j],cM a3⟩;have b4:=eL aw;obtain⟨mo,m0,mb⟩:=g6.mv.each m b4;refine aL rfl (aL rfl (aX (b:=.sl) (g.pt.add 4) g.mv.1 rfl (aI.1 g6.ob.cells 4 _ rfl) ?_));refine QS (b:=.sl) m.1 g6.mv.own.rd (by rw[fX,aw];rfl) ?_;refine aM (Wq (x:=m) mo.ok mb) λ⟨(y:Sl),_⟩ h7 e7 hy=>?_;have hy:Jz h6.size h7 y (pS 0 m.2):=hy;dsimp only;have b8:n<=h6.size:=by have:=(Z.ob.lt rfl).1;have:=(Z.ob.lt rfl).2;omega
   have r7:=Z.zr e7;obtain⟨c,c6,a1⟩:=hc.cut j;have a2:(HE g).drop j=m.2::(HE g).drop (j+1):=by
    have b0:j<(HE g).length:=by simpa using a3
    rw[gK b0]
    congr 1
    have:=(eK.1 aw).2;simp[HE,this]
   rw[a2]at a1;obtain⟨d0,d1,d2,d3,d4⟩:=a1;have b3:=d4.Xn hm;have b1:=P8 d0 d1 d4.lo.2 d2 d3;have hw:=b3.w d4.lo.2;refine Ph (x:=(y,pS 0 m.2)) r7 ⟨IT b8 hy.own,hy.fit⟩ (λa ha=>?_) b1.1 hw.1 hw.2 λh8 c8 r8=>?_
   .have:=(hy.own.lt ha).1
    rw[qA this];omega
   .rw[cY (by omega) (by omega)]
    refine aC ⟨λ_=>⟨((j:Int)-1,()),rfl,⟨j,rfl,by omega,_,(al.trans (cQ.mV e7)).trans (cQ.of c8 (λi _ hi=>by omega) λi I h2=>qA (by have:=e7.1;omega)),?_⟩,by dsimp only;omega⟩,λhh=>absurd rfl hh⟩;rw[a2];exact r8
  .rw[fC]at C
   have:i=0:=by omega
   subst this;exact aC ⟨λhh=>absurd hh (by decide),λ_=>⟨rfl,rfl,K,al,Z⟩⟩
 .rintro tg vs h6 ⟨rfl,rfl,K,al,Z⟩
  have g6:=Z.gs g V;refine bK (bV (aL rfl (aL rfl (aX (b:=bI) (g.pt.add 5) g.old rfl (aI.1 g6.ob.cells 5 _ rfl) ?_))));have a8:=Z.zr (Ext.refl h6);refine a8.wc (iq X E ⟨X.U.1.aD,us.length,X.U.1.cap⟩ q us g) (i:=7) (by decide) rfl rfl rfl rfl rfl rfl rfl rfl rfl rfl rfl λh7 r7 c7=>?_;have g7:=r7.gs g V;refine aL rfl (aL rfl (aX (b:=bI) (g.pt.add 2) g.bg rfl (aI.1 g7.ob.cells 2 _ rfl) ?_));have bp:Hist.zr h6 K X.b.block=k+1:=a8.rb;exact aC ⟨rfl,rfl,Hist.zr h6 K,E,_,q,(((cf.trans cg).trans al).trans (cQ.mV (Ext.refl h6))).trans (cQ.of c7 (λi hi e=>by subst e;rw[bp];omega) λi I h2=>qA I),r7,b9,ba,hA⟩
end
section
variable{P:Program}{S:cG}{h:aE}{Q:Nat->bE->aE->Prop}{n k:Nat}{rho:Nat->Nat}{X:Bk}
open Classical in
theorem jm{us:List HC}{g:HC}{L0 L1:Int}(r:cL S n h rho k X)(hn:X.now=none)(hU:X.R.2=us++[g])(hc:Lo L0 (HE g) L1)(hm:HJ L0 X.ms X.ws)(hR:X.U.2.length<=1099511627776)(cg:us.length<=1099511627776)(ct:g.mv.2.length<=1099511627776) :
  wp P (mN S (some X.b)) h λtg vs h'=>tg=0/\vs=[aH g.en,aH 0]/\∃rho' H u q,cQ k h rho h' rho'/\cL S n h' rho' k (h_ X H u q us g)/\L8 X.T H h.size/\H.cur=g.sh/\H.A=X.T.A:=by
 unfold mN;have a1:X.b.block<h.size:=(r.ob.lt rfl).2;have cx:n<=h.size:=dI (r.ob.lt rfl).1 (rH a1);have a4:X.R.1.len=us.length+1:=by have:=r.KS.1;rw[hU]at this;simpa[oI] using this
 have c6:X.U.1.len=X.U.2.length:=by have:=r.ou.1;simpa[oI] using this
 have ou:cC n 1 h X.R.1 (oI us++[.pointer (some g.pt)]):=by have:=r.KS;rw[hU]at this;simpa[oI] using this
 have cd:=ou.2.1;refine r.rd (b:=.ptr) none (by simp[oN,hn,B.inj]) (aG (λC=>by cases C) λ_=>r.rd (b:=.sl) X.R.1 rfl (aG (λC=>?_) λ_=>?_))
 .rw[a4,cJ,aN]at C;omega
 have bb:bJ .i64 (aQ X.R.1.len) 1=(us.length:Int):=by rw[aN,a4,cY (by omega) (by omega)];omega
 simp only[bb];refine r.rd (b:=.sl) X.R.1 rfl (QS (b:=.ptr) (some g.pt) ou.rd (by rw[jK (by simp[oI])];simp[oI,B.inj]) ?_);refine r.rd (b:=.sl) X.R.1 rfl (aL (iQ (by omega) (by omega)) (r.rd (b:=.sl) X.U.1 rfl ?_));refine λelem=>?_;have e1:Ext h (h.push (.cells [.pointer (some g.pt)].toArray elem)):=Ext.push ..;have a7:Rd 1 (h.push (.cells [.pointer (some g.pt)].toArray elem)) ⟨some ⟨h.size,0,none⟩,1,1⟩ [.pointer (some g.pt)]:=mX rfl;generalize h.push (.cells [.pointer (some g.pt)].toArray elem)=E at e1 a7⊢;have r1:=r.ext e1;have c9:=e1.1;refine sC (aI.1 r1.ob.cells 2 _ rfl) (sC (aI.1 r1.ob.cells 3 _ rfl) ?_);refine iS r1.ou (by omega) a7 (by intro v hv;rw[dE.1 hv];rfl) rfl (by dsimp only;omega) (by dsimp only;omega) λq Z a6 l2 u2 b2 _=>?_;have c2:aY (λi=>∃a,X.U.1.aD=some a/\a.block=i) E Z:=aY.dP u2 λa ha _=>⟨a,ha,rfl⟩;have de:=c2.1;have W:∀a,X.U.1.aD=some a->rho a.block=k+4/\a.block<h.size:=λa ha=>⟨r.ru a ha,(r.ou.lt ha).2⟩;have a5:=c2.own r1.ob λa ha ⟨y,hy,e⟩=>by cases ha;have E:=(W y hy).1;have Z:=r.rb;rw[e]at E;omega
 refine sC (aI.1 a5.cells 3 _ rfl) (aL rfl (aL rfl ?_));have a9:(.slice (bF X.R.1.aD X.R.1.cap 0 1) (cV (bP (us.length:Int)) 0) (cV X.R.1.cap 0):Value)=dG ⟨X.R.1.aD,us.length,X.R.1.cap⟩:=by
  rw[eQ];simp[cV,bP]
 rw[a9];refine eW (dG ⟨X.R.1.aD,us.length,X.R.1.cap⟩) a5 (by simp[oN]) rfl λh3 b6 u3=>aL rfl (aL rfl (eW (dG q) b6 (by simp[oN]) rfl λh4 b8 u4=>?_));have cb:∀{g z:aE} {m c:Nat},jE ⟨some X.b,m,c⟩ g z->aY (λi=>i=X.b.block) g z:=λu=>aY.dP u λa ha _=>by cases ha;rfl
 have aw:aY (λi=>i=X.b.block) Z h4:=(cb u3).trans (cb u4) λ_ _ x=>x
 let F:Nat->Prop:=λi=>i=X.b.block\/∃a,X.U.1.aD=some a/\a.block=i
 have I:aY F h h4:=(aY.pre e1 (c2.mono (G:=F) λi _ x=>.inr x)).trans (aw.mono (G:=F) λi _ x=>.inl x) λ_ _ x=>x;have df:=aw.1;have hF:∀i,i<h.size->F i->rho i=k+1\/rho i=k+4:=λi hi f=>by
  rcases f with rfl|⟨a,ha,rfl⟩
  .exact .inl r.rb
  .exact .inr (W a ha).1
 let o:Nat->Nat:=λi=>if i<h.size then rho i else if (∃a,q.aD=some a/\a.block=i) then k+4 else 0
 have hold:∀i,i<h.size->o i=rho i:=λi hi=>if_pos hi;have d:∀j i,i<h.size->rho i=j->o i=j:=λj i hi e=>by rw[hold i hi];exact e
 have b1:∀a,q.aD=some a->o a.block=k+4:=λa ha=>by
  rcases b2 a ha with hb|hb
  .exact d _ _ (W a hb).2 (W a hb).1
  .show(if _ then _ else _)=_
   rw[if_neg (by omega),if_pos ⟨a,ha,rfl⟩]
 have dx:∀i,h4.size<=i->o i=0:=λi hi=>by
  show(if _ then _ else _)=0;rw[if_neg (by omega),if_neg];rintro⟨a,ha,e⟩;have:=(a6.lt ha).2;omega
 have b9:cQ k h rho h4 o:=⟨I.mono λi hi f=>by have:=hF i hi f;omega,λi hi _=>hold i hi,λi hi hj=>by
  by_cases a3:i<h.size
  .rw[hold i a3];rcases hj with hj|hj
   .omega
   .exact .inr hj
  .show(if _ then _ else _)=0\/_<(if _ then _ else _)/\(if _ then _ else _)<=_
   rw[if_neg a3];split
   .exact .inr (by omega)
   .exact .inl rfl⟩
 let O:Bk:={X with R:=(⟨X.R.1.aD,us.length,X.R.1.cap⟩,us),U:=(q,X.U.2++[g])}
 have ba:∀z,z∈X.U.2++[g]\/z∈us->z∈X.U.2\/z∈X.R.2:=λz J=>by
  rw[hU];rcases J with J|J
  .rcases dD.1 J with J|J
   .exact .inl J
   .exact .inr (pZ _ J)
  .exact .inr (oM _ J)
 have r4:cL S n h4 o k O:={
  t:=r.tK I λi hi f=>by have:=hF i hi f;omega
  rt:=r.pk (d _)
  mp:=r.gr I λi hi f=>by have:=hF i hi f;omega
  rm:=r.mw (d _)
  ow:=r.gz I λi hi f=>by have:=hF i hi f;omega
  Es:=r.pw (d _)
  ou:=by
   have:=aw.own a6 λa ha e=>by
    rcases b2 a ha with hb|hb
    .have E:=(W a hb).1;have Z:=r.rb;rw[e]at E;omega
    .omega
   show cC n 1 h4 q (oI (X.U.2++[g]));rw[show oI (X.U.2++[g])=oI X.U.2++[.pointer (some g.pt)] by simp[oI]];exact this
  ru:=b1
  KS:=by
   have:=cC.qo (I.own ou λa ha f=>by have E:=hF _ (ou.lt ha).2 f;have Z:=r.rr a ha;omega);have e:(oI us).length=us.length:=by simp[oI]
   rw[e]at this;exact this
  rr:=λa ha=>d _ _ (r.KS.lt ha).2 (r.rr a ha)
  gs:=λz bo=>(r.gs z (ba z bo)).aP I (λi hi f=>by have:=hF i hi f;omega) (d _) rfl λs hs=>hs
  nw:=r.sf I (λi hi f=>by have:=hF i hi f;omega) (λi hi _=>hold i hi) rfl λs hs=>hs
  ob:=by
   have:oN O=((oN X).set 3 (dG ⟨X.R.1.aD,us.length,X.R.1.cap⟩)).set 2 (dG q):=by simp[oN,O]
   show cC n 1 h4 ⟨some X.b,10,10⟩ (oN O);rw[this];exact b8
  rb:=d _ _ a1 r.rb}
 have V:g∈O.U.2\/g∈O.R.2:=.inl (pZ _ (dE.2 rfl));have g4:=r4.gs g V;refine r4.rd (X:=O) (b:=.ptr) (some X.T.p) rfl (aL rfl (aL rfl (aX (b:=.ptr) (g.pt.add 1) (some g.qf) rfl (aI.1 g4.ob.cells 1 _ rfl) ?_)));refine eU (TP r4.t (by omega) g4.k2 g4.s2) λtg vs h5 C=>?_;obtain⟨rfl,rfl,c5,H,t5,nx,a8,hA⟩:=C;refine⟨rfl,(0,()),rfl,?_⟩;obtain⟨ab,cc,cf,r5⟩:=r4.text c5 t5 nx;have g5:=r5.gs g V;have dr:=c5.1;have ml:g.mv.1.len=g.mv.2.length:=by have:=g5.mv.own.1;simpa using this
 refine aL rfl (aL rfl (aX (b:=.sl) (g.pt.add 4) g.mv.1 rfl (aI.1 g5.ob.cells 4 _ rfl) ?_));have b4:L8 X.T H h.size:=⟨nx.p,nx.enc,nx.limit,nx.kept,nx.zm,λi hi=>(nx.zn i hi).imp id λh=>by have:=I.1;omega,λx C=>(nx.adc x C).imp id λh=>by have:=I.1;omega⟩
 let Y:fR->aW->Bk:=λms ws=>{O with T:=H,ms:=ms,ws:=ws}
 have b0:aQ g.mv.1.len=(g.mv.2.length:Int):=by rw[aN,ml]
 rw[b0];refine bO (λ(s:Int×Unit) h'=>∃i:Nat,s.1=(i:Int)/\i<=g.mv.2.length/\∃rho',cQ k h5 ab h' rho'/\cL S n h' rho' k (Y (GN ((HE g).take i) X.ms) (rZ ((HE g).take i) X.ws))) (λs _=>((g.mv.2.length:Int)-s.1).toNat)
  (λt vs h'=>t=2/\vs=[]/\∃rho',cQ k h5 ab h' rho'/\cL S n h' rho' k (Y (GN (HE g) X.ms) (rZ (HE g) X.ws)))
  ⟨0,rfl,cS _,ab,cQ.refl _ _ _,r5⟩ ?_ ?_
 .rintro⟨(s:Int),u⟩ h6 ⟨j,hs,hi,K,ao,r6⟩
  dsimp only at hs⊢;subst hs;refine aG (λC=>?_) λC=>?_
  .rw[aV]at C
   have bp:j<g.mv.2.length:=by omega
   have g6:=r6.gs g V;obtain⟨m,a0⟩:∃m,g.mv.2[j]?=some m:=⟨g.mv.2[j],cM bp⟩;have bt:=eL a0;obtain⟨mo,m0,mb⟩:=g6.mv.each m bt;refine QS (b:=.sl) m.1 g6.mv.own.rd (by rw[fX,a0];rfl) ?_;obtain⟨c,a2,cr⟩:=hc.cut j;have b3:(HE g).take (j+1)=(HE g).take j++[m.2]:=by
    rw[eG,fX,a0];rfl
   have bs:=a2.W6 hm;have hw:=bs.w a2.hi.2;have al:=r6.zr (Ext.refl h6);refine Ph (x:=m) al mo (λa ha=>?_) mb hw.1 hw.2 λh8 c8 r8=>?_
   .rw[sM (mo.own.lt ha).2,m0 a ha];omega
   .rw[bG (by omega) (by omega)]
    refine aC ⟨λ_=>⟨((j:Int)+1,()),rfl,⟨j+1,by push_cast;rfl,by omega,_,(ao.trans (cQ.mV (Ext.refl h6))).trans (cQ.of c8 (λi _ hi=>by omega) λi E Z=>qA E),?_⟩,by dsimp only;omega⟩,λhh=>absurd rfl hh⟩;rw[b3];unfold GN rZ;rw[Ke,Ke];exact r8
  .rw[aZ]at C
   have hj:j=g.mv.2.length:=by omega
   subst hj;have ht:(HE g).take g.mv.2.length=HE g:=iF (by simp);rw[ht]at r6;exact aC ⟨λhh=>absurd hh (by decide),λ_=>⟨rfl,rfl,K,ao,r6⟩⟩
 .rintro tg vs h6 ⟨rfl,rfl,K,ao,r6⟩
  have g6:=r6.gs g V;refine bK (bV (aL rfl (aL rfl (aX (b:=bI) (g.pt.add 6) g.fresh rfl (aI.1 g6.ob.cells 6 _ rfl) ?_))));have al:=r6.zr (Ext.refl h6);refine al.wc (h_ X H ⟨X.R.1.aD,us.length,X.R.1.cap⟩ q us g) (i:=7) (by decide) rfl rfl rfl rfl rfl rfl rfl rfl rfl rfl rfl λh7 r7 c7=>?_;have g7:=r7.gs g V;refine aL rfl (aL rfl (aX (b:=bI) (g.pt.add 3) g.en rfl (aI.1 g7.ob.cells 3 _ rfl) ?_));have bd:Hist.zr h6 K X.b.block=k+1:=al.rb;exact aC ⟨rfl,rfl,Hist.zr h6 K,H,_,q,(((b9.trans cc).trans ao).trans (cQ.mV (Ext.refl h6))).trans (cQ.of c7 (λi hi e=>by subst e;rw[bd];omega) λi E Z=>qA E),r7,b4,a8,hA⟩
end
end Go.Sw.Hist
namespace Go.Sw.Piece
open Go.Sw.Any Go.Sw.Codec
section
variable{P:Program}{S:cG}{h:aE}{Q:Nat->bE->aE->Prop}
variable{l:aW}
abbrev Nu(e:gY):Nat:=e.2.2.1.2.length
def gH(e:gY):gY:=(e.1,e.2.1,(⟨none,0,0⟩,e.2.2.1.2),())
theorem F7(es:List gY):aU (es.map gH)=aU es:=by simp[aU,List.flatMap_map,gH]
theorem JY{len:Int}:∀{es:List gY} {a:Int},uE len a (es.map gH)↔uE len a es
 |[],_=>Iff.rfl
 |e::es,a=>by simp only[fK,uE,JY (es:=es)];exact Iff.rfl
theorem C5(E:List El):∀es:List gY,iI E (es.map gH)=iI E es
 |[]=>rfl
 |e::es=>by rw[fK,pU,pU,C5 E es];rfl
theorem P7{k:IntKind}(x:Sl×aW):(Sh.list (.int k)).wt x=x.2.length+1:=by
 have:∀l:aW,(l.map (Sh.int k).wt).sum=l.length:=by
  intro l
  induction l with
  |nil=>rfl
  |cons y l c=>rw[fK,DQ,c,fF,FC];rfl
 simp only[Sh.wt];have b:=this x.2;exact congrArg (· + 1) b
theorem qw(e:gY):Nu e+1<=jD.wt e:=by
 have b:=P7 (k:=.i64) e.2.2.1;have c:Nu e=e.2.2.1.2.length:=rfl;simp only[Sh.wt]at b⊢;omega
theorem ka(x:Gp):x.2.length<=(Sh.list jD).wt x/\(aU x.2).length<=(Sh.list jD).wt x/\∀e,e∈x.2->Nu e<=(Sh.list jD).wt x:=by
 have:∀l:List gY,l.length<=(l.map jD.wt).sum/\(aU l).length<=(l.map jD.wt).sum/\∀e,e∈l->Nu e<=(l.map jD.wt).sum:=by
  intro l
  induction l with
  |nil=>exact⟨bL _,bL _,λe he=>by cases he⟩
  |cons y l d=>
   have b:=qw y;have c:(aU (y::l)).length=Nu y+(aU l).length:=by simp[aU]
   rw[fK,DQ,fF,c];refine⟨by omega,by omega,λe he=>?_⟩;rcases eJ.1 he with rfl|he
   .omega
   .have:=d.2.2 e he;omega
 have b:=this x.2;have e:(Sh.list jD).wt x=(x.2.map jD.wt).sum+1:=rfl;rw[e];exact⟨by omega,by omega,λe he=>by have:=b.2.2 e he;omega⟩
theorem xP{α:Type}(f:α->Nat){l:List α}{y:α}(b:y∈l):f y<=(l.map f).sum:=by
 induction l with
 |nil=>cases b
 |cons z l c=>
  rw[fK,DQ];rcases eJ.1 b with rfl|b
  .omega
  .have:=c b;omega
theorem NJ{α:Type}(f g:α->Nat):∀l:List α,(∀y,y∈l->f y<=g y)->(l.map f).sum<=(l.map g).sum
 |[],_=>bL _
 |y::l,h=>by
  rw[fK,DQ,fK,DQ];have:=h y (cX ..);have:=NJ f g l λz b=>h z (dZ _ b);omega
theorem HO{E:List El}:∀{es:List gY} {a:Int} {k:Nat},uE E.length a es->(k:Int)<=a->(iI E es).take k=E.take k
 |[],_,_,_,_=>rfl
 |e::es,a,k,⟨d,f,g,b⟩,j=>by
  have c:=HO (E:=E) (es:=es) (k:=e.1.toNat) b (by omega);rw[pU];unfold DA;rw[c,eC,zZ (by rw[dJ];omega),Jr,show min k e.1.toNat=k by omega]
def fwd(E:List El):Int->List gY->List El
 |a,[]=>E.drop a.toNat
 |a,e::es=>(E.drop a.toNat).take (e.1.toNat-a.toNat)++e.2.2.1.2.map (λx=>(x, -1))++fwd E e.2.1 es
theorem Pz{E:List El}:∀{es:List gY} {a:Int},0<=a->a<=E.length->uE E.length a es->iI E es=E.take a.toNat++fwd E a es
 |[],a,_,_,_=>by unfold fwd;rw[eX];rfl
 |e::es,a,h0,ha,⟨g,m,d,b⟩=>by
  have f:=Pz (E:=E) (es:=es) (by omega) d b;rw[pU];unfold DA fwd;rw[HO b (by omega),f,LV (by rw[dJ];omega)];have:E.take e.1.toNat=E.take a.toNat++(E.drop a.toNat).take (e.1.toNat-a.toNat):=by
   have c:=List.take_add (l:=E) (i:=a.toNat) (j:=e.1.toNat-a.toNat);rw[show a.toNat+(e.1.toNat-a.toNat)=e.1.toNat by omega]at c;exact c
  rw[this];simp[eC]
theorem ND{enc:Int}(c:jF enc l):(eZ enc l:Int)=(l.flatMap (cW enc)).length:=by
 induction l with
 |nil=>rfl
 |cons a l g=>
  have j:=oJ (c a (cX ..));have d:=g λb hb=>c b (dZ _ hb);have f:eZ enc (a::l)=bU enc a+eZ enc l:=by simp[eZ]
  rw[f,fY,bM,d];omega
theorem dd(l:aW):(l.map λa=>((a, -1):El)).map (λx:El=>x.1)=l:=by
 rw[sL]
 conv=>rhs;rw[<-List.map_id l]
 rfl
theorem RS{enc:Int}:kJ enc (l.map λa=>((a, -1):El))=(l.flatMap (cW enc)).length:=by
 unfold kJ;rw[dd]
theorem Mj(enc:Int)(E:List El)(k:Nat):kJ enc E=kJ enc (E.take k)+kJ enc (E.drop k):=by rw[<-lG,eX]
def MK(enc:Int)(E:List El)(es:List gY):Int:=(es.map λe=>(kJ enc (E.take e.2.1.toNat):Int)-kJ enc (E.take e.1.toNat)).sum
theorem RR{enc:Int}{E:List El}:∀{es:List gY} {a:Int},0<=a->uE E.length a es->jF enc (aU es)->(kJ enc (iI E es):Int)=kJ enc E+eZ enc (aU es)-MK enc E es
 |[],_,_,_,_=>by simp[iI,aU,MK,eZ]
 |e::es,a,h0,⟨p,r,t,b⟩,c=>by
  have o:aU (e::es)=e.2.2.1.2++aU es:=by simp[aU]
  rw[o]at c⊢;have f:jF enc e.2.2.1.2:=λx d=>c x (oM _ d);have g:jF enc (aU es):=λx d=>c x (pZ _ d);have u:=RR (E:=E) (es:=es) (by omega) b g;have s1:eZ enc (e.2.2.1.2++aU es)=eZ enc e.2.2.1.2+eZ enc (aU es):=by simp[eZ]
  have j:MK enc E (e::es)=((kJ enc (E.take e.2.1.toNat):Int)-kJ enc (E.take e.1.toNat))+MK enc E es:=by simp[MK]
  have s2:=ND f;rw[pU,s1,j];unfold DA;rw[HO b (by omega),lG,lG,RS];have m:=Mj enc (iI E es) e.2.1.toNat;rw[HO b (by omega)]at m;omega
theorem VI{enc:Int}:∀{l:aW},jF enc l->dF (l.map (tk enc))=(l.flatMap (cW enc)).length
 |[],_=>rfl
 |a::l,c=>by
  have d:=oJ (c a (cX ..));rw[fK,mM,VI λb hb=>c b (dZ _ hb),fY,bM];show(bU enc a).toNat+_=_;omega
theorem Nm{enc:Int}(he:eE enc){ps:List Pc}(hb:∀q,q∈ps->cA q.2)(k:Nat):dF ((cK enc ps).take k)=kJ enc ((gS enc ps).take k):=by
 obtain⟨b,_,c⟩:=F9 he hb;rw[b,<-DP,<-DP,VI λa ha=>c a (by obtain⟨x,d,rfl⟩:=dC.1 ha;exact dC.2 ⟨x,rG d,rfl⟩)];rfl
theorem YH{enc:Int}(he:eE enc){ps:List Pc}(hb:∀q,q∈ps->cA q.2)(es:List gY):wP (cK enc ps) es=MK enc (gS enc ps) es:=by
 unfold wP MK
 congr 1
 refine Js λe _=>?_;rw[Nm he hb,Nm he hb]
def HL(enc limit:Int)(E:List El)(es:List gY):Prop:=uE E.length 0 es/\jF enc (aU es)/\(kJ enc (iI E es):Int)<=limit
theorem Ta{enc limit r:Int}(he:eE enc){ps:List Pc}(hb:∀q,q∈ps->cA q.2){es:List gY}(h:KZ enc limit (cK enc ps) es r):(r=0↔es.length<=70000/\HL enc limit (gS enc ps) es):=by
 have g:(cK enc ps).length=(gS enc ps).length:=(yE ..).symm;have h0:(dF (cK enc ps):Int)=kJ enc (gS enc ps):=by
  have:=Nm he hb (cK enc ps).length;rw[fA,g,fA]at this;exact congrArg _ this
 have key:uE (gS enc ps).length 0 es->jF enc (aU es)->(kJ enc (iI (gS enc ps) es):Int)=dF (cK enc ps)+eZ enc (aU es)-wP (cK enc ps) es:=λa b=>by
  rw[RR (nJ 0) a b,YH he hb,h0]
 cases h with
 |many h=>exact⟨λh=>(by cases h),λf=>by omega⟩
 |place a b=>exact⟨λh=>(by cases h),λf=>absurd (g ▸ f.2.1) b⟩
 |fit a b c=>exact⟨λh=>(by cases h),λf=>absurd f.2.2.1 c⟩
 |full a b c d=>rw[g]at b;exact⟨λh=>(by cases h),λf=>by have:=key b c;have:=f.2.2.2;omega⟩
 |ok a b c d=>rw[g]at b;exact⟨λ_=>⟨a,b,c,by rw[key b c];exact d⟩,λ_=>rfl⟩
def tg(x:El):Bool:=decide (x.2 ≠ -1)
theorem uE.le{L:Int}:∀{es:List gY} {a:Int},uE L a es->∀e,e∈es->e.1<=e.2.1
 |e::es,a,⟨f,c,g,d⟩,x,b=>by
  rcases eJ.1 b with rfl|b
  .exact c
  .exact uE.le d x b
end
end Go.Sw.Piece
namespace Go.Sw.Hist
open Go.Sw.Any Go.Sw.Codec Go.Sw.Piece
section
variable{e:gY}{s:Int}
def L9(enc limit:Int)(E:List El):Prop:=(∀a,a∈E.map (·.1)->0<bU enc a)/\(kJ enc E:Int)<=limit
theorem Va{enc:Int}:∀{E:List El},(∀a,a∈E.map (·.1)->0<bU enc a)->E.length<=kJ enc E
 |[],_=>cS _
 |x::E,h=>by
  have d:=Va (E:=E) λa ha=>h a (dZ _ ha);have b:=oJ (h x.1 (cX ..));have c:=h x.1 (cX ..);have e:kJ enc (x::E)=(cW enc x.1).length+kJ enc E:=by unfold kJ;rw[fK,fY,bM]
  rw[e,fF];omega
theorem L9.len{enc limit:Int}{E:List El}(h:L9 enc limit E):(E.length:Int)<=limit:=by have:=Va h.1;have:=h.2;omega
theorem dh{E:List El}{x:El}(h:x∈DA E e):x∈E\/x.1∈e.2.2.1.2:=by
 unfold DA at h;rcases dD.1 h with h|h
 .rcases dD.1 h with h|h
  .exact .inl (rG h)
  .obtain⟨a,ha,rfl⟩:=dC.1 h
   exact .inr ha
 .exact .inl (Bi h)
theorem VD{E:List El}:∀{c:List gY} {x:El},x∈iI E c->x∈E\/x.1∈aU c
 |[],x,h=>.inl h
 |e::c,x,h=>by
  rw[pU]at h;have b:aU (e::c)=e.2.2.1.2++aU c:=by simp[aU]
  rw[b];rcases dh h with h|h
  .rcases VD h with h|h
   .exact .inl h
   .exact .inr (pZ _ h)
  .exact .inr (oM _ h)
theorem L9.all{enc limit:Int}{E:List El}{c:List gY}(h:L9 enc limit E)(o:HL enc limit E c):L9 enc limit (iI E c):=by
 refine⟨λa ha=>?_,o.2.2⟩;obtain⟨x,b,rfl⟩:=dC.1 ha;rcases VD b with b|b
 .exact h.1 _ (dC.2 ⟨x,b,rfl⟩)
 .exact o.2.1 _ b
def kU(E:List El)(cs:List (List gY)):List El:=cs.foldl iI E
def Lq(enc limit:Int):List El->List (List gY)->Prop
 |_,[]=>True
 |E,c::cs=>c.length<=70000/\HL enc limit E c/\Lq enc limit (iI E c) cs
theorem Nt(E:List El)(cs:List (List gY))(c:List gY):kU E (cs++[c])=iI (kU E cs) c:=by simp[kU]
theorem Lq.snoc{enc limit:Int}{c:List gY}(b:c.length<=70000):∀{cs:List (List gY)} {E:List El},Lq enc limit E cs->HL enc limit (kU E cs) c->Lq enc limit E (cs++[c])
 |[],_,_,o=>⟨b,o,trivial⟩
 |d::cs,E,⟨f,g,j⟩,o=>⟨f,g,Lq.snoc b j o⟩
theorem Lq.ok{enc limit:Int}:∀{cs:List (List gY)} {E:List El},L9 enc limit E->Lq enc limit E cs->L9 enc limit (kU E cs)
 |[],_,h,_=>h
 |c::cs,E,h,⟨_,b,d⟩=>show L9 enc limit (kU (iI E c) cs) from Lq.ok (h.all b) d
abbrev nN(c:List gY):List mE:=c.map dH
theorem Lq.vn{enc limit:Int}(g:limit<=65536):∀{cs:List (List gY)} {E:List El},L9 enc limit E->Lq enc limit E cs->Lo E.length (cs.map nN) (kU E cs).length
 |[],E,h,_=>⟨by omega,by have:=h.len;omega,rfl⟩
 |c::cs,E,h,⟨d,b,f⟩=>by
  refine⟨by omega,by have:=h.len;omega,Ns b.1,by rw[cD];exact d,?_⟩;have:=Mh b.1 (nJ _);rw[<-this];exact Lq.vn g (h.all b) f
theorem kb{E:List El}(he:e.1<=e.2.1)(h:oR e=false):DA E e=E:=by
 unfold oR at h;rw[Ck,decide_eq_false_iff_not,decide_eq_false_iff_not]at h;have b:e.2.2.1.2=[]:=Aa (by omega);unfold DA;rw[b,show e.2.1=e.1 by omega];simp
theorem Vm{E:List El}:∀{c:List gY},(∀e∈c,e.1<=e.2.1)->c.any oR=false->iI E c=E
 |[],_,_=>rfl
 |e::c,b,h=>by
  rw[List.any_cons,Ck]at h;rw[pU,Vm (λx d=>b x (dZ _ d)) h.2,kb (b e (cX ..)) h.1]
def CI(cs:List (List gY)):Bool:=cs.any λc=>c.any oR
theorem Ir{enc limit:Int}:∀{cs:List (List gY)} {E:List El},Lq enc limit E cs->CI cs=false->kU E cs=E
 |[],_,_,_=>rfl
 |c::cs,E,⟨_,f,b⟩,h=>by
  unfold CI at h;rw[List.any_cons,Ck]at h;have d:=Vm (E:=E) f.1.le h.1;rw[d]at b;have:=Ir b h.2;show kU (iI E c) cs=E;rw[d];exact this
theorem Ft(c:List gY):nN (c.map gH)=nN c:=by unfold nN;rw[sL];rfl
theorem Pn(c:List gY):(c.map gH).any oR=c.any oR:=by rw[LX];rfl
theorem DI{enc limit:Int}{E:List El}{c:List gY}:HL enc limit E (c.map gH)↔HL enc limit E c:=by
 unfold HL;rw[JY,F7,C5]
structure GM where
 kQ:List (List gY)
 bg:Int
 en:Int
 st:Int
def iC(E:List El)(l:List GM):List El:=l.foldl (λE g=>kU E g.kQ) E
def HK(enc limit:Int):List El->List GM->Prop
 |_,[]=>True
 |E,g::l=>Lq enc limit E g.kQ/\HK enc limit (kU E g.kQ) l
def TA(s:Int)(l:List GM):Int:=l.foldl (λ_ g=>g.st) s
theorem xM(E:List El)(l:List GM)(g:GM):iC E (l++[g])=kU (iC E l) g.kQ:=by simp[iC]
theorem Ax(E:List El)(l m:List GM):iC E (l++m)=iC (iC E l) m:=by simp[iC]
theorem C4(s:Int)(l:List GM)(g:GM):TA s (l++[g])=g.st:=by simp[TA]
theorem Hv(s:Int)(l m:List GM):TA s (l++m)=TA (TA s l) m:=by simp[TA]
theorem HK.append{enc limit:Int}:∀{l m:List GM} {E:List El},HK enc limit E (l++m)↔HK enc limit E l/\HK enc limit (iC E l) m
 |[],m,E=>by simp[HK,iC]
 |g::l,m,E=>by
  have:=HK.append (l:=l) (m:=m) (E:=kU E g.kQ) (enc:=enc) (limit:=limit);simp only[DN,HK,this,and_assoc];exact Iff.rfl
theorem HK.ok{enc limit:Int}:∀{l:List GM} {E:List El},L9 enc limit E->HK enc limit E l->L9 enc limit (iC E l)
 |[],_,h,_=>h
 |g::l,E,h,⟨b,c⟩=>show L9 enc limit (iC (kU E g.kQ) l) from HK.ok (Lq.ok h b) c
structure XE(enc:Int)(E:List El)(s:Int)(g:HC)(m:GM):Prop where
 eb:gS enc g.sb.ps=E
 ee:gS enc g.sh.ps=kU E m.kQ
 mv:HE g=m.kQ.map nN
 bg:g.bg=m.bg
 en:g.en=m.en
 old:g.old=s
 fr:g.fresh=m.st
inductive mC(enc:Int):List El->Int->List HC->List GM->Prop where
 |nil (E:List El) (s:Int):mC enc E s [] []
 |cons {E:List El} {s:Int} {g:HC} {m:GM} {gs:List HC} {ms:List GM}:XE enc E s g m->mC enc (kU E m.kQ) m.st gs ms->mC enc E s (g::gs) (m::ms)
theorem mC.len{enc:Int}{E:List El}{gs:List HC}{ms:List GM}(c:mC enc E s gs ms):gs.length=ms.length:=by
 induction c with
 |nil=>rfl
 |cons _ _ b=>simp[b]
theorem mC.snoc{enc:Int}{E:List El}{gs:List HC}{ms:List GM}{g:HC}{m:GM}(c:mC enc E s gs ms)(h:XE enc (iC E ms) (TA s ms) g m):mC enc E s (gs++[g]) (ms++[m]):=by
 induction c with
 |nil E s=>exact .cons h (.nil _ _)
 |cons b _ d=>exact .cons b (d h)
theorem mC.last{enc:Int}{g:HC}:∀{gs:List HC} {E:List El} {s:Int} {ms:List GM},mC enc E s (gs++[g]) ms->∃b m,ms=b++[m]/\mC enc E s gs b/\XE enc (iC E b) (TA s b) g m
 |[],E,s,ms,c=>by
  cases c with
  |cons d c=>
   cases c;exact⟨[],_,rfl, .nil _ _,d⟩
 |x::gs,E,s,ms,c=>by
  cases c with
  |cons d c=>
   obtain⟨b,m,rfl,c1,c2⟩:=mC.last c;exact⟨_::b,m,rfl, .cons d c1,c2⟩
theorem mC.un{enc:Int}{E:List El}{gs:List HC}{ms:List GM}{m:GM}(c:mC enc E s gs (ms++[m])):∃b g,gs=b++[g]/\mC enc E s b ms/\XE enc (iC E ms) (TA s ms) g m:=by
 have f:=c.len;rcases LY gs with rfl|⟨b,g,rfl⟩
 .simp at f
 .rw[Ju]at c
  obtain⟨j,o,e,c1,c2⟩:=c.last;obtain⟨rfl,d⟩:=List.append_inj_left' e rfl,List.append_inj_right' e rfl;cases d;exact⟨b,g,by rw[Ju],c1,c2⟩
end
section
variable{a:Int}{ds:List GM}
abbrev uK:=List (Int×Int)
structure Cy where
 kQ:List (List gY)
 bg:Int
 om:uK
 ow:aW
structure Mo where
 E0:List El
 depth:Int
 lost:List GM
 done:List GM
 next:List GM
 now:Option Cy
 marks:uK
 watched:aW
 saved:Int
 last:Int
def Mo.C(M:Mo):List El:=iC M.E0 (M.lost++M.done)
def Mo.st(M:Mo):Int:=TA 0 (M.lost++M.done)
def Mo.ch(M:Mo):List (List gY):=(M.now.map (·.kQ)).getD []
def Mo.E(M:Mo):List El:=kU M.C M.ch
def Mo.all(M:Mo):List GM:=M.lost++M.done++M.next
def Mo.sz(M:Mo):Nat:=M.last.toNat+(M.all.map (·.kQ.length)).sum+M.ch.length
def Mo.ins(M:Mo)(a:Int):Prop:=0<=a/\a<=M.E.length
def lK(x:List mE)(l:uK):uK:=l.map λe=>(e.1,(qL e.2 x).1)
def wE(l:List (List mE))(ms:uK):uK:=l.foldr (λm s=>lK (pS 0 m) s) ms
def rB(l:List (List mE))(ms:uK):uK:=l.foldl (λs m=>lK m s) ms
def pT(name a:Int):uK->uK
 |[]=>[(name,a)]
 |e::l=>if e.1<name then e::pT name a l else if e.1=name then (name,a)::l else (name,a)::e::l
def Mo.oQ(M:Mo)(q:Cy)(es:List gY):Mo:={M with now:=some {q with kQ:=q.kQ++[es.map gH]},marks:=lK (nN es) M.marks,watched:=kX (nN es) M.watched}
def Mo.aP(M:Mo)(q:Cy)(a:Int):Mo:=
 let l:=M.done++[⟨q.kQ,q.bg,a,M.last+1⟩]
 {M with now:=none,next:=[],last:=M.last+1,lost:=if M.depth<(M.done.length:Int)+1 then M.lost++l.take 1 else M.lost,done:=if M.depth<(M.done.length:Int)+1 then l.drop 1 else l}
def Mo.back(M:Mo)(ds:List GM)(g:GM):Mo:={M with done:=ds,next:=g::M.next,marks:=wE (g.kQ.map nN) M.marks,watched:=zG (g.kQ.map nN) M.watched}
def Mo.wO(M:Mo)(g:GM)(ns:List GM):Mo:={M with done:=M.done++[g],next:=ns,marks:=rB (g.kQ.map nN) M.marks,watched:=rZ (g.kQ.map nN) M.watched}
structure gQ(enc limit:Int)(M:Mo)(N:Nat):Prop where
 en:eE enc
 li:0<=limit/\limit<=65536
 dp:1<=M.depth/\M.depth<=200
 e0:L9 enc limit M.E0
 ok:HK enc limit M.E0 M.all
 Z6:Lq enc limit M.C M.ch
 la:0<=M.last
 Bq:∀g∈M.all,0<g.st/\g.st<=M.last
 mono:M.all.Pairwise λa b=>a.st<b.st
 mi:∀e∈M.marks,0<=e.2/\e.2<=M.E.length
 so:M.marks.Pairwise λa b=>a.1<b.1
 mb:M.marks.length<=N
 wk:∀v∈M.watched,v<=M.E.length
 wl:M.watched.length<=N
 nw:∀q,M.now=some q->(∀e∈q.om,0<=e.2/\e.2<=M.C.length)/\(q.om.Pairwise λa b=>a.1<b.1)/\q.om.length<=N/\(∀v∈q.ow,v<=M.C.length)/\q.ow.length<=N
 sz:M.sz<=N
 nm:(∀k∈M.marks.map (·.1),Qa k)/\∀q,M.now=some q->∀k∈q.om.map (·.1),Qa k
variable{enc limit:Int}{M:Mo}{N:Nat}
theorem gQ.Y1{N':Nat}(o:gQ enc limit M N)(f:N<=N'):gQ enc limit M N':=
 ⟨o.en,o.li,o.dp,o.e0,o.ok,o.Z6,o.la,o.Bq,o.mono,o.mi,o.so,dI o.mb f,o.wk,dI o.wl f,λq g=>let ⟨a,b,c,d,e⟩:=o.nw q g;⟨a,b,dI c f,d,dI e f⟩,dI o.sz f,o.nm⟩
theorem gQ.Li(o:gQ enc limit M N):L9 enc limit M.C:=HK.ok o.e0 (HK.append.1 o.ok).1
theorem gQ.gx(o:gQ enc limit M N):L9 enc limit M.E:=Lq.ok o.Li o.Z6
theorem Mo.wS(b:M.now=none):M.E=M.C:=by unfold Mo.E Mo.ch;rw[b];rfl
theorem gQ.len(o:gQ enc limit M N):(M.E.length:Int)<=65536:=by have:=o.gx.len;have:=o.li;omega
def Vo(l:uK):fR:=l.map λe=>(e.1,e.2,0)
theorem PU(x:List mE)(l:uK):Bn x (Vo l)=Vo (lK x l):=by simp[Bn,Vo,lK]
theorem Si:∀(l:List (List mE)) (ms:uK),Ja l (Vo ms)=Vo (wE l ms)
 |[],ms=>rfl
 |m::l,ms=>by show Bn (pS 0 m) (Ja l (Vo ms))=Vo (lK (pS 0 m) (wE l ms));rw[Si l ms,PU]
theorem Sf:∀(l:List (List mE)) (ms:uK),GN l (Vo ms)=Vo (rB l ms)
 |[],ms=>rfl
 |m::l,ms=>by show GN l (Bn m (Vo ms))=Vo (rB l (lK m ms));rw[PU,Sf l]
theorem PV{L:Int}{ms:uK}{ws:aW}:HJ L (Vo ms) ws↔(∀e∈ms,0<=e.2/\e.2<=L)/\∀v∈ws,v<=L:=by
 unfold HJ Vo;refine and_congr ⟨λh e he=>h _ (dC.2 ⟨e,he,rfl⟩),λh e he=>?_⟩ Iff.rfl;obtain⟨x,b,rfl⟩:=dC.1 he;exact h x b
theorem gQ.ms(o:gQ enc limit M N):HJ M.E.length (Vo M.marks) M.watched:=PV.2 ⟨o.mi,o.wk⟩
theorem P0(x:List mE)(l:uK):(lK x l).map (·.1)=l.map (·.1):=by simp[lK]
theorem Tu:∀(l:List (List mE)) (ms:uK),(wE l ms).map (·.1)=ms.map (·.1)
 |[],ms=>rfl
 |m::l,ms=>by show(lK (pS 0 m) (wE l ms)).map _=_;rw[P0,Tu l]
theorem S9:∀(l:List (List mE)) (ms:uK),(rB l ms).map (·.1)=ms.map (·.1)
 |[],ms=>rfl
 |m::l,ms=>by show(rB l (lK m ms)).map _=_;rw[S9 l,P0]
theorem UK{a b:uK}(h:b.map (·.1)=a.map (·.1))(ha:a.Pairwise λx y=>x.1<y.1):b.Pairwise λx y=>x.1<y.1:=by
 have c:(a.map (·.1)).Pairwise λx y=>x<y:=List.pairwise_map.2 ha;rw[<-h]at c;exact List.pairwise_map.1 c
theorem QA{a b:uK}(h:b.map (·.1)=a.map (·.1)):b.length=a.length:=by have:=congrArg List.length h;simpa using this
theorem Ps:∀(l:List (List mE)) (ws:aW),(zG l ws).length=ws.length
 |[],_=>rfl
 |m::l,ws=>by show(kX (pS 0 m) (zG l ws)).length=_;unfold kX;rw[cD,Ps l]
theorem Pf:∀(l:List (List mE)) (ws:aW),(rZ l ws).length=ws.length
 |[],_=>rfl
 |m::l,ws=>by show(rZ l (kX m ws)).length=_;rw[Pf l];unfold kX;rw[cD]
theorem gQ.begin(o:gQ enc limit M N)(f:M.now=none)(a:Int):gQ enc limit {M with now:=some ⟨[],a,M.marks,M.watched⟩} N:=by
 have he:=Mo.wS f;refine⟨o.en,o.li,o.dp,o.e0,o.ok,trivial,o.la,o.Bq,o.mono,?_,o.so,o.mb,?_,o.wl,λq b=>?_,?_,o.nm.1,λq b=>by cases b;exact o.nm.1⟩
 .have:=o.mi;rw[he]at this;exact this
 .have:=o.wk;rw[he]at this;exact this
 .cases b
  have c:=o.mi;have d:=o.wk;rw[he]at c d;exact⟨c,o.so,o.mb,d,o.wl⟩
 .have:=o.sz;unfold Mo.sz Mo.ch at this⊢;rw[f]at this;exact this
theorem Mo.Yf{q:Cy}(b:M.now=some q)(es:List gY):(M.oQ q es).E=iI M.E es:=by
 unfold Mo.E Mo.ch Mo.oQ;rw[b];show kU M.C (q.kQ++[es.map gH])=_;rw[Nt,C5];rfl
theorem gQ.oQ{q:Cy}{es:List gY}(o:gQ enc limit M N)(d:M.now=some q)(m:es.length<=70000)(c:HL enc limit M.E es):gQ enc limit (M.oQ q es) (N+1):=by
 have j:=Mo.Yf d es;have b:M.ch=q.kQ:=by unfold Mo.ch;rw[d];rfl
 have hlen:=Mh c.1 (nJ _);have hm:=Uj (by omega) (Ns c.1) o.ms;rw[<-hlen,PU]at hm;have hm:=PV.1 hm;have f:=P0 (nN es) M.marks;refine⟨o.en,o.li,o.dp,o.e0,o.ok,?_,o.la,o.Bq,o.mono,?_,UK f o.so,?_,?_,?_,λp g=>?_,?_,(by show ∀k∈(lK (nN es) M.marks).map (·.1),Qa k;rw[f];exact o.nm.1),λp g=>by cases g;exact o.nm.2 q d⟩
 .show Lq enc limit M.C (q.kQ++[es.map gH])
  refine Lq.snoc (by rw[cD];exact m) (by have:=o.Z6;rw[b]at this;exact this) (DI.2 ?_);have:M.E=kU M.C q.kQ:=by unfold Mo.E;rw[b]
  rw[<-this];exact c
 .rw[j];exact hm.1
 .have:=QA f;have r:=o.mb;show(lK (nN es) M.marks).length<=_;omega
 .rw[j];exact hm.2
 .show(kX _ _).length<=_;unfold kX;rw[cD];have:=o.wl;omega
 .have:=o.nw q d
  cases g;exact⟨this.1,this.2.1,FM this.2.2.1,this.2.2.2.1,FM this.2.2.2.2⟩
 .have:=o.sz
  unfold Mo.sz at this⊢;rw[b]at this;show M.last.toNat+(M.all.map (·.kQ.length)).sum+(q.kQ++[es.map gH]).length<=N+1;rw[bM,Cq];omega
theorem gQ.qx{q:Cy}(o:gQ enc limit M N)(f:M.now=some q)(he:CI q.kQ=false):gQ enc limit {M with now:=none} N:=by
 have b:M.ch=q.kQ:=by unfold Mo.ch;rw[f];rfl
 have d:M.E=M.C:=by have:=o.Z6;rw[b]at this;unfold Mo.E;rw[b];exact Ir this he
 refine⟨o.en,o.li,o.dp,o.e0,o.ok,trivial,o.la,o.Bq,o.mono,?_,o.so,o.mb,?_,o.wl,λg c=>(by cases c),?_,o.nm.1,λg c=>by cases c⟩
 .have:=o.mi;rw[d]at this;exact this
 .have:=o.wk;rw[d]at this;exact this
 .have:=o.sz;unfold Mo.sz at this⊢;exact dI (by show M.last.toNat+(M.all.map (·.kQ.length)).sum+0<=_;omega) this
theorem Mo.CM{q:Cy}:(M.aP q a).lost++(M.aP q a).done=M.lost++M.done++[⟨q.kQ,q.bg,a,M.last+1⟩]:=by
 unfold Mo.aP;dsimp only;split
 .rw[eC,eX,eC]
 .rw[eC]
theorem Mo.Iz{q:Cy}:(M.aP q a).all=M.lost++M.done++[⟨q.kQ,q.bg,a,M.last+1⟩]:=by
 unfold Mo.all;rw[Mo.CM];show _++[]=_;rw[jX]
theorem Mo.Uo{q:Cy}(b:M.now=some q):(M.aP q a).C=M.E:=by
 unfold Mo.C;rw[Mo.CM,xM];unfold Mo.E Mo.ch;rw[b];rfl
theorem Mo.cz{q:Cy}:(M.aP q a).st=M.last+1:=by
 unfold Mo.st;rw[Mo.CM,C4]
theorem gQ.aP{q:Cy}{a:Int}(o:gQ enc limit M N)(m:M.now=some q):gQ enc limit (M.aP q a) (N+1):=by
 have d:M.ch=q.kQ:=by unfold Mo.ch;rw[m];rfl
 have j:(M.aP q a).E=M.E:=by rw[Mo.wS rfl,Mo.Uo m]
 have c:∀g∈M.lost++M.done,g∈M.all:=λg b=>oM _ b;refine⟨o.en,o.li,o.dp,o.e0,?_,trivial,?_,λg b=>?_,?_,?_,o.so,FM o.mb,?_,FM o.wl,λt f=>(by cases f),?_,o.nm.1,λt f=>by cases f⟩
 .rw[Mo.Iz]
  refine HK.append.2 ⟨(HK.append.1 o.ok).1,?_,trivial⟩;have:=o.Z6;rw[d]at this;exact this
 .show 0<=M.last+1;have:=o.la;omega
 .rw[Mo.Iz]at b
  show 0<g.st/\g.st<=M.last+1;have:=o.la;rcases dD.1 b with b|b
  .have:=o.Bq g (c g b);omega
  .rw[dE.1 b];dsimp only;omega
 .rw[Mo.Iz]
  refine LZ.2 ⟨(LZ.1 o.mono).1,Ry _ _,λx p y r=>?_⟩;rw[dE.1 r];have:=o.Bq x (c x p);dsimp only;omega
 .rw[j];exact o.mi
 .rw[j];exact o.wk
 .have:=o.sz
  have u:=o.la;unfold Mo.sz at this⊢;rw[Mo.Iz];rw[d]at this;unfold Mo.all at this;show(M.last+1).toNat+_+0<=N+1;rw[dL,List.sum_append_nat]at this⊢;simp only[fK,List.map_nil,DQ,List.sum_nil]at this⊢;omega
theorem gQ.drop{q:Cy}(o:gQ enc limit M N)(c:M.now=some q):gQ enc limit {M with now:=none,marks:=q.om,watched:=q.ow} N:=by
 obtain⟨d,f,g,j,m⟩:=o.nw q c;refine⟨o.en,o.li,o.dp,o.e0,o.ok,trivial,o.la,o.Bq,o.mono,d,f,g,j,m,λp b=>(by cases b),?_,o.nm.2 q c,λp b=>by cases b⟩;have:=o.sz;unfold Mo.sz at this⊢;exact dI (by show M.last.toNat+(M.all.map (·.kQ.length)).sum+0<=_;omega) this
theorem Mo.HQ{g:GM}(b:M.done=ds++[g]):(M.back ds g).all=M.all:=by unfold Mo.all Mo.back;rw[b];simp
theorem Mo.XA{g:GM}(b:M.done=ds++[g]):M.C=kU (iC M.E0 (M.lost++ds)) g.kQ:=by unfold Mo.C;rw[b,<-eC,xM]
theorem Mo.jd{g:GM}:(M.back ds g).C=iC M.E0 (M.lost++ds):=rfl
theorem Mo.TK{g:GM}(b:M.now=none):(M.back ds g).E=iC M.E0 (M.lost++ds):=Mo.wS b
theorem gQ.ly{g:GM}(o:gQ enc limit M N)(j:M.now=none)(c:M.done=ds++[g]):Lo (iC M.E0 (M.lost++ds)).length (g.kQ.map nN) M.E.length:=by
 have b:=o.ok;unfold Mo.all at b;rw[c,<-eC,eC (M.lost++ds)]at b;obtain⟨d,f⟩:=HK.append.1 b;have:=Lq.vn o.li.2 (HK.ok o.e0 d) f.1;rw[Mo.wS j,Mo.XA c];exact this
theorem gQ.back{ds:List GM}{g:GM}(o:gQ enc limit M N)(d:M.now=none)(c:M.done=ds++[g]):gQ enc limit (M.back ds g) N:=by
 have hm:=(o.ly d c).Xn o.ms;rw[Si]at hm;have hm:=PV.1 hm;have j:=Mo.TK (ds:=ds) (g:=g) d;have f:=Tu (g.kQ.map nN) M.marks;refine⟨o.en,o.li,o.dp,o.e0,?_,?_,o.la,?_,?_,?_,UK f o.so,?_,?_,?_,λq b=>?_,?_,(by show ∀k∈(wE (g.kQ.map nN) M.marks).map (·.1),Qa k;rw[f];exact o.nm.1),λq b=>by have b:M.now=some q:=b;rw[d]at b;cases b⟩
 .rw[Mo.HQ c];exact o.ok
 .have:(M.back ds g).ch=[]:=by unfold Mo.ch Mo.back;rw[d];rfl
  rw[this];trivial
 .rw[Mo.HQ c];exact o.Bq
 .rw[Mo.HQ c];exact o.mono
 .rw[j];exact hm.1
 .have:=QA f;have m:=o.mb;show(wE _ _).length<=_;omega
 .rw[j];exact hm.2
 .show(zG _ _).length<=_;rw[Ps];exact o.wl
 .have b:M.now=some q:=b
  rw[d]at b;cases b
 .have:=o.sz
  unfold Mo.sz at this⊢;rw[Mo.HQ c];exact this
theorem Mo.F0{ns:List GM}{g:GM}(b:M.next=g::ns):(M.wO g ns).all=M.all:=by unfold Mo.all Mo.wO;rw[b];simp
theorem Mo.Vt{ns:List GM}{g:GM}:(M.wO g ns).C=kU M.C g.kQ:=by
 unfold Mo.C Mo.wO;dsimp only;rw[<-eC,xM]
theorem Mo.P1{ns:List GM}{g:GM}(b:M.now=none):(M.wO g ns).E=kU M.C g.kQ:=by rw[<-Mo.Vt (ns:=ns)];exact Mo.wS b
theorem gQ.lv{ns:List GM}{g:GM}(o:gQ enc limit M N)(f:M.now=none)(d:M.next=g::ns):Lo M.E.length (g.kQ.map nN) (kU M.C g.kQ).length:=by
 have b:=o.ok;unfold Mo.all at b;rw[d]at b;obtain⟨j,c⟩:=HK.append.1 b;have:=Lq.vn o.li.2 o.Li c.1;rw[Mo.wS f];exact this
theorem gQ.wO{ns:List GM}{g:GM}(o:gQ enc limit M N)(d:M.now=none)(c:M.next=g::ns):gQ enc limit (M.wO g ns) N:=by
 have hm:=(o.lv d c).W6 o.ms;rw[Sf]at hm;have hm:=PV.1 hm;have j:=Mo.P1 (ns:=ns) (g:=g) d;have f:=S9 (g.kQ.map nN) M.marks;refine⟨o.en,o.li,o.dp,o.e0,?_,?_,o.la,?_,?_,?_,UK f o.so,?_,?_,?_,λq b=>?_,?_,(by show ∀k∈(rB (g.kQ.map nN) M.marks).map (·.1),Qa k;rw[f];exact o.nm.1),λq b=>by have b:M.now=some q:=b;rw[d]at b;cases b⟩
 .rw[Mo.F0 c];exact o.ok
 .have:(M.wO g ns).ch=[]:=by unfold Mo.ch Mo.wO;rw[d];rfl
  rw[this];trivial
 .rw[Mo.F0 c];exact o.Bq
 .rw[Mo.F0 c];exact o.mono
 .rw[j];exact hm.1
 .have:=QA f;have m:=o.mb;show(rB _ _).length<=_;omega
 .rw[j];exact hm.2
 .show(rZ _ _).length<=_;rw[Pf];exact o.wl
 .have b:M.now=some q:=b
  rw[d]at b;cases b
 .have:=o.sz
  unfold Mo.sz at this⊢;rw[Mo.F0 c];exact this
theorem Lz{name a:Int}:∀{l:uK} {e:Int×Int},e∈pT name a l->e=(name,a)\/e∈l
 |[],e,h=>.inl (dE.1 h)
 |x::l,e,h=>by
  unfold pT at h;split at h
  .rcases eJ.1 h with rfl|h
   .exact .inr (cX ..)
   .exact(Lz h).imp id (dZ _)
  .split at h
   .rcases eJ.1 h with rfl|h
    .exact .inl rfl
    .exact .inr (dZ _ h)
   .rcases eJ.1 h with rfl|h
    .exact .inl rfl
    .exact .inr h
theorem Zi{name a:Int}:∀{l:uK},(l.Pairwise λx y=>x.1<y.1)->(pT name a l).Pairwise λx y=>x.1<y.1
 |[],_=>Ry _ _
 |x::l,h=>by
  obtain⟨c,d⟩:=Bh.1 h;unfold pT;split
  .refine Bh.2 ⟨λy b=>?_,Zi d⟩
   rcases Lz b with rfl|b
   .dsimp only;omega
   .exact c y b
  .split
   .exact Bh.2 ⟨λy b=>by have:=c y b;dsimp only;omega,d⟩
   .refine Bh.2 ⟨λy b=>?_,h⟩
    rcases eJ.1 b with rfl|b
    .dsimp only;omega
    .have:=c y b;dsimp only;omega
theorem Ly{name a:Int}:∀{l:uK},(pT name a l).length<=l.length+1
 |[]=>bL _
 |x::l=>by
  have:=Ly (name:=name) (a:=a) (l:=l);unfold pT;split
  .simp only[fF];omega
  .split<;>simp only[fF]<;>omega
theorem gQ.f_(o:gQ enc limit M N){name:Int}(b:Qa name)(ha:M.ins a):gQ enc limit {M with marks:=pT name a M.marks} (N+1):=by
 refine⟨o.en,o.li,o.dp,o.e0,o.ok,o.Z6,o.la,o.Bq,o.mono,λe he=>?_,Zi o.so,?_,o.wk,FM o.wl,λq p=>?_,FM o.sz,λk m=>?_,o.nm.2⟩
 .rcases Lz he with rfl|he
  .exact ha
  .exact o.mi e he
 .have:=Ly (name:=name) (a:=a) (l:=M.marks);have:=o.mb;show(pT name a M.marks).length<=_;omega
 .obtain⟨c,d,f,g,j⟩:=o.nw q p
  exact⟨c,d,FM f,g,FM j⟩
 .obtain⟨e,he,rfl⟩:=dC.1 m
  rcases Lz he with rfl|he
  .exact b
  .exact o.nm.1 _ (dC.2 ⟨e,he,rfl⟩)
theorem gQ.watch(o:gQ enc limit M N){l:aW}(j:∀v∈l,M.ins v):gQ enc limit {M with watched:=l} (N+l.length):=by
 refine⟨o.en,o.li,o.dp,o.e0,o.ok,o.Z6,o.la,o.Bq,o.mono,o.mi,o.so,dI o.mb (DS _ _),λv p=>(j v p).2,Nat.le_add_left _ _,λq m=>?_,dI o.sz (DS _ _),o.nm⟩;obtain⟨b,c,d,f,g⟩:=o.nw q m;exact⟨b,c,dI d (DS _ _),f,dI g (DS _ _)⟩
def Mo.save(M:Mo):Mo:=if M.now.isNone then {M with saved:=M.st} else M
theorem gQ.save(o:gQ enc limit M N):gQ enc limit M.save N:=by
 unfold Mo.save;split
 .exact⟨o.en,o.li,o.dp,o.e0,o.ok,o.Z6,o.la,o.Bq,o.mono,o.mi,o.so,o.mb,o.wk,o.wl,o.nw,o.sz,o.nm⟩
 .exact o
end
section
variable{P:Program}{S:cG}{h:aE}{Q:Nat->bE->aE->Prop}{n k:Nat}{rho:Nat->Nat}{X:Bk}
variable{a:Int}{N:Nat}{q:Cy}
instance (M:Mo) (a:Int):Decidable (M.ins a):=inferInstanceAs (Decidable (_/\_))
structure XG(enc:Int)(M:Mo)(o:Kg)(q:Cy):Prop where
 eb:gS enc o.sb.ps=M.C
 mv:o.mv.2.map (·.2)=q.kQ.map nN
 bg:o.bg=q.bg
 old:o.old=M.st
 ch:o.ch=CI q.kQ
 ms:(o.ms.map kv).Perm q.om
 ws:o.ws=q.ow
def N1(enc:Int)(M:Mo):Option Kg->Option Cy->Prop
 |none,none=>True
 |some o,some q=>XG enc M o q
 |_,_=>False
structure xi(X:Bk)(M:Mo)(N:Nat):Prop where
 E:gS X.T.enc X.T.cur.ps=M.E
 u:mC X.T.enc (iC M.E0 M.lost) (TA 0 M.lost) X.U.2 M.done
 r:mC X.T.enc M.C M.st X.R.2.reverse M.next
 now:N1 X.T.enc M X.now M.now
 ms:(X.ms.map kv).Perm M.marks
 ws:X.ws=M.watched
 st:X.state=M.st
 sv:X.saved=M.saved
 la:X.last=M.last
 dp:X.depth=M.depth
 A:X.T.A.length<=4*N
structure Inv(X:Bk)(M:Mo)(N:Nat):Prop where
 ok:gQ X.T.enc X.T.limit M N
 lk:xi X M N
structure Sm(X X':Bk):Prop where
 b:X'.b=X.b
 p:X'.T.p=X.T.p
 enc:X'.T.enc=X.T.enc
 limit:X'.T.limit=X.T.limit
 depth:X'.depth=X.depth
theorem Sm.refl(X:Bk):Sm X X:=⟨rfl,rfl,rfl,rfl,rfl⟩
theorem Sm.trans{X Y Z:Bk}(a:Sm X Y)(b:Sm Y Z):Sm X Z:=⟨b.b.trans a.b,b.p.trans a.p,b.enc.trans a.enc,b.limit.trans a.limit,b.depth.trans a.depth⟩
def kL(S:cG)(n k:Nat)(X:Bk)(h:aE)(rho:Nat->Nat)(h':aE)(M':Mo)(N':Nat):Prop:=
 ∃rho' X',cQ k h rho h' rho'/\cL S n h' rho' k X'/\Inv X' M' N'/\Sm X X'
theorem Uq(x:List mE)(ms:fR):(Bn x ms).map kv=lK x (ms.map kv):=by simp[Bn,lK,kv]
theorem VB:∀(l:List (List mE)) (ms:fR),(Ja l ms).map kv=wE l (ms.map kv)
 |[],_=>rfl
 |m::l,ms=>by show(Bn (pS 0 m) (Ja l ms)).map kv=lK (pS 0 m) (wE l (ms.map kv));rw[Uq,VB l]
theorem VA:∀(l:List (List mE)) (ms:fR),(GN l ms).map kv=rB l (ms.map kv)
 |[],_=>rfl
 |m::l,ms=>by show(GN l (Bn m ms)).map kv=rB l (lK m (ms.map kv));rw[VA l,Uq]
theorem Nr(x:List mE){a b:uK}(h:a.Perm b):(lK x a).Perm (lK x b):=h.map _
theorem Pa:∀(l:List (List mE)) {a b:uK},a.Perm b->(wE l a).Perm (wE l b)
 |[],_,_,h=>h
 |m::l,_,_,h=>Nr _ (Pa l h)
theorem O9:∀(l:List (List mE)) {a b:uK},a.Perm b->(rB l a).Perm (rB l b)
 |[],_,_,h=>h
 |m::l,_,_,h=>O9 l (Nr m h)
theorem Inv.vo{M:Mo}(i:Inv X M N):HJ M.E.length X.ms X.ws:=by
 refine⟨λe he=>?_,λv b=>i.ok.wk v (by rw[<-i.lk.ws];exact b)⟩;exact i.ok.mi (kv e) (i.lk.ms.mem_iff.1 (dC.2 ⟨e,he,rfl⟩))
theorem Inv.mono{M:Mo}{N':Nat}(i:Inv X M N)(b:N<=N'):Inv X M N':=
 ⟨i.ok.Y1 b,⟨i.lk.E,i.lk.u,i.lk.r,i.lk.now,i.lk.ms,i.lk.ws,i.lk.st,i.lk.sv,i.lk.la,i.lk.dp,by have:=i.lk.A;omega⟩⟩
theorem kL.ext{M:Mo}{h':aE}(r:cL S n h rho k X)(i:Inv X M N)(e:Ext h h'):kL S n k X h rho h' M N:=
 ⟨_,X,cQ.mV e,r.zr e,i,Sm.refl X⟩
theorem Inv.IN{M:Mo}(i:Inv X M N)(b:X.now=none):M.now=none:=by
 have:=i.lk.now;rw[b]at this;cases hm:M.now with
 |none=>rfl
 |some q=>rw[hm]at this;exact this.elim
theorem Inv.GP{M:Mo}{o:Kg}(i:Inv X M N)(b:X.now=some o):∃q,M.now=some q/\XG X.T.enc M o q:=by
 have:=i.lk.now;rw[b]at this;cases hm:M.now with
 |none=>rw[hm]at this;exact this.elim
 |some q=>rw[hm]at this;exact⟨q,rfl,this⟩
theorem Inv.se{M:Mo}(i:Inv X M N)(hm:M.now=none):X.now=none:=by
 cases c:X.now with
 |none=>rfl
 |some o=>obtain⟨q,b,_⟩:=i.GP c;rw[hm]at b;cases b
theorem Inv.ub{M:Mo}(i:Inv X M N)(hm:M.now=some q):∃o,X.now=some o/\XG X.T.enc M o q:=by
 cases c:X.now with
 |none=>rw[i.IN c]at hm;cases hm
 |some o=>obtain⟨f,b,d⟩:=i.GP c;rw[hm]at b;cases b;exact⟨o,rfl,d⟩
theorem Inv.ins{M:Mo}{N:Nat}(i:Inv X M N)(a:Int):qH X a↔M.ins a:=by unfold qH Mo.ins;rw[i.lk.E]
theorem Inv.xe{M:Mo}(i:Inv X M N):X.ws.length<=N:=by rw[i.lk.ws];exact i.ok.wl
def Mo.GV(M:Mo)(a:Int):Int×Mo:=if M.now.isSome then (70,M) else if M.ins a then (0,{M with now:=some ⟨[],a,M.marks,M.watched⟩}) else (2,M)
theorem fc{M:Mo}(r:cL S n h rho k X)(i:Inv X M N)(p:N<=68719476736) :
  wp P (oX S (some X.b) a) h λtg vs h'=>tg=0/\vs=[aH (M.GV a).1]/\kL S n k X h rho h' (M.GV a).2 N:=by
 cases g:X.now with
 |some o=>
  obtain⟨q,hm,_⟩:=i.GP g;refine cU _ (λtg vs h' ⟨f,c,d⟩=>?_) (RV (at_:=a) r g);unfold Mo.GV;rw[hm,if_pos (show(some q).isSome=true from rfl),d];exact⟨f,c,kL.ext r i (Ext.refl _)⟩
 |none=>
  have hm:=i.IN g;refine cU _ (λtg vs h' ⟨f,c⟩=>?_) (ax (at_:=a) r g (by have:=i.xe;omega));unfold Mo.GV;rw[hm,if_neg (by decide)];rcases c with⟨c,d,m⟩|⟨c,d,rho',o,B⟩
  .rw[i.ins]at c
   rw[if_neg c];exact⟨f,d,kL.ext r i m⟩
  .rw[i.ins]at c
   rw[if_pos c];have j:=Mo.wS hm;refine⟨f,d,rho',_,B.st,B.r,⟨i.ok.begin hm a,?_⟩,⟨rfl,rfl,rfl,rfl,rfl⟩⟩;refine⟨?_,i.lk.u,i.lk.r,?_,i.lk.ms,i.lk.ws,i.lk.st,i.lk.sv,i.lk.la,i.lk.dp,i.lk.A⟩
   .have:=i.lk.E;rw[j]at this;exact this
   .show XG X.T.enc _ o _
    refine⟨?_,?_,B.bg,?_,B.ch,?_,?_⟩
    .rw[B.sb];have:=i.lk.E;rw[j]at this;exact this
    .rw[B.mv];rfl
    .rw[B.old];exact i.lk.st
    .exact B.ms.trans i.lk.ms
    .rw[B.ws];exact i.lk.ws
theorem Inv.small{M:Mo}(i:Inv X M N)(r:cL S n h rho k X):(dK X.T.cur.ps).length<=X.T.limit:=by
 have b:=AN r.t.cur r.t.enc;have c:=i.ok.gx.2;rw[i.lk.E]at b;omega
theorem im{M:Mo}(b:M.sz<=N):M.ch.length<=N:=by unfold Mo.sz at b;omega
theorem QZ{M:Mo}{x:Sl}(r:cL S n h rho k X)(i:Inv X M N)(hm:M.now=none):wp P (jN S (some X.b) x) h λtg vs h'=>tg=0/\vs=[aH 71]/\kL S n k X h rho h' M N:=by
 refine cU _ (λtg vs h' ⟨c,d,f⟩=>?_) (N5 (x:=x) r (i.se hm));rw[f];exact⟨c,d,kL.ext r i (Ext.refl _)⟩
theorem ZP(I:jM P S){M:Mo}{x:Gp}(r:cL S n h rho k X)(i:Inv X M N)(hm:M.now=some q)(G:∀h',aY (λi=>k<rho i/\rho i<=k+10) h h'->(Sh.list jD).ok h' x)
  (R:∀e,e∈x.2->e.2.2.1.2≠[]->∀a,e.2.2.1.1.aD=some a->rho a.block<=k\/k+10<rho a.block) (Y:N+1+(aU x.2).length<=68719476736) :
  wp P (jN S (some X.b) x.1) h λtg vs h'=>tg=0/\∃e,vs=[aH e]/\KZ X.T.enc X.T.limit (cK X.T.enc X.T.cur.ps) x.2 e/\(e=0↔x.2.length<=70000/\HL X.T.enc X.T.limit M.E x.2) /\
   kL S n k X h rho h' (if e=0 then M.oQ q x.2 else M) (N+1+(aU x.2).length):=by
 obtain⟨o,O,om⟩:=i.ub hm;have C:M.ch=q.kQ:=by unfold Mo.ch;rw[hm];rfl
 have V:o.mv.2.length=q.kQ.length:=by have:=congrArg List.length om.mv;simpa using this
 have H:=im i.ok.sz;rw[C]at H;have hlen:=i.ok.len;have W:=i.lk.A;have hw:=i.vo.w hlen;refine cU _ (λtg vs h' ⟨J,e,rho',c,K,B⟩=>?_) (We I (o:=o) (x:=x) r O G R (by omega) (i.small r) (by rw[i.lk.E];omega) hw.1 hw.2 (by omega));have v:=Ta r.t.enc r.t.cur.bytes B.ref;rw[i.lk.E]at v;refine⟨J,e,K,B.ref,v,rho',c,B.st,B.r,?_,?_⟩
 .have f:=B.len
  by_cases he:e=0
  .rw[if_pos he]
   obtain⟨U,l,g⟩:=B.yes he;have m:=(v.1 he);have j:gS X.T.enc c.T.cur.ps=iI M.E x.2:=by rw[B.gS,if_pos he,i.lk.E]
   have z:=(i.ok.oQ hm m.1 m.2).Y1 (N':=N+1+(aU x.2).length) (by omega);rw[g]at j f⊢;have d:c.T.enc=X.T.enc:=B.nx.enc;have y:c.T.limit=X.T.limit:=B.nx.limit;refine⟨by show gQ c.T.enc c.T.limit _ _;rw[d,y];exact z,?_⟩;refine⟨?_,?_,?_,?_,?_,?_,i.lk.st,i.lk.sv,i.lk.la,i.lk.dp,?_⟩
   .show gS c.T.enc c.T.cur.ps=_
    rw[d,Mo.Yf hm];exact j
   .show mC c.T.enc _ _ _ _;rw[d];exact i.lk.u
   .show mC c.T.enc _ _ _ _;rw[d];exact i.lk.r
   .show XG c.T.enc _ _ _
    rw[d];refine⟨om.eb,?_,om.bg,om.old,?_,om.ms,om.ws⟩
    .show(o.mv.2++[(l,x.2.map dH)]).map (·.2)=(q.kQ++[x.2.map gH]).map nN
     rw[dL,dL,om.mv,Rx,Rx,Ft]
    .show(o.ch || x.2.any oR)=CI (q.kQ++[x.2.map gH])
     rw[om.ch];unfold CI;rw[LW,List.any_cons,List.any_nil,Bool.or_false,Pn]
   .show((Bn (x.2.map dH) X.ms).map kv).Perm (lK (nN x.2) M.marks)
    rw[Uq];exact Nr _ i.lk.ms
   .show kX (x.2.map dH) X.ws=kX (nN x.2) M.watched
    rw[i.lk.ws]
   .dsimp only at f⊢;omega
  .rw[if_neg he]
   have g:=B.no he;have j:gS X.T.enc c.T.cur.ps=M.E:=by rw[B.gS,if_neg he,i.lk.E]
   rw[g]at j f⊢;have d:c.T.enc=X.T.enc:=B.nx.enc;have y:c.T.limit=X.T.limit:=B.nx.limit;have z:=i.ok.Y1 (N':=N+1+(aU x.2).length) (by omega);refine⟨by show gQ c.T.enc c.T.limit _ _;rw[d,y];exact z,?_⟩;refine⟨?_,?_,?_,?_,i.lk.ms,i.lk.ws,i.lk.st,i.lk.sv,i.lk.la,i.lk.dp,?_⟩
   .show gS c.T.enc c.T.cur.ps=_;rw[d];exact j
   .show mC c.T.enc _ _ _ _;rw[d];exact i.lk.u
   .show mC c.T.enc _ _ _ _;rw[d];exact i.lk.r
   .show N1 c.T.enc _ _ _;rw[d];exact i.lk.now
   .dsimp only at f⊢;omega
 .by_cases he:e=0
  .obtain⟨U,l,g⟩:=B.yes he
   exact⟨by rw[g],B.nx.p,B.nx.enc,B.nx.limit,by rw[g]⟩
  .exact⟨by rw[B.no he],B.nx.p,B.nx.enc,B.nx.limit,by rw[B.no he]⟩
theorem ZO{last:Int}:∀{l:List GM} {a:Int},(∀g∈l,a<g.st/\g.st<=last)->(l.Pairwise λx y=>x.st<y.st)->0<=a->a<=last->(l.length:Int)<=last-a
 |[],_,_,_,_,_=>by simp;omega
 |g::l,a,h,p,h0,f=>by
  obtain⟨c,d⟩:=Bh.1 p;have j:=h g (cX ..);have:=ZO (l:=l) (a:=g.st) (λx b=>⟨c x b,(h x (dZ _ b)).2⟩) d (by omega) (by omega);rw[fF];push_cast;omega
theorem EB{enc limit:Int}{M:Mo}(o:gQ enc limit M N):M.all.length<=M.last.toNat:=by
 have:=ZO (last:=M.last) (l:=M.all) (a:=0) o.Bq o.mono (nJ _) o.la;have:=o.la;omega
theorem PR{enc limit:Int}{M:Mo}(o:gQ enc limit M N):M.done.length<=M.last.toNat:=by
 have:=EB o;unfold Mo.all at this;rw[bM,bM]at this;omega
theorem VH{enc limit:Int}{M:Mo}(o:gQ enc limit M N):M.next.length<=M.last.toNat:=by
 have:=EB o;unfold Mo.all at this;rw[bM,bM]at this;omega
def Mo.Og(M:Mo)(a:Int):Int×Mo:=match M.now with
 |none=>(71,M)
 |some q=>if M.ins a then (0,if CI q.kQ then M.aP q a else {M with now:=none}) else (2,M)
theorem ud(C:V8 P S){M:Mo}(r:cL S n h rho k X)(i:Inv X M N)(hN:N<=68719476736) :
  wp P (tR S (some X.b) a) h λtg vs h'=>tg=0/\vs=[aH (M.Og a).1]/\kL S n k X h rho h' (M.Og a).2 (N+1):=by
 have i1:=i.mono (N':=N+1) (Gg _);cases t:X.now with
 |none=>
  have hm:=i.IN t;refine cU _ (λtg vs h' ⟨m,c,f⟩=>?_) (Wf (at_:=a) r t);unfold Mo.Og;rw[hm,f];exact⟨m,c,kL.ext r i1 (Ext.refl _)⟩
 |some o=>
  obtain⟨q,hm,om⟩:=i.GP t;have j:M.ch=q.kQ:=by unfold Mo.ch;rw[hm];rfl
  have H:=i.ok.sz;have G:=i.ok.la;have v:=i.lk.u.len;have W:M.done.length<=N\/True:=.inr trivial;have hd:M.done.length<=M.last.toNat:=PR i.ok;have Y:M.last.toNat<=N:=by unfold Mo.sz at H;omega
  refine cU _ (λtg vs h' ⟨m,c⟩=>?_) (qg C (o:=o) (at_:=a) r t (by rw[i.lk.la];exact G) (by rw[i.lk.la];omega) (by rw[v];omega));unfold Mo.Og;rw[hm];dsimp only;rcases c with⟨c,f,K⟩|⟨c,f,rho',I,st,V,B⟩
  .rw[i.ins]at c
   rw[if_neg c];exact⟨m,f,kL.ext r i1 K⟩
  .rw[i.ins]at c
   rw[if_pos c];refine⟨m,f,rho',I,st,V,?_⟩;cases p:CI q.kQ with
   |false=>
    have z:=B.no (by rw[om.ch,p]);rw[if_neg (by decide),z];have y:M.E=M.C:=by have:=i.ok.Z6;rw[j]at this;unfold Mo.E;rw[j];exact Ir this p
    refine⟨⟨(i1.ok.qx hm p),?_,i.lk.u,i.lk.r,trivial,i.lk.ms,i.lk.ws,i.lk.st,i.lk.sv,i.lk.la,i.lk.dp,i1.lk.A⟩,⟨rfl,rfl,rfl,rfl,rfl⟩⟩;have:=i.lk.E;rw[y]at this;exact this
   |true=>
    obtain⟨g,q',d,z⟩:=B.yes (by rw[om.ch,p]);rw[if_pos rfl,z];have J:XE X.T.enc (iC (iC M.E0 M.lost) M.done) (TA (TA 0 M.lost) M.done) g ⟨q.kQ,q.bg,a,M.last+1⟩:=by
     refine⟨?_,?_,?_,?_,d.en,?_,?_⟩
     .rw[d.sb,om.eb,<-Ax];rfl
     .rw[d.sh,i.lk.E,<-Ax];unfold Mo.E;rw[j];rfl
     .show g.mv.2.map (·.2)=_;rw[d.mv,om.mv]
     .rw[d.bg,om.bg]
     .rw[d.old,om.old,<-Hv];rfl
     .rw[d.fresh,i.lk.la]
    have hu:=i.lk.u.snoc J;have y:(M.aP q a).E=M.E:=by rw[Mo.wS rfl,Mo.Uo hm]
    refine⟨⟨i.ok.aP hm,?_,?_,?_,trivial,i.lk.ms,i.lk.ws,?_,i.lk.sv,?_,i.lk.dp,i1.lk.A⟩,⟨rfl,rfl,rfl,rfl,rfl⟩⟩
    .rw[y];exact i.lk.E
    .show mC X.T.enc (iC M.E0 (M.aP q a).lost) (TA 0 (M.aP q a).lost) (S5 X g) (M.aP q a).done
     unfold S5 Mo.aP;dsimp only;rw[i.lk.dp,v];split
     .revert hu
      cases O:X.U.2++[g] with
      |nil=>intro hu;simp at O
      |cons Z gs=>
       cases R:M.done++[(⟨q.kQ,q.bg,a,M.last+1⟩:GM)] with
       |nil=>simp at R
       |cons m0 ms=>
        intro hu;cases hu with
        |cons c1 c2=>
         show mC X.T.enc (iC M.E0 (M.lost++[m0])) (TA 0 (M.lost++[m0])) gs ms;rw[xM,C4];exact c2
     .exact hu
    .show mC X.T.enc _ _ [] []
     exact .nil _ _
    .rw[Mo.cz,<-i.lk.la]
    .show X.last+1=M.last+1;rw[i.lk.la]
end
section
variable{P:Program}{S:cG}{h:aE}{Q:Nat->bE->aE->Prop}{n k:Nat}{rho:Nat->Nat}{X:Bk}
variable{N:Nat}{name a:Int}
theorem N1.re{enc:Int}{M c:Mo}(d:c.C=M.C)(f:c.st=M.st):∀{a:Option Kg} {b:Option Cy},N1 enc M a b->N1 enc c a b
 |none,none,_=>trivial
 |some o,some q,h=>⟨by rw[d];exact h.eb,h.mv,h.bg,by rw[f];exact h.old,h.ch,h.ms,h.ws⟩
def Mo.DY(M:Mo):Int×Int×Mo:=match M.now with
 |none=>(0,71,M)
 |some q=>(q.bg,0,{M with now:=none,marks:=q.om,watched:=q.ow})
theorem oj(C:V8 P S){M:Mo}(r:cL S n h rho k X)(i:Inv X M N) :
  wp P (qO S (some X.b)) h λtg vs h'=>tg=0/\vs=[aH M.DY.1,aH M.DY.2.1]/\kL S n k X h rho h' M.DY.2.2 N:=by
 cases f:X.now with
 |none=>
  have hm:=i.IN f;refine cU _ (λtg vs h' ⟨g,j,v⟩=>?_) (TQ r f);unfold Mo.DY;rw[hm,v];exact⟨g,j,kL.ext r i (Ext.refl _)⟩
 |some o=>
  obtain⟨q,hm,om⟩:=i.GP f;refine cU _ (λtg vs h' ⟨g,j,rho',c,st,z,nx,m,y⟩=>?_) (jh C (o:=o) r f);unfold Mo.DY;rw[hm];refine⟨g,by rw[j,om.bg],rho',_,st,z,?_,⟨rfl,nx.p,nx.enc,nx.limit,rfl⟩⟩;have d:c.enc=X.T.enc:=nx.enc;have t:c.limit=X.T.limit:=nx.limit;refine⟨by show gQ c.enc c.limit _ _;rw[d,t];exact i.ok.drop hm,?_⟩;refine⟨?_,?_,?_,trivial,om.ms,om.ws,i.lk.st,i.lk.sv,i.lk.la,i.lk.dp,?_⟩
  .show gS c.enc c.cur.ps=_
   rw[d,m];exact om.eb
  .show mC c.enc _ _ _ _;rw[d];exact i.lk.u
  .show mC c.enc _ _ _ _;rw[d];exact i.lk.r
  .show c.A.length<=_;rw[y];exact i.lk.A
def SS:List GM->Option (List GM×GM)
 |[]=>none
 |[g]=>some ([],g)
 |g::l=>(SS l).map λx=>(g::x.1,x.2)
theorem Nf:∀(ds:List GM) (g:GM),SS (ds++[g])=some (ds,g)
 |[],g=>rfl
 |x::ds,g=>by
  have:=Nf ds g;cases ds with
  |nil=>rfl
  |cons y ds=>
   show(SS (y::ds++[g])).map _=_;rw[this];rfl
theorem KO(l:List GM):l=[]\/∃ds g,l=ds++[g]/\SS l=some (ds,g):=by
 rcases LY l with h|⟨ds,g,h⟩
 .exact .inl h
 .rw[Ju]at h
  exact .inr ⟨ds,g,h,by rw[h,Nf]⟩
def Mo.Bf(M:Mo):Int×Int×Mo:=if M.now.isSome then (0,70,M) else match SS M.done with
 |none=>(0,72,M)
 |some (ds,g)=>(g.bg,0,M.back ds g)
def Mo.Ba(M:Mo):Int×Int×Mo:=if M.now.isSome then (0,70,M) else match M.next with
 |[]=>(0,73,M)
 |g::ns=>(g.en,0,M.wO g ns)
theorem PL{M:Mo}{g:GM}(c:M.sz<=N)(b:g∈M.all):g.kQ.length<=N:=by
 have:=xP (λg:GM=>g.kQ.length) b;unfold Mo.sz at c;omega
theorem pf{M:Mo}(r:cL S n h rho k X)(i:Inv X M N)(hN:N<=68719476736) :
  wp P (mO S (some X.b)) h λtg vs h'=>tg=0/\vs=[aH M.Bf.1,aH M.Bf.2.1]/\kL S n k X h rho h' M.Bf.2.2 N:=by
 cases m:X.now with
 |some o=>
  obtain⟨q,hm,_⟩:=i.GP m;refine cU _ (λtg vs h' ⟨t,v,B⟩=>?_) (TT r m);unfold Mo.Bf;rw[hm,if_pos (show(some q).isSome=true from rfl),B];exact⟨t,v,kL.ext r i (Ext.refl _)⟩
 |none=>
  have hm:=i.IN m;rcases KO M.done with c|⟨ds,g,c,O⟩
  .have C:X.U.2=[]:=Aa (by rw[i.lk.u.len,c];rfl)
   refine cU _ (λtg vs h' ⟨t,v,B⟩=>?_) (Wl r m C);unfold Mo.Bf;rw[hm,if_neg (by decide),c,B];exact⟨t,v,kL.ext r i (Ext.refl _)⟩
  .have hu:=i.lk.u
   rw[c]at hu;obtain⟨us,x,C,c1,j⟩:=hu.un;rw[<-Ax,<-Hv]at j;have K:g∈M.all:=by unfold Mo.all;rw[c];simp
   have Z:M.last.toNat<=N:=by have:=i.ok.sz;unfold Mo.sz at this;omega
   have W:=PR i.ok;have al:=VH i.ok;have H:=i.lk.r.len;rw[L2]at H;have Y:=PL i.ok.sz K;have ao:us.length<=M.done.length:=by have:=c1.len;rw[this,c];simp
   have f:HE x=g.kQ.map nN:=j.mv;have ab:x.mv.2.length=g.kQ.length:=by have:=congrArg List.length f;simpa using this
   have y:=i.ok.ly hm c;rw[<-f]at y;refine cU _ (λtg vs h' ⟨t,v,rho',d,u,q,st,V,nx,G,J⟩=>?_) (jn r m C y i.vo (by omega) (by omega) (by omega));unfold Mo.Bf;rw[hm,if_neg (by decide),O];refine⟨t,by rw[v,j.bg],rho',_,st,V,?_,⟨rfl,nx.p,nx.enc,nx.limit,rfl⟩⟩;have z:d.enc=X.T.enc:=nx.enc;have I:d.limit=X.T.limit:=nx.limit;refine⟨by show gQ d.enc d.limit _ _;rw[z,I];exact i.ok.back hm c,?_⟩;refine⟨?_,?_,?_,?_,?_,?_,?_,i.lk.sv,i.lk.la,i.lk.dp,?_⟩
   .show gS d.enc d.cur.ps=(M.back ds g).E
    rw[z,G,Mo.TK hm];exact j.eb
   .show mC d.enc _ _ us ds;rw[z];exact c1
   .show mC d.enc _ _ (X.R.2++[x]).reverse (g::M.next)
    rw[z,List.reverse_append];refine .cons ?_ ?_
    .exact j
    .rw[Mo.jd,<-Mo.XA c]
     have:M.st=g.st:=by unfold Mo.st;rw[c,<-eC,C4]
     rw[<-this];exact i.lk.r
   .show N1 _ _ X.now M.now;rw[m,hm];trivial
   .show((Ja (HE x) X.ms).map kv).Perm (wE (g.kQ.map nN) M.marks)
    rw[VB,f];exact Pa _ i.lk.ms
   .show zG (HE x) X.ws=zG (g.kQ.map nN) M.watched
    rw[f,i.lk.ws]
   .exact j.old
   .show d.A.length<=_;rw[J];exact i.lk.A
theorem p_{M:Mo}(r:cL S n h rho k X)(i:Inv X M N)(hN:N<=68719476736) :
  wp P (mN S (some X.b)) h λtg vs h'=>tg=0/\vs=[aH M.Ba.1,aH M.Ba.2.1]/\kL S n k X h rho h' M.Ba.2.2 N:=by
 cases j:X.now with
 |some o=>
  obtain⟨q,hm,_⟩:=i.GP j;refine cU _ (λtg vs h' ⟨t,v,G⟩=>?_) (TS r j);unfold Mo.Ba;rw[hm,if_pos (show(some q).isSome=true from rfl),G];exact⟨t,v,kL.ext r i (Ext.refl _)⟩
 |none=>
  have hm:=i.IN j;cases f:M.next with
  |nil=>
   have O:X.R.2=[]:=Aa (by have:=i.lk.r.len;rw[f,L2]at this;exact this);refine cU _ (λtg vs h' ⟨t,v,G⟩=>?_) (Wi r j O);unfold Mo.Ba;rw[hm,if_neg (by decide),f,G];exact⟨t,v,kL.ext r i (Ext.refl _)⟩
  |cons g ns=>
   have z:=i.lk.r;rw[f]at z;obtain⟨x,rs,B⟩:∃x rs,X.R.2.reverse=x::rs:=by
    cases W:X.R.2.reverse with
    |nil=>rw[W]at z;cases z
    |cons x rs=>exact⟨x,rs,rfl⟩
   have K:X.R.2=rs.reverse++[x]:=by have:=congrArg List.reverse B;simpa using this
   rw[B]at z;cases z with
   |cons m c1=>
   have V:g∈M.all:=by unfold Mo.all;rw[f];simp
   have al:M.last.toNat<=N:=by have:=i.ok.sz;unfold Mo.sz at this;omega
   have Z:=PR i.ok;have aw:=VH i.ok;have a1:=i.lk.u.len;have ab:=PL i.ok.sz V;have a0:rs.length<=M.next.length:=by have:=c1.len;rw[this,f];simp
   have d:HE x=g.kQ.map nN:=m.mv;have ao:x.mv.2.length=g.kQ.length:=by have:=congrArg List.length d;simpa using this
   have y:=i.ok.lv hm f;rw[<-d]at y;refine cU _ (λtg vs h' ⟨t,v,rho',c,u,q,st,Y,nx,H,J⟩=>?_) (jm (us:=rs.reverse) (g:=x) r j K y i.vo (by omega) (by rw[L2];omega) (by omega));unfold Mo.Ba;rw[hm,if_neg (by decide),f];refine⟨t,by rw[v,m.en],rho',_,st,Y,?_,⟨rfl,nx.p,nx.enc,nx.limit,rfl⟩⟩;have C:c.enc=X.T.enc:=nx.enc;have I:c.limit=X.T.limit:=nx.limit;refine⟨by show gQ c.enc c.limit _ _;rw[C,I];exact i.ok.wO hm f,?_⟩;refine⟨?_,?_,?_,?_,?_,?_,?_,i.lk.sv,i.lk.la,i.lk.dp,?_⟩
   .show gS c.enc c.cur.ps=(M.wO g ns).E
    rw[C,H,Mo.P1 hm];exact m.ee
   .show mC c.enc _ _ (X.U.2++[x]) (M.done++[g])
    rw[C];refine i.lk.u.snoc ?_;rw[<-Ax,<-Hv];exact m
   .show mC c.enc _ _ rs.reverse.reverse ns
    rw[C,List.reverse_reverse,Mo.Vt];have:(M.wO g ns).st=g.st:=by unfold Mo.st Mo.wO;dsimp only;rw[<-eC,C4]
    rw[this];exact c1
   .show N1 _ _ X.now M.now;rw[j,hm];trivial
   .show((GN (HE x) X.ms).map kv).Perm (rB (g.kQ.map nN) M.marks)
    rw[VA,d];exact O9 _ i.lk.ms
   .show rZ (HE x) X.ws=rZ (g.kQ.map nN) M.watched
    rw[d,i.lk.ws]
   .have:(M.wO g ns).st=g.st:=by unfold Mo.st Mo.wO;dsimp only;rw[<-eC,C4]
    rw[this];exact m.fr
   .show c.A.length<=_;rw[J];exact i.lk.A
open Classical in
noncomputable def Mo.Xe(M:Mo)(name a:Int):Int×Mo:=if Qa name then if M.ins a then (0,{M with marks:=pT name a M.marks}) else (2,M) else (74,M)
theorem S7{name a:Int}:∀{l:uK},(l.Pairwise λx y=>x.1<y.1)->(pT name a l).Perm ((name,a)::l.filter λe=>decide (e.1≠name))
 |[],_=>List.Perm.refl _
 |x::l,h=>by
  obtain⟨b,c⟩:=Bh.1 h;have aP:(∀e∈l,e.1≠name)->l.filter (λe=>decide (e.1≠name))=l:=λd=>Rz.2 λe he=>decide_eq_true (d e he);unfold pT;by_cases c1:x.1<name
  .rw[if_pos c1,RA (by simp;omega)]
   exact((S7 c).cons x).trans (List.Perm.swap _ _ _)
  .rw[if_neg c1]
   by_cases c2:x.1=name
   .rw[if_pos c2,List.filter_cons_of_neg (by simp[c2]),aP λe he=>by have:=b e he;omega]
   .rw[if_neg c2,RA (by simp[c2]),aP λe he=>by have:=b e he;omega]
theorem VF{name a:Int}:∀{l:fR},(l.map (·.1)).Nodup->name∈l.map (·.1)->((Fm name a l).map kv).Perm ((name,a)::(l.map kv).filter λe=>decide (e.1≠name))
 |[],_,h=>by cases h
 |x::l,b,h=>by
  simp only[fK,Cl]at b;simp only[Fm,fK];by_cases c:x.1=name
  .rw[if_pos c,fK,List.filter_cons_of_neg (by simp[kv,c])]
   have:(l.map kv).filter (λe=>decide (e.1≠name))=l.map kv:=Rz.2 λe he=>by
    obtain⟨y,d,rfl⟩:=dC.1 he;refine decide_eq_true λe=>b.1 ?_;rw[c,<-e];exact wF (f:=(·.1)) d
   rw[this,<-c]
  .rw[if_neg c,fK,RA (by simp[kv,c])]
   have hm:name∈l.map (·.1):=by
    rcases eJ.1 h with h|h
    .exact absurd h.symm c
    .exact h
   exact((VF b.2 hm).cons (kv x)).trans (List.Perm.swap _ _ _)
theorem dw{l:fR}{c:Nat}(d:(l.map (·.1)).Nodup):((IL name a l c).map kv).Perm ((name,a)::(l.map kv).filter λe=>decide (e.1≠name)):=by
 unfold IL;cases hm:iX name l with
 |some v=>
  rw[if_pos (show(some v).isSome=true from rfl)];obtain⟨b,hb⟩:=(Hg d).1 hm;exact VF d (wF (f:=(·.1)) hb)
 |none=>
  rw[if_neg (by decide)];have g:=Hf.1 hm;have:(l.map kv).filter (λe=>decide (e.1≠name))=l.map kv:=Rz.2 λe he=>by
   obtain⟨y,j,rfl⟩:=dC.1 he;exact decide_eq_true λe=>g (by rw[<-e];exact wF (f:=(·.1)) j)
  rw[this,dL];exact List.perm_append_comm
theorem Xp{M:Mo}(r:cL S n h rho k X)(i:Inv X M N)(p:cR .i64 name)(o:cR .i64 a) :
  wp P (qP S (some X.b) name a) h λtg vs h'=>tg=0/\vs=[aH (M.Xe name a).1]/\kL S n k X h rho h' (M.Xe name a).2 (N+1):=by
 have i1:=i.mono (N':=N+1) (Gg _);have r0:=r.zr (Ext.refl h);have v:cQ k h rho h (Hist.zr h rho):=cQ.mV (Ext.refl h);refine cU _ (λtg vs h' ⟨y,f⟩=>⟨y,?_⟩) (Wk (name:=name) (at_:=a) r0 p o);unfold Mo.Xe;rcases f with⟨f,g,m⟩|⟨f,d,g,m⟩|⟨f,d,g,m,c,G,B⟩
 .rw[if_neg f];exact⟨g,kL.ext r i1 m⟩
 .rw[i.lk.E]at d
  have d:¬M.ins a:=d;rw[if_pos f,if_neg d];exact⟨g,kL.ext r i1 m⟩
 .rw[i.lk.E]at d
  have d:M.ins a:=d;rw[if_pos f,if_pos d];refine⟨g,_,_,v.trans (cQ.of m (λj t e=>?_) λj t _=>qA t),B,⟨i.ok.f_ f d,i.lk.E,i.lk.u,i.lk.r,N1.re (by exact rfl) (by exact rfl) i.lk.now,?_,i.lk.ws,i.lk.st,i.lk.sv,i.lk.la,i.lk.dp,i1.lk.A⟩,⟨rfl,rfl,rfl,rfl,rfl⟩⟩
  .rw[e,r0.rm];omega
  .obtain⟨C,z⟩:=r.mp.ok
   refine(dw z.keys).trans (List.Perm.trans ?_ (S7 i.ok.so).symm);exact(i.lk.ms.filter _).cons _
def BU(name:Int):uK->Option Int
 |[]=>none
 |e::l=>if e.1=name then some e.2 else BU name l
theorem MG{name v:Int}:∀{l:uK},(l.Pairwise λx y=>x.1<y.1)->(BU name l=some v↔(name,v)∈l)
 |[],_=>by simp[BU]
 |x::l,h=>by
  obtain⟨b,d⟩:=Bh.1 h;unfold BU;by_cases c:x.1=name
  .rw[if_pos c]
   constructor
   .intro e;cases e;rw[<-c];exact cX ..
   .intro e
    rcases eJ.1 e with e|e
    .rw[<-e]
    .have:=b _ e;dsimp only at this;omega
  .rw[if_neg c,MG d]
   constructor
   .exact dZ _
   .intro e
    rcases eJ.1 e with e|e
    .rw[<-e]at c;exact absurd rfl c
    .exact e
def Mo.Em(M:Mo)(name:Int):Int×Int:=match BU name M.marks with
 |none=>(0,74)
 |some v=>(v,0)
theorem Inv.find{M:Mo}(r:cL S n h rho k X)(i:Inv X M N)(name:Int):iX name X.ms=BU name M.marks:=by
 obtain⟨c,g⟩:=r.mp.ok;have key:∀v,iX name X.ms=some v↔BU name M.marks=some v:=λv=>by
  rw[Hg g.keys,MG i.ok.so,<-i.lk.ms.mem_iff];constructor
  .rintro⟨b,hb⟩;exact dC.2 ⟨_,hb,rfl⟩
  .intro d
   obtain⟨⟨j,m,o⟩,f,e⟩:=dC.1 d;cases e;exact⟨_,f⟩
 cases d:iX name X.ms with
 |none=>
  cases f:BU name M.marks with
  |none=>rfl
  |some v=>rw[(key v).2 f]at d;cases d
 |some v=>rw[(key v).1 d]
theorem ov{M:Mo}(r:cL S n h rho k X)(i:Inv X M N):aS P (yK S (some X.b) name) [tI, tI] h λ(y:Int×Int×Unit) _=>y.1=(M.Em name).1/\y.2.1=(M.Em name).2:=by
 refine(jj (name:=name) r).mono λy h' e f=>?_;unfold Mo.Em;rw[i.find r]at f;rcases f with⟨c,d,g⟩|⟨c,d⟩
 .rw[c];exact⟨d,g⟩
 .rw[c];exact⟨rfl,d⟩
instance (M:Mo) (l:aW):Decidable (∀v∈l,M.ins v):=inferInstance
def Mo.J4(M:Mo)(l:aW):Int×Mo:=if ∀v∈l,M.ins v then (0,{M with watched:=l}) else (2,M)
theorem fh{M:Mo}{s:Sl}{l:aW}(r:cL S n h rho k X)(i:Inv X M N)(m:kB .i64 h s l)(j:l.length<=1099511627776) :
  wp P (uQ S (some X.b) s) h λtg vs h'=>tg=0/\vs=[aH (M.J4 l).1]/\kL S n k X h rho h' (M.J4 l).2 (N+l.length):=by
 have i1:=i.mono (N':=N+l.length) (DS _ _);refine cU _ (λtg vs h' ⟨g,c⟩=>⟨g,?_⟩) (bh r m j);unfold Mo.J4;have he:(∀v∈l,qH X v)↔∀v∈l,M.ins v:=forall_congr' λv=>forall_congr' λ_=>i.ins v;rw[he]at c;rcases c with⟨c,d,f⟩|⟨c,d,f,rho',p,st,o⟩
 .rw[if_neg c];exact⟨d,kL.ext r i1 f⟩
 .rw[if_pos c]
  exact⟨d,rho',_,st,o,⟨i.ok.watch c,i.lk.E,i.lk.u,i.lk.r,N1.re (by exact rfl) (by exact rfl) i.lk.now,i.lk.ms,rfl,i.lk.st,i.lk.sv,i.lk.la,i.lk.dp,i1.lk.A⟩,⟨rfl,rfl,rfl,rfl,rfl⟩⟩
theorem fg{M:Mo}(r:cL S n h rho k X)(i:Inv X M N):wp P (uP S (some X.b)) h λtg vs h'=>tg=0/\vs=[]/\kL S n k X h rho h' M.save N:=by
 have r0:=r.zr (Ext.refl h);have p:cQ k h rho h (Hist.zr h rho):=cQ.mV (Ext.refl h);refine cU _ (λtg vs h' ⟨t,v,x,y,z⟩=>⟨t,by rw[y];rfl,_,_,p.trans (cQ.of v (λj g e=>?_) λj g _=>qA g),z,?_⟩) (bc r0)
 .rw[e,r0.rb];omega
 .have hb:(DF X).now=X.now:=by unfold DF;split<;>rfl
  cases c:X.now with
  |none=>
   have hm:=i.IN c;have d:DF X={X with saved:=X.state}:=by unfold DF;rw[c];rfl
   have f:M.save={M with saved:=M.st}:=by unfold Mo.save;rw[hm];rfl
   have m:=i.ok.save;rw[f]at m⊢;rw[d];exact⟨⟨m,i.lk.E,i.lk.u,i.lk.r,N1.re (by exact rfl) (by exact rfl) i.lk.now,i.lk.ms,i.lk.ws,i.lk.st,i.lk.st,i.lk.la,i.lk.dp,i.lk.A⟩,⟨rfl,rfl,rfl,rfl,rfl⟩⟩
  |some o=>
   obtain⟨q,hm,_⟩:=i.GP c;have d:DF X=X:=by unfold DF;rw[c];rfl
   have f:M.save=M:=by unfold Mo.save;rw[hm];rfl
   rw[d,f];exact⟨i,Sm.refl X⟩
theorem fe{M:Mo}(r:cL S n h rho k X)(i:Inv X M N):aS P (uN S (some X.b)) [tI, tI] h λ(y:Int×Int×Unit) _=>y.1=M.done.length/\y.2.1=M.next.length:=by
 refine(ay r).mono λy h' e d=>?_;have f:=i.lk.u.len;have c:=i.lk.r.len;rw[L2]at c;rw[f,c]at d;exact d
def Mo.DX(M:Mo):Bool:=decide (M.st≠M.saved) || (M.now.map λq=>CI q.kQ).getD false
theorem ff{M:Mo}(r:cL S n h rho k X)(i:Inv X M N):aS P (uO S (some X.b)) [tB] h λ(y:Bool×Unit) _=>y.1=M.DX:=by
 refine(b_ r).mono λy h' e d=>?_;rw[d];unfold G1 Mo.DX;rw[i.lk.st,i.lk.sv]
 congr 1
 cases c:X.now with
 |none=>rw[i.IN c];rfl
 |some o=>obtain⟨q,hm,om⟩:=i.GP c;rw[hm];exact om.ch
theorem ZQ{M:Mo}(r:cL S n h rho k X)(i:Inv X M N):aS P (sN S (some X.b)) [tB] h λ(y:Bool×Unit) _=>y.1=M.now.isSome:=by
 refine(XS r).mono λy h' e d=>?_;rw[d];cases c:X.now with
 |none=>rw[i.IN c];rfl
 |some o=>obtain⟨q,hm,om⟩:=i.GP c;rw[hm];rfl
theorem Xq{M:Mo}(r:cL S n h rho k X)(i:Inv X M N)(d:N<=68719476736):aS P (qQ S (some X.b)) [tS] h λ(y:Sl×Unit) h'=>bR h.size .i64 h' y.1 M.watched:=by
 refine(Wm r (by have:=i.xe;omega)).mono λy h' e c=>?_;rw[<-i.lk.ws];exact c
end
section
variable{P:Program}{S:cG}{h:aE}{Q:Nat->bE->aE->Prop}{n k:Nat}{rho:Nat->Nat}{X:Bk}
theorem VJ{w:Sl}{l:aW}(o:kB .i64 h w l):(Sh.list (.int .i64)).ok h ((w,l):Sl×aW):=by
 refine⟨o.len,o.cap,o.max,λi y hi=>?_⟩;obtain⟨a,ha,c⟩:=o.rd.2 i (.int .i64 y) (by rw[fX,hi];rfl);refine⟨a,ha,aI.2 λj v b=>?_,o.wf y (eL hi)⟩;cases j with
 |zero=>
  simp[Sh.cells]at b;subst b;simpa[Sh.size,add_zero'] using c
 |succ j=>simp[Sh.cells]at b
theorem GX{a:Int}:aS P (gI S a) [tI] h λ(y:Int×Unit) _=>y.1=a:=by
 unfold gI aS;exact aC ⟨rfl,Ext.refl _,(a,()),rfl,rfl⟩
def Mo.mid(M:Mo)(cs:List (List gY))(bg:Int):Mo:={M with now:=some ⟨cs,bg,M.marks,M.watched⟩,marks:=rB (cs.map nN) M.marks,watched:=rZ (cs.map nN) M.watched}
theorem UB(l:List (List mE))(m:List mE)(ms:uK):rB (l++[m]) ms=lK m (rB l ms):=by simp[rB]
theorem UC(l:List (List mE))(m:List mE)(ms:aW):rZ (l++[m]) ms=kX m (rZ l ms):=by simp[rZ]
end
section
variable{P:Program}{S:cG}{h:aE}{Q:Nat->bE->aE->Prop}{n k:Nat}{rho:Nat->Nat}{X:Bk}
end
section
variable{P:Program}{S:cG}{h:aE}{Q:Nat->bE->aE->Prop}{n k:Nat}{rho:Nat->Nat}{X:Bk}
def Mo.new(E:List El)(depth:Int):Mo:={E0:=E,depth:=depth,lost:=[],done:=[],next:=[],now:=none,marks:=[],watched:=[],saved:=0,last:=0}
theorem dz{depth:Int}{T:TX}(t:eM S n h T)(b:iz depth T X)(A:T.A=[])(hb:(dK T.cur.ps).length<=T.limit)(r:1<=depth/\depth<=200):Inv X (Mo.new (gS T.enc T.cur.ps) depth) 0:=by
 have c:=b.T;have j:=AN t.cur t.enc;have m:=(F9 t.enc t.cur.bytes).2.2;have B:L9 T.enc T.limit (gS T.enc T.cur.ps):=⟨m,by rw[j];omega⟩;have d:=t.Bp;refine⟨?_,?_⟩
 .rw[c]
  exact⟨t.enc,d,r,B,trivial,trivial,nJ _,λg u=>(by cases u),List.Pairwise.nil,λe he=>(by cases he),List.Pairwise.nil,bL _,λv z=>(by cases z),bL _,λq f=>(by cases f),bL _,λk y=>(by cases y),λq f=>(by cases f)⟩
 .have p:=b.U;have o:=b.R
  refine⟨by rw[c];rfl,?_,?_,?_,?_,b.ws,b.Bq.1,b.Bq.2.1,b.Bq.2.2,b.depth,by rw[c,A];exact cS _⟩
  .rw[p];exact .nil _ _
  .rw[o];exact .nil _ _
  .rw[b.now];trivial
  .rw[b.ms];exact List.Perm.refl _
abbrev XB:=Sl×List Gp
abbrev AJ:Sh:=.list (.list jD)
theorem NA{x:XB}{y:Gp}{i:Nat}{K:Sl->aK}(ok:AJ.ok h x)(b:x.2[i]?=some y)(d:wp P (K y.1) h Q) :
  wp P (bD (bN (aJ x.1.aD) (eV (i:Int) x.1.len))<|.load (tS) (aB x.1.aD (bB (bP (i:Int)) 1)) K) h Q:=by
 obtain⟨o1,o2,j,f⟩:=ok;obtain⟨a,ea,c,_⟩:=f i y b;have g:=(eK.1 b).1;refine aL (fD.2 ⟨by rw[ea];rfl,lR.2 ⟨by omega,by omega⟩⟩) ?_;rw[gX,eR,cN,ea];exact aX (a.add (i*1)) y.1 rfl (by have:=aI.1 c 0 _ rfl;rw[add_zero']at this;exact this) d
end
section
variable{P:Program}{S:cG}{h:aE}{Q:Nat->bE->aE->Prop}{n k:Nat}{rho:Nat->Nat}{X:Bk}
structure RL where
 n:Nat
 h0:aE
 b:Addr
 p:Addr
 enc:Int
 limit:Int
 K:(Nat->Nat)->aE->Prop
 ks:∀rho h rho' h',cQ 0 h rho h' rho'->K rho h->K rho' h'
def RL.one(n:Nat)(h0:aE)(b p:Addr)(enc limit:Int):RL:=⟨n,h0,b,p,enc,limit,λ_ _=>True,λ_ _ _ _ _ _=>trivial⟩
def RL.add(w:RL)(K:(Nat->Nat)->aE->Prop)(ks:∀rho h rho' h',cQ 0 h rho h' rho'->K rho h->K rho' h'):RL:={w with K:=λrho h=>w.K rho h/\K rho h,ks:=λrho h rho' h' st k=>⟨w.ks _ _ _ _ st k.1,ks _ _ _ _ st k.2⟩}
variable{w:RL}{M:Mo}{N:Nat}
def ug(enc:Int)(W:Nat):List El->List GM->Prop
 |E,[]=>kJ enc E<=W
 |E,g::l=>kJ enc E<=W/\ug enc W (kU E g.kQ) l
end
section
variable{P:Program}{S:cG}{h:aE}{Q:Nat->bE->aE->Prop}{w:RL}{M:Mo}{N:Nat}
structure xw(full:List GM)(gone:Nat)(M:Mo):Prop where
 now:M.now=none
 lost:M.lost=[]
 done:M.done=full.take (full.length-gone)
 next:M.next=full.drop (full.length-gone)
 sv:M.saved=TA 0 (full.take (full.length-1))
 le:gone<=full.length
structure xh(w:RL)(i W:Nat)(M:Mo):Prop where
 now:M.now=none
 saved:M.saved=0
 lost:M.lost=[]
 next:M.next=[]
 len:M.done.length<=i
 wt:ug w.enc W M.E0 M.all
end
section
def uw(E:List El):Prop:=((E.filter tg).map (·.2)).Nodup
structure xf(t:Int)(E:List El)(m v:Int):Prop where
 u:uw E
 ml:0<=m/\m<=E.length
 at_:(∃(j:Nat) (x:El),E[j]?=some x/\x.2=t/\v=j/\m=j)\/((∀x∈E,x.2≠t)/\v = -1)
structure xg(t:Int)(E:List El)(ms:uK)(ws:aW):Prop where
 ex:∃m v,xf t E m v/\ms=[(60,m)]/\ws=[v,(E.length:Int)]
end
section
variable{P:Program}{S:cG}{h:aE}{Q:Nat->bE->aE->Prop}{w:RL}{M:Mo}{N:Nat}
theorem R6(E:List El):Ob E 0 E.length=E:=by
 unfold Ob;rw[show(min (E.length:Int) E.length).toNat=E.length by omega,fA];rfl
end
section
variable{P:Program}{S:cG}{h:aE}{Q:Nat->bE->aE->Prop}{w:RL}{M:Mo}{N:Nat}
theorem EE{a b:Sl}{l m:aW}(ha:kB .i64 h a l)(hb:kB .i64 h b m):aS P (iU S a b) [tB] h λ(x:Bool×Unit) _=>x.1=decide (l=m):=by
 have d:=ha.len;have g:=hb.len;have p:=ha.bound;unfold iU aS;refine aG (λc=>?_) λc=>?_
 .rw[lB,aN,aN,d,g]at c
  refine aC ⟨rfl,Ext.refl h,(_,()),rfl,?_⟩;have:l≠m:=λe=>c (by rw[e]);show Bool.false=_;simp[this]
 rw[lX,aN,aN,d,g]at c;refine bO (λ(s:Int×Unit) h'=>h'=h/\0<=s.1/\s.1<=l.length/\l.take s.1.toNat=m.take s.1.toNat) (λs _=>l.length-s.1.toNat)
  (λt vs h'=>h'=h/\(t=2/\vs=[]/\l=m\/t=1/\vs=[.bool Bool.false]/\l≠m)) ⟨rfl,by simp,by simp,by simp⟩ ?_ ?_
 .rintro⟨(i:Int),u⟩ h' ⟨rfl,h0,o,ht⟩
  dsimp only at h0 o ht⊢;refine aG (λc=>?_) λc=>?_
  .rw[aV,aN,d]at c
   refine qM ha h0 (by omega) λ_=>qM hb h0 (by omega) λ_=>aG (λf=>?_) λf=>?_
   .rw[lB]at f
    exact aC ⟨λh=>absurd h (by decide),λ_=>⟨rfl, .inr ⟨rfl,rfl,λe=>f (by rw[e])⟩⟩⟩
   .rw[lX]at f
    rw[bG (by omega) (by omega)];refine aC ⟨λ_=>⟨(i+1,()),rfl,⟨rfl,by dsimp only;omega,by dsimp only;omega,?_⟩,by dsimp only;omega⟩,λh=>absurd rfl h⟩;dsimp only;rw[show(i+1).toNat=i.toNat+1 by omega];exact I7 (by omega) (by omega) ht f
  .rw[aZ,aN,d]at c
   refine aC ⟨λh=>absurd h (by decide),λ_=>⟨rfl, .inl ⟨rfl,rfl,?_⟩⟩⟩
   rwa [iF (by omega),iF (by omega)]at ht
 .rintro t vs h' ⟨rfl,⟨ht,j,e⟩|⟨ht,j,e⟩⟩
  .exact pX ht () j ⟨rfl,Ext.refl _,(_,()),rfl,by show Bool.true=_;simp[e]⟩
  .exact pY (by omega) (pX ht (Bool.false,()) j ⟨rfl,Ext.refl _,(_,()),rfl,by show Bool.false=_;simp[e]⟩)
abbrev Gm(e:Int×Int):bE:=[aH e.1,aH e.2]
abbrev C9(n:Nat)(h:aE)(s:Sl)(l:uK):Prop:=cC n 2 h s (l.flatMap Gm)
theorem QM(l:uK):(l.flatMap Gm).length=l.length*2:=by
 induction l with
 |nil=>rfl
 |cons e l b=>rw[fY,bM,b,fF];simp only[fF,LS];omega
theorem C9.len{n:Nat}{s:Sl}{l:uK}(o:C9 n h s l):s.len=l.length:=by have:=o.1;rw[QM]at this;omega
abbrev wm:=Sl×Sl×Sl×Sl×Int×Int×Bool×Bool×Unit
structure uv where
 E:List El
 ws:aW
 ms:uK
 un:Nat
 re:Nat
 di:Bool
 op:Bool
def Mo.look(M:Mo):uv:=⟨M.E,M.watched,M.marks,M.done.length,M.next.length,M.DX,M.now.isSome⟩
structure wo(m:Nat)(h:aE)(y:wm)(k:uv):Prop where
 xx:bR m .i64 h y.1 (k.E.map (·.1))
 tag:bR m .i64 h y.2.1 (k.E.map (·.2))
 x7:bR m .i64 h y.2.2.1 k.ws
 xz:C9 m h y.2.2.2.1 k.ms
 x6:y.2.2.2.2.1=k.un
 red:y.2.2.2.2.2.1=k.re
 dir:y.2.2.2.2.2.2.1=k.di
 x4:y.2.2.2.2.2.2.2.1=k.op
theorem B3{bs:List B}{a:Addr}{n m c:Nat}{vs:bE}(x:Bs.den bs){K:Bs.den bs->aK}(o:cC n 1 h ⟨some a,m,c⟩ vs)(d:Bs.inj bs x=vs)(b:wp P (K x) h Q):wp P (.load (.agg bs) (some a) K) h Q:=
 ⟨a,rfl,x,by show Cells h a (Bs.inj bs x);rw[d];exact o.cells,b⟩
end
section
variable{P:Program}{S:cG}{h:aE}{Q:Nat->bE->aE->Prop}
variable{l:uK}{i:Nat}
structure xv(P:Program)(S:cG):Prop where
 cmp:∀(x y:Int×Int×Unit),ZY P (.func (.func S.AX) #[] #[]) [.agg #[aH x.1,aH x.2.1], .agg #[aH y.1,aH y.2.1]] (L6 S x y)
abbrev iE(s:Sl)(i:Nat):Prop:=∃a,s.aD=some a/\a.block=i
abbrev el(l:uK)(i:Nat):Int×Int:=l.getD i (0,0)
abbrev ky(l:uK)(i:Nat):Int:=(el l i).1
theorem OU(hi:i<l.length):l[i]?=some (el l i):=by simp[List.getD,cM hi]
theorem Zg{j:Nat}(hi:i<l.length)(c:j<2):(l.flatMap Gm)[i*2+j]?=(Gm (el l i))[j]? := by
 have f:l=l.take i++(el l i::l.drop (i+1)):=by
  have b:el l i=l[i]:=by simp[List.getD,cM hi]
  rw[b,<-gK hi,eX]
 have d:((l.take i).flatMap Gm).length=i*2:=by rw[QM,dJ];omega
 conv=>lhs;rw[f]
 rw[hQ,fY,jK (by omega),d,show i*2+j-i*2=j by omega,lV (by simpa using c)]
theorem C9.aD{n:Nat}{s:Sl}{l:uK}(o:C9 n h s l)(f:0<l.length):aJ s.aD=true:=by
 cases hb:s.aD with
 |none=>
  have b:=o.2.2.2;rw[hb]at b;have c:=o.2.1;have d:=C9.len o;dsimp only at b;omega
 |some a=>rfl
theorem i_{n:Nat}{s:Sl}{x:Int}{K:Int×Int×Unit->aK}(o:C9 n h s l)(m:x=(i:Int))(hi:i<l.length)(g:wp P (K ((el l i).1,(el l i).2,())) h Q) :
  wp P (bD (bN (aJ s.aD) (eV x s.len))<|.load (.agg [.int .i64, .int .i64]) (aB s.aD (bB (bP x) 2)) K) h Q:=by
 subst m;have hlen:=C9.len o;refine aL (fD.2 ⟨C9.aD o (by omega),lR.2 ⟨by omega,by omega⟩⟩) ?_;obtain⟨a,ea,_⟩:=o.rd.2 (i*2+0) (aH (el l i).1) (by rw[Zg hi (by decide)];rfl);refine⟨a.add (i*2),by rw[ea,gX,eR,cN];rfl,((el l i).1,(el l i).2,()),aI.2 λj v c=>?_,g⟩;have d:j<2:=(eK.1 c).1;obtain⟨b,eb,f⟩:=o.rd.2 (i*2+j) v (by rw[Zg hi d];exact c);rw[ea]at eb;cases eb;rw[add_add];exact f
structure Sg(a b:Nat)(l l':uK):Prop where
 perm:l'.Perm l
 out:∀i,i<a\/b<=i->el l' i=el l i
def wq(a b:Nat)(l:uK):Prop:=∀i j,a<=i->i<j->j<b->ky l i<=ky l j
end
section
variable{P:Program}{S:cG}{h:aE}{Q:Nat->bE->aE->Prop}
end
section
variable{P:Program}{S:cG}{h:aE}{Q:Nat->bE->aE->Prop}
end
section
variable{P:Program}{S:cG}{h:aE}{Q:Nat->bE->aE->Prop}
end
section
variable{P:Program}{S:cG}{h:aE}{Q:Nat->bE->aE->Prop}
def xj(a b:Nat)(l:uK):Prop:=a=0\/∀i,a<=i->i<b->ky l (a-1)<ky l i
structure Rest(a b a' b':Nat)(l:uK):Prop where
 ha:a<=a'
 K4:a'<=b'
 hb:b'<=b
 s1:wq a a' l
 s2:wq b' b l
 lo:∀i j,a<=i->i<a'->a'<=j->j<b->ky l i<=ky l j
 hi:∀i j,a<=i->i<b'->b'<=j->j<b->ky l i<=ky l j
 pre:xj a' b' l
end
section
variable{P:Program}{S:cG}{h:aE}{Q:Nat->bE->aE->Prop}
end
section
variable{P:Program}{S:cG}{h:aE}{Q:Nat->bE->aE->Prop}{w:RL}{M:Mo}{N:Nat}
end
section
variable{P:Program}{S:cG}{h:aE}{Q:Nat->bE->aE->Prop}{w:RL}{M:Mo}{N:Nat}
variable{l:aW}
theorem CA(l:List UInt8):(ByteArray.mk l.toArray).toList=l:=by rw[ByteArray.toList_eq]
def Z7(l:aW):List UInt8:=l.map λx=>UInt8.ofNat x.toNat
theorem NN(h:∀x,x∈l->cR .u8 x):(Z7 l).map (λb=>Value.int .u8 b.toNat)=l.map (.int .u8):=by
 induction l with
 |nil=>rfl
 |cons x l d=>
  have f:=vV.1 (h x (cX ..));have:=d λy c=>h y (dZ _ c);simp only[Z7,fK,sL]at this⊢;rw[this]
  congr 2
  simp only[UInt8.toNat_ofNat'];omega
theorem fb{m:aW}(h:∀x,x∈l->cR .u8 x)(h':∀x,x∈m->cR .u8 x)(e:Z7 l=Z7 m):l=m:=by
 have:=congrArg (List.map λb:UInt8=>Value.int .u8 b.toNat) e;rw[NN h,NN h']at this;exact List.map_inj_right (f:=Value.int .u8) (λx y e=>by injection e) |>.1 this
theorem VO{x:Sl}{K:ByteArray->aK}(b:kB .u8 h x l)(c:wp P (K ⟨(Z7 l).toArray⟩) h Q):wp P (.bytes x K) h Q:=by
 refine⟨Z7 l,?_,c⟩;rw[NN b.wf];have:=Rd.G5 b.rd;simpa using this
theorem kc{m:aW}(h:∀x,x∈l->cR .u8 x)(h':∀x,x∈m->cR .u8 x):WG ⟨(Z7 l).toArray⟩ ⟨(Z7 m).toArray⟩=decide (l=m):=by
 unfold WG;rw[CA,CA];by_cases e:l=m
 .subst e;simp
 .have:Z7 l≠Z7 m:=λb=>e (fb h h' b)
  simp[e,this]
structure Gw(w:RL)(E0:List El)(i W:Nat)(l:List (wm×uv))(M:Mo):Prop where
 now:M.now=none
 saved:M.saved=0
 lost:M.lost=[]
 next:M.next=[]
 dep:M.depth=200
 len:M.done.length<=i
 pos:1<=i->1<=M.done.length
 wt:ug w.enc W M.E0 M.all
 e0:M.E0=E0
 ll:l.length=M.done.length+1
 lk:∀j y,l[j]?=some y->y.2.E=iC E0 (M.done.take j)
structure wi(E0:List El)(full:List GM)(gone:Nat)(M:Mo):Prop where
 now:M.now=none
 lost:M.lost=[]
 saved:M.saved=0
 e0:M.E0=E0
 done:M.done=full.take (full.length-gone)
 next:M.next=full.drop (full.length-gone)
 le:gone<=full.length
theorem wi.E{E0:List El}{full:List GM}{gone:Nat}(u:wi E0 full gone M):M.E=iC E0 (full.take (full.length-gone)):=by
 rw[Mo.wS u.now];unfold Mo.C;rw[u.lost,u.e0,u.done];rfl
theorem O6{m:Nat}{xs:XB}(o:cC m 1 h xs.1 (xs.2.map λy=>dG y.1))(he:∀y∈xs.2,(Sh.list jD).ok h y):AJ.ok h xs:=by
 have d:=o.1;rw[cD]at d;refine⟨by omega,o.2.1,o.2.2.1,λi y hi=>?_⟩;obtain⟨a,ea,c⟩:=o.rd.2 i (dG y.1) (by rw[fX,hi];rfl);refine⟨a,ea,aI.2 λj v b=>?_,he y (eL hi)⟩;cases j with
 |zero=>
  simp[Sh.cells]at b;subst b;simpa[Sh.size,add_zero'] using c
 |succ j=>simp[Sh.cells]at b
end
section
variable{P:Program}{S:cG}{h:aE}{Q:Nat->bE->aE->Prop}{w:RL}{M:Mo}{N:Nat}
end
section
variable{P:Program}{S:cG}{h:aE}{Q:Nat->bE->aE->Prop}{w:RL}{M:Mo}{N:Nat}
structure Dr(w:RL)(W:Nat)(M:Mo):Prop where
 now:M.now=none
 wt:ug w.enc W M.E0 M.all
end
section
variable{P:Program}{S:cG}{h:aE}{Q:Nat->bE->aE->Prop}{w:RL}{M:Mo}{N:Nat}
end
end Go.Sw.Hist
namespace Go.Sw.Piece
open Go.Sw.Any Go.Sw.Codec
open Go.Sw.Tree (iv fL jI jW nE pD kT sG kP dV lA)
section
variable{P:Program}{S:cG}{h:aE}{Q:Nat->bE->aE->Prop}
variable{x:Sl}{h':aE}
abbrev B9(b:Nat):Addr:=⟨b,0,none⟩
structure RI(h0:aE)(n a:Nat)(enc limit:Int)(h:aE)(sA sT:Sl)(LA LT:aW):Prop where
 k:Ext h0 h
 o:cC h0.size 1 h ⟨some (B9 a),5,5⟩ [aH enc,aH limit,dG sA,dG sT, .slice none 0 0]
 la:bR n .i64 h sA LA
 lt:bR n .i64 h sT LT
 ne:∀a b,sA.aD=some a->sT.aD=some b->a.block≠b.block
 an:a<n
 nh:n<=h.size
variable{h0:aE}{n a:Nat}{enc limit:Int}{sA sT:Sl}{LA LT:aW}
theorem RI.ext{h':aE}(g:RI h0 n a enc limit h sA sT LA LT)(e:Ext h h'):RI h0 n a enc limit h' sA sT LA LT:=
 ⟨g.k.trans e,g.o.ext e,g.la.ext e,g.lt.ext e,g.ne,g.an,dI g.nh e.size⟩
theorem n_{m:aW}{K:aK}(g:RI h0 n a enc limit h sA sT LA LT)(H:kB .i64 h x m)(W:LA.length+m.length<=1099511627776)
  (G:∀h' O,RI h0 n a enc limit h' O sT (LA++m) LT->wp P K h' Q):wp P (.append 1 8 [.int .i64 0] sA x λr=>.store (aB (some (B9 a)) 2) [dG r] K) h Q:=by
 have B:=λb (ha:sA.aD=some b)=>g.la.own.lt ha;have t:=λb (ha:sT.aD=some b)=>g.lt.own.lt ha;have an:=g.an;have nh:=g.nh;have T:h0.size<=a:=(g.o.lt rfl).1;refine uJ g.la g.nh H (by omega) (by omega) λr U k1 o1 R A _=>?_;have J:=g.o.aP λb hb=>by cases hb;exact k1.2.1 _ an
 refine eW (dG r) J (by simp) rfl λu o2 z=>?_;have v:∀b,r.aD=some b->n<=b.block/\((∃c,sA.aD=some c/\c.block=b.block)\/h.size<=b.block):=λb hb=>⟨(o1.own.lt hb).1,(A b hb).imp (λh=>⟨b,h,rfl⟩) id⟩;have p:aY (λi=>i=a\/∃b,sA.aD=some b/\b.block=i) h u:=((aY.dP (F:=λi=>∃b,sA.aD=some b/\b.block=i) R λy I _=>⟨y,I,rfl⟩).mono λi _ x=>.inr x).trans ((pH z).mono λi _ (x:i=a)=>.inl x) λi _ x=>x;refine G u r ⟨gG.trans g.k (p.aP g.k.size λi hi f=>?_),o2,o1.GS z λb c hb j=>by cases j;have:=(v b hb).1;show a≠_;omega,p.pW g.lt λb hb f=>?_,λb c hb j=>?_,an,dI nh p.1⟩
 .rcases f with f|⟨b,hb,f⟩
  .omega
  .have:=(B b hb).1;omega
 .rcases f with f|⟨c,j,f⟩
  .have:=(t b hb).1;omega
  .exact g.ne c b j hb f
 .rcases(v b hb).2 with⟨d,E,C⟩|V
  .rw[<-C];exact g.ne d c E j
  .have:=(t c j).2;omega
theorem ng{m:aW}{K:aK}(g:RI h0 n a enc limit h sA sT LA LT)(H:kB .i64 h x m)(W:LT.length+m.length<=1099511627776)
  (G:∀h' O,RI h0 n a enc limit h' sA O LA (LT++m)->wp P K h' Q):wp P (.append 1 8 [.int .i64 0] sT x λr=>.store (aB (some (B9 a)) 3) [dG r] K) h Q:=by
 have t:=λb (ha:sA.aD=some b)=>g.la.own.lt ha;have B:=λb (ha:sT.aD=some b)=>g.lt.own.lt ha;have an:=g.an;have nh:=g.nh;have T:h0.size<=a:=(g.o.lt rfl).1;refine uJ g.lt g.nh H (by omega) (by omega) λr U k1 o1 R A _=>?_;have J:=g.o.aP λb hb=>by cases hb;exact k1.2.1 _ an
 refine eW (dG r) J (by simp) rfl λu o2 z=>?_;have v:∀b,r.aD=some b->n<=b.block/\((∃c,sT.aD=some c/\c.block=b.block)\/h.size<=b.block):=λb hb=>⟨(o1.own.lt hb).1,(A b hb).imp (λh=>⟨b,h,rfl⟩) id⟩;have j:aY (λi=>i=a\/∃b,sT.aD=some b/\b.block=i) h u:=((aY.dP (F:=λi=>∃b,sT.aD=some b/\b.block=i) R λy I _=>⟨y,I,rfl⟩).mono λi _ x=>.inr x).trans ((pH z).mono λi _ (x:i=a)=>.inl x) λi _ x=>x;refine G u r ⟨gG.trans g.k (j.aP g.k.size λi hi f=>?_),o2,j.pW g.la λb hb f=>?_,o1.GS z λb c hb p=>by cases p;have:=(v b hb).1;show a≠_;omega,λb c hb p=>?_,an,dI nh j.1⟩
 .rcases f with f|⟨b,hb,f⟩
  .omega
  .have:=(B b hb).1;omega
 .rcases f with f|⟨c,p,f⟩
  .have:=(t b hb).1;omega
  .exact g.ne b c hb p f.symm
 .rcases(v c p).2 with⟨d,E,C⟩|V
  .rw[<-C];exact g.ne b d hb E
  .have:=(t b hb).2;omega
structure RX where
 b:Nat
 enc:Int
 limit:Int
 sa:Sl
 st:Sl
 sk:Sl
 E:List El
 K:List (Sl×Sl×List El)
 Z:Nat->Prop
def Ma(n:Nat)(h:aE)(k:Sl×Sl×List El):Prop:=bR n .i64 h k.1 (k.2.2.map (·.1))/\bR n .i64 h k.2.1 (k.2.2.map (·.2))
def YK(k:Sl×Sl×List El)(i:Nat):Prop:=(∃a,k.1.aD=some a/\a.block=i)\/∃a,k.2.1.aD=some a/\a.block=i
structure AM(n:Nat)(h:aE)(R:RX):Prop where
 enc:eE R.enc
 Bp:0<=R.limit/\R.limit<=65536
 ob:cC n 1 h ⟨some (B9 R.b),5,5⟩ [aH R.enc,aH R.limit,dG R.sa,dG R.st,dG R.sk]
 cur:Ma n h (R.sa,R.st,R.E)
 sk:cC n 2 h R.sk (R.K.flatMap λk=>[dG k.1,dG k.2.1])
 kept:∀k,k∈R.K->Ma n h k
 zb:R.Z R.b
 zc:∀i,YK (R.sa,R.st,R.E) i->R.Z i/\i≠R.b/\∀a,R.sk.aD=some a->a.block≠i
 zk:∀k,k∈R.K->∀i,YK k i->R.Z i/\i≠R.b/\∀a,R.sk.aD=some a->a.block≠i
 zs:∀a,R.sk.aD=some a->R.Z a.block/\a.block≠R.b
 lo:∀i,R.Z i->n<=i/\i<h.size
 fit:∀a,a∈R.E.map (·.1)->0<bU R.enc a
theorem Ma.oQ{F:Nat->Prop}{k:Sl×Sl×List El}(s:Ma n h k)(c:aY F h h')(d:∀i,YK k i->¬F i):Ma n h' k:=
 ⟨c.pW s.1 λy b=>d _ (.inl ⟨y,b,rfl⟩),c.pW s.2 λy b=>d _ (.inr ⟨y,b,rfl⟩)⟩
theorem AM.oQ{F:Nat->Prop}{h':aE}{R:RX}(r:AM n h R)(c:aY F h h')(b:∀i,R.Z i->¬F i):AM n h' R where
 enc:=r.enc
 Bp:=r.Bp
 ob:=c.own r.ob λy d=>by cases d;exact b _ r.zb
 cur:=r.cur.oQ c λi hi=>b _ (r.zc i hi).1
 sk:=c.own r.sk λy d=>b _ (r.zs y d).1
 kept:=λk f=>(r.kept k f).oQ c λi hi=>b _ (r.zk k f i hi).1
 zb:=r.zb
 zc:=r.zc
 zk:=r.zk
 zs:=r.zs
 lo:=λi hi=>⟨(r.lo i hi).1,pI (r.lo i hi).2 c.1⟩
 fit:=r.fit
theorem AM.ext{R:RX}(r:AM n h R)(e:Ext h h'):AM n h' R:=r.oQ (aY.bH (F:=λ_=>False) e) λ_ _ x=>x
inductive Ey(h0 h:aE)(enc limit:Int)(l:aW):OA->Int->Prop where
 |enc:¬eE enc->Ey h0 h enc limit l none 10
 |arg:eE enc->¬(0<=limit/\limit<=65536)->Ey h0 h enc limit l none 1
 |full:eE enc->0<=limit/\limit<=65536->limit<l.length->Ey h0 h enc limit l none 50
 |ok (R:RX):eE enc->0<=limit/\limit<=65536->l.length<=limit->AM h0.size h R->R.enc=enc->R.limit=limit->R.K=[]->R.sk=⟨none,0,0⟩->R.E=gT 0 0 (bC enc l)->(∀i,R.Z i->h0.size<=i)->Ey h0 h enc limit l (some (B9 R.b)) 0
theorem OV{ts:List (Int×Int)}{k:Nat}{t:Int×Int}(ht:ts[k]?=some t):(gT 0 0 ts).take (k+1)=(gT 0 0 ts).take k++[(t.1,(dF (ts.take k):Int))]:=by
 have b:=JD 0 ts 0 k;have c:=(eK.1 ht).1;have d:ts.drop k=t::ts.drop (k+1):=by
  have:=(eK.1 ht).2;rw[gK c,this]
 rw[d]at b;have f:(gT 0 0 ts)[k]?=some (t.1,(dF (ts.take k):Int)):=by
  have g:((gT 0 0 ts).drop k)[0]?=(gT 0 0 ts)[k]? := by rw[DO];rfl
  rw[<-g,b];simp[gT]
 rw[eG,f];rfl
theorem OQ{enc limit:Int}{b:Sl}{l:aW}(hb:kB .u8 h b l)(hl:l.length<=1073741824) :
  aS P (yQ S enc b limit) [tP, tI] h λ(y:OA×Int×Unit) h'=>Ey h h' enc limit l y.1 y.2.1:=by
 unfold yQ aS;have B:=hb.len;have d:cA l:=hb.wf;refine bW (¬eE enc) ?_ λbb v W O=>aG (λj=>aC ⟨rfl,W,(none,10,()),rfl, .enc (O.1 j)⟩) λj=>?_
 .unfold eE
  refine aG (λf=>aC ⟨rfl,Ext.refl _,true,rfl,Iff.intro (λ_=>by rw[aV]at f;omega) λ_=>rfl⟩) λf=>aC ⟨rfl,Ext.refl _,_,rfl,?_⟩;rw[aZ]at f;rw[dQ];omega
 have he:eE enc:=by
  by_cases h:eE enc
  .exact h
  .rw[O.2 h]at j;cases j
 refine bW (¬(0<=limit/\limit<=65536)) ?_ λbb c Z R=>aG (λj=>aC ⟨rfl,W.trans Z,(none,1,()),rfl, .arg he (R.1 j)⟩) λV=>?_
 .refine aG (λf=>aC ⟨rfl,Ext.refl _,true,rfl,Iff.intro (λ_=>by rw[aV]at f;omega) λ_=>rfl⟩) λf=>aC ⟨rfl,Ext.refl _,_,rfl,?_⟩
  rw[aZ]at f;rw[dQ];omega
 have H:0<=limit/\limit<=65536:=by
  by_cases h:0<=limit/\limit<=65536
  .exact h
  .rw[R.2 h]at V;cases V
 have A:=W.trans Z;refine aG (λj=>aC ⟨rfl,A,(none,50,()),rfl, .full he H (by rw[dQ,aN,B]at j;exact j)⟩) λj=>?_;rw[gC,aN,B]at j;refine fV (bs:=[.int .i64, .int .i64, .sl, .sl, .sl]) (enc,limit,⟨none,0,0⟩,⟨none,0,0⟩,⟨none,0,0⟩,()) (by decide) λC e3 J=>?_;have J:cC c.size 1 C ⟨some (B9 c.size),5,5⟩ [aH enc,aH limit, .slice none 0 0, .slice none 0 0, .slice none 0 0]:=J;have q3:c.size<C.size:=(J.lt rfl).2;have tl:=zF (enc:=enc) d;have a6:=Ga (enc:=enc) d;have G0:RI c C.size c.size enc limit C ⟨none,0,0⟩ ⟨none,0,0⟩ (((gT 0 0 (bC enc l)).take 0).map (·.1)) (((gT 0 0 (bC enc l)).take 0).map (·.2)):=⟨e3,J,bR.nil _ _ _,bR.nil _ _ _,λ_ _ h=>(by cases h),q3,bL _⟩;refine dV (G:=Nat×Sl×Sl) (λg (r:Int×Unit) h'=>g.1<=(bC enc l).length/\r.1=dF ((bC enc l).take g.1)/\RI c C.size c.size enc limit h' g.2.1 g.2.2 (((gT 0 0 (bC enc l)).take g.1).map (·.1)) (((gT 0 0 (bC enc l)).take g.1).map (·.2))) (λg=>(bC enc l).length-g.1)
  (λtag vs h'=>tag=2/\vs=[]/\∃sA sT,RI c C.size c.size enc limit h' sA sT ((gT 0 0 (bC enc l)).map (·.1)) ((gT 0 0 (bC enc l)).map (·.2))) (0,⟨none,0,0⟩,⟨none,0,0⟩) ⟨cS _,rfl,G0⟩ ?_ ?_
 .rintro⟨k,sA,sT⟩ ⟨(at_:Int),u⟩ h4 ⟨E,K,g⟩
  dsimp only at E K g⊢;subst K;have T:dF (bC enc l)=dF ((bC enc l).take k)+dF ((bC enc l).drop k):=by rw[<-iY,eX]
  refine aG (λf=>?_) λf=>?_
  .rw[aV,aN,B]at f
   have p:k<(bC enc l).length:=by
    by_cases h:k<(bC enc l).length
    .exact h
    .rw[List.drop_eq_nil_of_le (by omega),Fo]at T;omega
   obtain⟨t,ht⟩:∃t,(bC enc l)[k]?=some t:=⟨(bC enc l)[k]'p,cM p⟩;have U:=eL ht;have a0:=pG (enc:=enc) d k E;have al:0<(l.drop (dF ((bC enc l).take k))).length:=by rw[cZ];omega
   have ao:eH enc (l.drop (dF ((bC enc l).take k)))=t:=by
    have v:=jJ (enc:=enc) (d.drop (dF ((bC enc l).take k))) al;rw[a0.2,gK p,(eK.1 ht).2]at v;exact(J7 v).1.symm
   have a1:=J3 (enc:=enc) d t U;have aw:=Pq (enc:=enc) d t U;have ab:=g.k;refine aM (T9 (hb.ext (A.trans ab)) (by omega)) λ⟨(y1:Int),(y2:Int),_⟩ h5 e5 m=>?_;have m:y1=t.1/\y2=t.2:=by
    rcases m with⟨hn,_,_⟩|⟨_,_,_,m⟩
    .rcases hn with h|h|h
     .exact absurd he h
     .omega
     .omega
    .rw[cN,ao]at m
     exact⟨congrArg Prod.fst m,congrArg Prod.snd m⟩
   obtain⟨rfl,rfl⟩:=m;dsimp only;refine aG (λI=>by rw[aV]at I;omega) λ_=>?_;have g5:=g.ext e5;have hlen:((gT 0 0 (bC enc l)).take k).length=k:=by rw[dJ,E5];omega
   refine bY (b:=.sl) sA rfl g5.o.cells rfl (jG (k:=.i64) [t.1] (by intro z I;rw[dE.1 I];exact aw) (by simp) λh6 e6 o6=>n_ (g5.ext e6) o6.kZ (by rw[cD,hlen,Cq];omega) λh7 a3 g7=>?_);refine bY (b:=.sl) sT rfl g7.o.cells rfl (jG (k:=.i64) [((dF ((bC enc l).take k):Nat):Int)] (by intro z I;rw[dE.1 I];exact eO.2 (by omega)) (by simp) λh8 e8 o8=>ng (g7.ext e8) o8.kZ (by rw[cD,hlen,Cq];omega) λh9 a4 g9=>?_);have v:((gT 0 0 (bC enc l)).take k).map (λy:El=>y.1)++[t.1]=((gT 0 0 (bC enc l)).take (k+1)).map λy:El=>y.1:=by rw[OV ht];simp
   have c:((gT 0 0 (bC enc l)).take k).map (λy:El=>y.2)++[((dF ((bC enc l).take k):Nat):Int)]=((gT 0 0 (bC enc l)).take (k+1)).map λy:El=>y.2:=by rw[OV ht];simp
   rw[v,c]at g9;have a5:dF ((bC enc l).take (k+1))=dF ((bC enc l).take k)+t.2.toNat:=by rw[eG,ht,iY];simp[dF]
   rw[bG (by omega) (by omega)];exact aC ⟨λ_=>⟨(k+1,a3,a4),(((dF ((bC enc l).take k):Nat):Int)+t.2,()),rfl,⟨p,by dsimp only;omega,g9⟩,by dsimp only;omega⟩,λY=>absurd rfl Y⟩
  .rw[aZ,aN,B]at f
   have p:k=(bC enc l).length:=by
    by_cases h:k<(bC enc l).length
    .obtain⟨t,ht⟩:∃t,(bC enc l)[k]?=some t:=⟨(bC enc l)[k]'h,cM h⟩
     have a1:=J3 (enc:=enc) d t (eL ht);rw[gK h,(eK.1 ht).2,mM]at T;omega
    .omega
   subst p;rw[iF (by rw[E5];exact bL _)]at g;exact aC ⟨λY=>absurd Y (by decide),λ_=>⟨rfl,rfl,sA,sT,g⟩⟩
 .rintro tag vs h4 ⟨rfl,rfl,sA,sT,g⟩
  refine bK (bV (aC ⟨rfl,A.trans g.k,(some (B9 c.size),0,()),rfl,?_⟩));have a2:=A.size;refine Ey.ok ⟨c.size,enc,limit,sA,sT,⟨none,0,0⟩,gT 0 0 (bC enc l),[],λi=>c.size<=i/\i<h4.size⟩ he H (by omega) ⟨he,H,g.o.mono a2,⟨g.la.mono (by omega),g.lt.mono (by omega)⟩,cC.nil _ _ _,λk E=>(by cases E),⟨bL _,(g.o.lt rfl).2⟩,λi hi=>?_,λk E=>(by cases E),λa ha=>(by cases ha),λi hi=>⟨by have:=hi.1;omega,hi.2⟩,?_⟩ rfl rfl rfl rfl rfl λi hi=>by have:=hi.1;omega
  .rcases hi with⟨y,m,rfl⟩|⟨y,m,rfl⟩
   .have:=g.la.own.lt m;exact⟨⟨by omega,this.2⟩,by dsimp only;omega,λa ha=>(by cases ha)⟩
   .have:=g.lt.own.lt m;exact⟨⟨by omega,this.2⟩,by dsimp only;omega,λa ha=>(by cases ha)⟩
  .intro a ha
   dsimp only at ha⊢;have v:(gT 0 0 (bC enc l)).map (λy:El=>y.1)=(bC enc l).map (·.1):=MB ..;rw[v]at ha;obtain⟨t,ht,rfl⟩:=dC.1 ha;exact((VX he d).1 t ht).1
theorem Ws{R:RX}(r:AM n h R)(U:R.E.length<=1073741824):aS P (tL S (some (B9 R.b))) [tI] h λ(y:Int×Unit) _=>y.1=kJ R.enc R.E:=by
 unfold tL aS;have c:=r.cur.1.len;rw[cD]at c;dsimp only at c;have f:=r.fit;refine bO (λ(q:Int×Int×Unit) h'=>∃i:Nat,i<=R.E.length/\q.2.1=i/\q.1=kJ R.enc (R.E.take i)/\Ext h h') (λq _=>(R.E.length-q.2.1).toNat) (λtag vs h'=>tag=2/\vs=[aH (kJ R.enc R.E)]/\Ext h h') ⟨0,cS _,rfl,rfl,Ext.refl _⟩ ?_ ?_
 .rintro⟨(s:Int),(V:Int),u⟩ H ⟨i,hi,m,C,d⟩
  dsimp only at m C⊢;subst m;subst C;have j:=r.ext d;refine aL rfl (aL rfl (bY (b:=.sl) R.sa rfl j.ob.cells rfl (aG (λo=>?_) λo=>?_)))
  .rw[aV,aN,c]at o
   obtain⟨⟨a,g⟩,t⟩:∃x,R.E[i]?=some x:=⟨R.E[i]'(by omega),cM (by omega)⟩;have A:=f a (dC.2 ⟨_,eL t,rfl⟩);have hlen:=oJ A;have T:=zD R.enc a;have B:(R.E.map (λx:El=>x.1)).getD ((i:Int)).toNat 0=a:=by rw[cN,gF,fX,t];rfl
   have K:kJ R.enc (R.E.take (i+1))=kJ R.enc (R.E.take i)+(cW R.enc a).length:=by rw[eG,t,lG];simp[kJ]
   have O:kJ R.enc (R.E.take i)<=4*i:=by
    have:=(Hl (enc:=R.enc) (l:=(R.E.take i).map (·.1)) λb hb=>f b (by obtain⟨y,J,rfl⟩:=dC.1 hb;exact dC.2 ⟨y,rG J,rfl⟩)).2;rw[cD,dJ]at this;have I:kJ R.enc (R.E.take i)<=4*min i R.E.length:=this;omega
   refine aL rfl (aL rfl (bY (b:=bI) R.enc rfl j.ob.cells rfl (aL rfl (aL rfl (bY (b:=.sl) R.sa rfl j.ob.cells rfl (qM j.cur.1.kZ (by omega) (by rw[cD];dsimp only;omega) λ_=>?_))))));rw[B];refine aM (Mr R.enc a) λ⟨(z:Int),_⟩ I G v=>?_;have v:z=bU R.enc a:=v;subst v;dsimp only;rw[bG (by omega) (by omega),bG (by omega) (by omega)];exact aC ⟨λ_=>⟨((kJ R.enc (R.E.take i):Int)+bU R.enc a,(i:Int)+1,()),rfl,⟨i+1,by omega,by dsimp only;omega,by dsimp only;omega,d.trans G⟩,by dsimp only;omega⟩,λp=>absurd rfl p⟩
  .rw[aZ,aN,c]at o
   have:i=R.E.length:=by omega
   subst this;rw[fA];exact aC ⟨λp=>absurd p (by decide),λ_=>⟨rfl,rfl,d⟩⟩
 .rintro tag vs H ⟨rfl,rfl,d⟩
  exact bK (gZ (aC ⟨rfl,d,(_,()),rfl,rfl⟩))
end
section
variable{P:Program}{S:cG}{h:aE}{Q:Nat->bE->aE->Prop}
variable{x:Gp}{e:gY}{i:Nat}{es:List gY}
theorem jH{f:Nat}{b:B}{z:b.den}{K:b.den->aK}(ok:(Sh.list jD).ok h x)(he:x.2[i]?=some e)(d:(jD.cells e)[f]?=some (b.inj z))(c:wp P (K z) h Q) :
  wp P (bD (bN (aJ x.1.aD) (eV (i:Int) x.1.len)) (bD (aJ (aB x.1.aD (bB (bP (i:Int)) 3))) (.load (.one b) (aB (aB x.1.aD (bB (bP (i:Int)) 3)) f) K))) h Q:=
 AH (e:=jD) (x:=x) ok (by omega) (by rw[cN];exact he) rfl d c
theorem Hj(ok:(Sh.list jD).ok h x)(he:x.2[i]?=some e):kB .i64 h e.2.2.1.1 e.2.2.1.2:=Sh.kZ (ok.el he).2.2.1
def Ez(enc limit:Int)(E:List El)(es:List gY)(r:Int):Prop:=
 (70000<es.length/\r=3)\/(es.length<=70000/\¬uE E.length 0 es/\r=2)\/(es.length<=70000/\uE E.length 0 es/\¬jF enc (aU es)/\r=11) \/
 (es.length<=70000/\uE E.length 0 es/\jF enc (aU es)/\limit<kJ enc (iI E es)/\r=50)\/(es.length<=70000/\uE E.length 0 es/\jF enc (aU es)/\(kJ enc (iI E es):Int)<=limit/\r=0)
theorem Ez.fn{enc limit r m:Int}{E:List El}(h:Ez enc limit E es r)(h':Ez enc limit E es m):r=m:=by
 unfold Ez at h h';by_cases c:es.length<=70000
 .by_cases d:uE E.length 0 es
  .by_cases f:jF enc (aU es)
   .by_cases j:(kJ enc (iI E es):Int)<=limit
    .have g:¬limit<kJ enc (iI E es):=by omega
     have b:¬70000<es.length:=by omega
     simp only[c,d,f,j,g,b,true_and,false_and,not_true_eq_false,false_or,or_false]at h h';rw[h,h']
    .have g:limit<kJ enc (iI E es):=by omega
     have b:¬70000<es.length:=by omega
     simp only[c,d,f,j,g,b,true_and,false_and,not_true_eq_false,false_or,or_false]at h h';rw[h,h']
   .have b:¬70000<es.length:=by omega
    simp only[c,d,f,b,true_and,false_and,not_true_eq_false,not_false_eq_true,false_or,or_false]at h h';rw[h,h']
  .have b:¬70000<es.length:=by omega
   simp only[c,d,b,true_and,false_and,not_true_eq_false,not_false_eq_true,false_or,or_false]at h h';rw[h,h']
 .have b:70000<es.length:=by omega
  simp only[c,b,true_and,false_and,or_false]at h h';rw[h,h']
theorem Zl{enc limit r:Int}(he:eE enc){ps:List Pc}(hb:∀q,q∈ps->cA q.2)(h:KZ enc limit (cK enc ps) es r):Ez enc limit (gS enc ps) es r:=by
 have f:(cK enc ps).length=(gS enc ps).length:=(yE ..).symm;have ro:=Ta he hb h;cases h with
 |many h=>exact .inl ⟨h,rfl⟩
 |place a b=>rw[f]at b;exact .inr (.inl ⟨a,b,rfl⟩)
 |fit a b c=>rw[f]at b;exact .inr (.inr (.inl ⟨a,b,c,rfl⟩))
 |full a b c d=>
  rw[f]at b;refine .inr (.inr (.inr (.inl ⟨a,b,c,?_,rfl⟩)));by_cases h:(kJ enc (iI (gS enc ps) es):Int)<=limit
  .have:=ro.2 ⟨a,b,c,h⟩;omega
  .omega
 |ok a b c d=>
  have:=ro.1 rfl;exact .inr (.inr (.inr (.inr ⟨a,this.2.1,this.2.2.1,this.2.2.2,rfl⟩)))
theorem JU{enc:Int}{E:List El}:∀{es:List gY} {a:Int},jF enc (aU es)->eZ enc (aU es)<=(kJ enc (fwd E a es):Int)
 |[],a,_=>by simp[aU,eZ]
 |e::es,a,b=>by
  have d:aU (e::es)=e.2.2.1.2++aU es:=by simp[aU]
  rw[d]at b⊢;have f:=JU (E:=E) (es:=es) (a:=e.2.1) λx c=>b x (pZ _ c);have s1:=ND (enc:=enc) (l:=e.2.2.1.2) λx c=>b x (oM _ c);rw[mY];simp only[fwd];rw[lG,lG,RS];omega
theorem Wu{n:Nat}{R:RX}(r:AM n h R)(ok:(Sh.list jD).ok h x)(hE:R.E.length<=65536)(hL:x.2.length<=1073741824) :
  aS P (oZ S (some (B9 R.b)) x.1) [tI] h λ(y:Int×Unit) _=>(70000<x.2.length/\y.1=3)\/(x.2.length<=70000/\¬uE R.E.length 0 x.2/\y.1=2)\/(x.2.length<=70000/\uE R.E.length 0 x.2/\¬jF R.enc (aU x.2)/\y.1=11)\/(x.2.length<=70000/\uE R.E.length 0 x.2/\jF R.enc (aU x.2)/\y.1=0):=by
 unfold oZ aS;have g:=ok.len;refine aG (λhc=>?_) λhc=>?_
 .rw[dQ,aN,g]at hc
  exact aC ⟨rfl,Ext.refl _,(3,()),rfl, .inl ⟨by omega,rfl⟩⟩
 rw[gC,aN,g]at hc;have A:x.2.length<=70000:=by omega
 refine bO (λ(q:Int×Int×Unit) h'=>∃i:Nat,i<=x.2.length/\q.2.1=i/\q.1=dB 0 (x.2.take i)/\uE R.E.length 0 (x.2.take i)/\Ext h h') (λq _=>(x.2.length-q.2.1).toNat)
  (λtag vs h'=>Ext h h'/\((tag=2/\vs=[]/\uE R.E.length 0 x.2)\/(tag=1/\vs=[aH 2]/\¬uE R.E.length 0 x.2))) ⟨0,cS _,rfl,rfl,trivial,Ext.refl _⟩ ?_ ?_
 .rintro⟨(at_:Int),(i':Int),u⟩ h1 ⟨i,a0,C,Y,d,G⟩
  dsimp only at C Y⊢;subst C;refine aG (λH=>?_) λH=>?_
  .rw[aV,aN,g]at H
   obtain⟨e,f⟩:∃e,x.2[i]?=some e:=⟨x.2[i]'(by omega),cM (by omega)⟩;have ao:x.2.take (i+1)=x.2.take i++[e]:=by rw[eG,f];rfl
   refine DD (ok.ext G) f λa h2 B ha o2=>?_;have r2:=r.ext (G.trans B);have U:=r2.cur.1.len;rw[cD]at U;dsimp only at U;refine bW (¬(dB 0 (x.2.take i)<=e.1/\e.1<=e.2.1/\e.2.1<=R.E.length)) ?_ λbb h3 o Z=>?_
   .subst Y
    refine bY (b:=bI) e.1 rfl o2.cells rfl (aG (λm=>aC ⟨rfl,Ext.refl _,true,rfl,Iff.intro (λ_ h=>by rw[aV]at m;omega) λ_=>rfl⟩) λm=>bY (b:=bI) e.2.1 rfl o2.cells rfl (bY (b:=bI) e.1 rfl o2.cells rfl (aG (λhy=>aC ⟨rfl,Ext.refl _,true,rfl,Iff.intro (λ_ h=>by rw[aV]at hy;omega) λ_=>rfl⟩) λhy=>bY (b:=bI) e.2.1 rfl o2.cells rfl (aL rfl (aL rfl (bY (b:=.sl) R.sa rfl r2.ob.cells rfl (aC ⟨rfl,Ext.refl _,_,rfl,?_⟩)))))));rw[aZ]at m hy;rw[dQ,aN,U];omega
   have W:=(G.trans B).trans o;refine aG (λm=>aC ⟨λc=>absurd c (by decide),λ_=>⟨W, .inr ⟨rfl,rfl,λhp=>Z.1 m (hp.at f)⟩⟩⟩) λm=>?_;have T:dB 0 (x.2.take i)<=e.1/\e.1<=e.2.1/\e.2.1<=R.E.length:=by
    by_cases c:dB 0 (x.2.take i)<=e.1/\e.1<=e.2.1/\e.2.1<=R.E.length
    .exact c
    .rw[Z.2 c]at m;cases m
   refine bY (b:=bI) e.2.1 rfl (o2.ext o).cells rfl ?_;rw[bG (by omega) (by omega)];exact aC ⟨λ_=>⟨(e.2.1,(i:Int)+1,()),rfl,⟨i+1,by omega,by dsimp only;omega,by rw[ao,yZ],by rw[ao,uE.append];exact⟨d,T.1,T.2.1,T.2.2,trivial⟩,W⟩,by dsimp only;omega⟩,λc=>absurd rfl c⟩
  .rw[aZ,aN,g]at H
   have:i=x.2.length:=by omega
   subst this;rw[fA]at d;exact aC ⟨λc=>absurd c (by decide),λ_=>⟨G, .inl ⟨rfl,rfl,d⟩⟩⟩
 rintro tag vs h1 ⟨G,⟨rfl,rfl,d⟩|⟨rfl,rfl,d⟩⟩
 .refine bK (bV ?_)
  refine bO (λ(q:Int×Unit) h'=>∃i:Nat,i<=x.2.length/\q.1=i/\jF R.enc (aU (x.2.take i))/\Ext h h') (λq _=>(x.2.length-q.1).toNat)
   (λtag vs h'=>Ext h h'/\((tag=4/\vs=[]/\jF R.enc (aU x.2))\/(tag=1/\vs=[aH 11]/\¬jF R.enc (aU x.2)))) ⟨0,cS _,rfl,λa ha=>(by simp[aU]at ha),G⟩ ?_ ?_
  .rintro⟨(i':Int),u⟩ h2 ⟨i,a0,C,I,B⟩
   dsimp only at C⊢;subst C;refine aG (λH=>?_) λH=>?_
   .rw[aV,aN,g]at H
    obtain⟨e,f⟩:∃e,x.2[i]?=some e:=⟨x.2[i]'(by omega),cM (by omega)⟩;refine bO (λ(q:Int×Unit) h'=>∃j:Nat,j<=e.2.2.1.2.length/\q.1=j/\jF R.enc (e.2.2.1.2.take j)/\Ext h h') (λq _=>(e.2.2.1.2.length-q.1).toNat)
     (λtag vs h'=>Ext h h'/\((tag=6/\vs=[]/\jF R.enc e.2.2.1.2)\/(tag=1/\vs=[aH 11]/\¬jF R.enc (aU x.2)))) ⟨0,cS _,rfl,λa ha=>(by simp at ha),B⟩ ?_ ?_
    .rintro⟨(j':Int),v⟩ h3 ⟨j,a4,ab,K,o⟩
     dsimp only at ab⊢;subst ab;have V:=ok.ext o;have ls:=Hj V f;have al:=ls.len;have a3:=ls.bound;have r3:=r.ext o;refine jH (b:=.sl) (z:=e.2.2.1.1) V f rfl (aG (λm=>?_) λm=>?_)
     .rw[aV,aN,al]at m
      obtain⟨b,hb⟩:∃b,e.2.2.1.2[j]?=some b:=⟨e.2.2.1.2[j]'(by omega),cM (by omega)⟩;have aw:e.2.2.1.2.getD ((j:Int)).toNat 0=b:=by rw[cN,gF,hb];rfl
      have a2:e.2.2.1.2.take (j+1)=e.2.2.1.2.take j++[b]:=by rw[eG,hb];rfl
      refine aL rfl (aL rfl (bY (b:=bI) R.enc rfl r3.ob.cells rfl (jH (b:=.sl) (z:=e.2.2.1.1) V f rfl (qM ls (by omega) (by omega) λ_=>?_))));rw[aw];refine aM (Mq R.enc b) λ⟨(ft:Bool),_⟩ h4 e4 J=>?_;have J:ft=decide (0<bU R.enc b):=J;dsimp only;refine aG (λO=>aC ⟨λc=>absurd c (by decide),λ_=>⟨o.trans e4, .inr ⟨rfl,rfl,λt=>?_⟩⟩⟩) λO=>?_
      .rw[dN,J]at O
       exact of_decide_eq_false O (t b (Kd.2 ⟨e,eL f,eL hb⟩))
      rw[eI,J]at O;have a1:=of_decide_eq_true O;rw[bG (by omega) (by omega)];refine aC ⟨λ_=>⟨((j:Int)+1,()),rfl,⟨j+1,by omega,by dsimp only;omega,?_,o.trans e4⟩,by dsimp only;omega⟩,λc=>absurd rfl c⟩;rw[a2];intro z p;rcases dD.1 p with p|p
      .exact K z p
      .rw[dE.1 p];exact a1
     .rw[aZ,aN,al]at m
      have:j=e.2.2.1.2.length:=by omega
      subst this;rw[fA]at K;exact aC ⟨λc=>absurd c (by decide),λ_=>⟨o, .inl ⟨rfl,rfl,K⟩⟩⟩
    .rintro tag vs h3 ⟨o,⟨rfl,rfl,t⟩|⟨rfl,rfl,t⟩⟩
     .refine bK (bV ?_)
      rw[bG (by omega) (by omega)];refine aC ⟨λ_=>⟨((i:Int)+1,()),rfl,⟨i+1,by omega,by dsimp only;omega,?_,o⟩,by dsimp only;omega⟩,λc=>absurd rfl c⟩;rw[uI f];intro z p;rcases dD.1 p with p|p
      .exact I z p
      .exact t z p
     .exact pY (by decide) (bK (gZ (aC ⟨λc=>absurd c (by decide),λ_=>⟨o, .inr ⟨rfl,rfl,t⟩⟩⟩)))
   .rw[aZ,aN,g]at H
    have:i=x.2.length:=by omega
    subst this;rw[fA]at I;exact aC ⟨λc=>absurd c (by decide),λ_=>⟨B, .inl ⟨rfl,rfl,I⟩⟩⟩
  .rintro tag vs h2 ⟨B,⟨rfl,rfl,t⟩|⟨rfl,rfl,t⟩⟩
   .exact bK (bV (aC ⟨rfl,B,(0,()),rfl, .inr (.inr (.inr ⟨A,d,t,rfl⟩))⟩))
   .exact pY (by decide) (bK (gZ (aC ⟨rfl,B,(11,()),rfl, .inr (.inr (.inl ⟨A,d,t,rfl⟩))⟩)))
 .exact pY (by decide) (bK (gZ (aC ⟨rfl,G,(2,()),rfl, .inr (.inl ⟨A,d,rfl⟩)⟩)))
end
section
variable{P:Program}{S:cG}{h:aE}{Q:Nat->bE->aE->Prop}
abbrev Ux(l:aW):List El:=l.map λa=>(a, -1)
def Bo(E:List El):Int->List gY->List El
 |_,[]=>[]
 |a,e::es=>(E.drop a.toNat).take (e.1.toNat-a.toNat)++Ux e.2.2.1.2++Bo E e.2.1 es
theorem KF(E:List El):∀(xs b:List gY) (a:Int),Bo E a (xs++b)=Bo E a xs++Bo E (dB a xs) b
 |[],b,a=>by simp[Bo,dB]
 |x::xs,b,a=>by simp only[DN,Bo,dB,KF E xs b,eC]
theorem YE(E:List El):∀(es:List gY) (a:Int),fwd E a es=Bo E a es++E.drop (dB a es).toNat
 |[],a=>by simp[fwd,Bo,dB]
 |e::es,a=>by simp only[fwd,Bo,dB,YE E es,eC]
theorem MH{E:List El}:∀{es:List gY} {a:Int},0<=a->uE E.length a es->(Bo E a es).length<=(dB a es-a).toNat+(aU es).length
 |[],a,_,_=>by simp[Bo]
 |e::es,a,h0,⟨d,f,g,b⟩=>by
  have m:=MH (E:=E) (es:=es) (by omega) b;have c:aU (e::es)=e.2.2.1.2++aU es:=by simp[aU]
  have j:=CS b;rw[c];simp only[Bo,dB,bM,dJ,cD];omega
theorem F2{L:Int}:∀{es:List gY} {a:Int},a<=L->uE L a es->dB a es<=L
 |[],_,h,_=>h
 |e::es,a,_,⟨_,_,b,c⟩=>show dB e.2.1 es<=L from F2 b c
theorem Yx{enc:Int}{E:List El}{es:List gY}(h0:uE E.length 0 es)(f:∀a,a∈E.map (·.1)->0<bU enc a)(c:jF enc (aU es)):∀a,a∈(iI E es).map (·.1)->0<bU enc a:=by
 have:∀es:List gY,jF enc (aU es)->∀a,a∈(iI E es).map (·.1)->0<bU enc a:=by
  intro es
  induction es with
  |nil=>exact λ_=>f
  |cons e es d=>
   intro c a ha;have g:aU (e::es)=e.2.2.1.2++aU es:=by simp[aU]
   rw[g]at c;have d:=d λx j=>c x (pZ _ j);rw[pU]at ha;unfold DA at ha;obtain⟨y,b,rfl⟩:=dC.1 ha;rcases dD.1 b with b|b
   .rcases dD.1 b with b|b
    .exact d _ (dC.2 ⟨y,rG b,rfl⟩)
    .obtain⟨z,m,rfl⟩:=dC.1 b
     exact c z (oM _ m)
   .exact d _ (dC.2 ⟨y,Bi b,rfl⟩)
 exact this es c
theorem v5{h0:aE}{n a:Nat}{enc limit u v:Int}{sA sT:Sl}{D:List El}{K:aK}(g:RI h0 n a enc limit h sA sT (D.map (·.1)) (D.map (·.2)))(hu:cR .i64 u)(I:cR .i64 v)(V:D.length<=4294967296)
  (H:∀h' m t,RI h0 n a enc limit h' m t ((D++[(u,v)]).map (·.1)) ((D++[(u,v)]).map (·.2))->wp P K h' Q) :
  wp P (.alloc [aH u] λ(c:Addr)=>.check (aB (some (B9 a)) 2) [dG sA]<|.append 1 8 [.int .i64 0] sA ⟨some c,1,1⟩ λ(r:Sl)=>.store (aB (some (B9 a)) 2) [dG r]<|
   .load (tS) (aB (some (B9 a)) 3) λ(l:Sl)=>.alloc [aH v] λ(c2:Addr)=>.append 1 8 [.int .i64 0] l ⟨some c2,1,1⟩ λ(O:Sl)=>.store (aB (some (B9 a)) 3) [dG O] K) h Q:=by
 refine jG (k:=.i64) [u] (by intro z d;rw[dE.1 d];exact hu) (by simp) λR A o1=>?_;have f:=g.ext A;refine sC (aI.1 f.o.cells 2 _ rfl) (n_ f o1.kZ (by rw[cD,Cq];omega) λT p j=>bY (b:=.sl) sT rfl j.o.cells rfl ?_);refine jG (k:=.i64) [v] (by intro z d;rw[dE.1 d];exact I) (by simp) λU B J=>?_;have C:=j.ext B;refine ng C J.kZ (by rw[cD,Cq];omega) λG y E=>H G p y ?_;rw[dL,dL];exact E
theorem Ki{n:Nat}{R:RX}{x:Gp}(r:AM n h R)(hn:n<=h.size)(ok:(Sh.list jD).ok h x)(hE:R.E.length<=65536)(hL:x.2.length<=1073741824)(gv:(aU x.2).length<=1000000000) :
  wp P (jZ S (some (B9 R.b)) x.1) h λtag vs h'=>tag=0/\∃q B,vs=[aH q]/\Ez R.enc R.limit R.E x.2 q/\AM n h' B/\aY (λi=>i=R.b) h h'/\B.b=R.b/\B.enc=R.enc/\B.limit=R.limit/\B.K=R.K/\B.sk=R.sk /\
   B.E=(if q=0 then iI R.E x.2 else R.E)/\(∀i,R.Z i->B.Z i)/\∀i,B.Z i->R.Z i\/h.size<=i:=by
 unfold jZ;have a8:=ok.len;refine aM (Wu r ok hE hL) λ⟨(q:Int),_⟩ h1 e1 hq=>?_;have r1:=r.ext e1;have same:∀{h':aE} {q':Int},Ext h h'->Ez R.enc R.limit R.E x.2 q'->q'≠0->∃q B,[aH q']=[aH q]/\Ez R.enc R.limit R.E x.2 q/\AM n h' B/\aY (λi=>i=R.b) h h'/\B.b=R.b/\B.enc=R.enc/\B.limit=R.limit/\B.K=R.K/\B.sk=R.sk /\
   B.E=(if q=0 then iI R.E x.2 else R.E)/\(∀i,R.Z i->B.Z i)/\∀i,B.Z i->R.Z i\/h.size<=i:=λ{h'} {q'} e hr eh=>
  ⟨q',R,rfl,hr,r.ext e,aY.bH e,rfl,rfl,rfl,rfl,rfl,by rw[if_neg eh],λ_ z=>z,λ_ z=>.inl z⟩
 have hq:(70000<x.2.length/\q=3)\/(x.2.length<=70000/\¬uE R.E.length 0 x.2/\q=2)\/(x.2.length<=70000/\uE R.E.length 0 x.2/\¬jF R.enc (aU x.2)/\q=11)\/(x.2.length<=70000/\uE R.E.length 0 x.2/\jF R.enc (aU x.2)/\q=0):=hq;dsimp only;refine aG (λO=>?_) λO=>?_
 .rw[lB]at O
  refine aC ⟨rfl,same e1 ?_ O⟩;rcases hq with h|h|h|h
  .exact .inl h
  .exact .inr (.inl h)
  .exact .inr (.inr (.inl h))
  .exact absurd h.2.2.2 O
 rw[lX]at O;obtain⟨aw,c,U⟩:x.2.length<=70000/\uE R.E.length 0 x.2/\jF R.enc (aU x.2):=by
  rcases hq with h|h|h|h
  .omega
  .omega
  .omega
  .exact⟨h.1,h.2.1,h.2.2.1⟩
 subst O;have Bp:=r.Bp;have c4:=Pz (E:=R.E) (nJ 0) (by omega) c;have eg:=JU (enc:=R.enc) (E:=R.E) (a:=0) U;have ao:iI R.E x.2=fwd R.E 0 x.2:=by rw[c4];rfl
 rw[<-ao]at eg;have a6:(∀i,eZ R.enc (aU (x.2.take i))<=eZ R.enc (aU x.2)):=λi=>by
  have:aU x.2=aU (x.2.take i)++aU (x.2.drop i):=by unfold aU;rw[<-hQ,eX]
  rw[this,mY];have:=zE R.enc (aU (x.2.drop i));omega
 refine bO (λ(q:Int×Int×Unit) h'=>∃i:Nat,i<=x.2.length/\q.2.1=i/\q.1=eZ R.enc (aU (x.2.take i))/\Ext h h') (λq _=>(x.2.length-q.2.1).toNat)
  (λtag vs h'=>Ext h h'/\((tag=2/\vs=[])\/(tag=1/\vs=[aH 50]/\R.limit<kJ R.enc (iI R.E x.2)))) ⟨0,cS _,rfl,rfl,e1⟩ ?_ ?_
 .rintro⟨(s:Int),(i':Int),u⟩ m ⟨i,ba,a2,hs,e2⟩
  dsimp only at a2 hs⊢;subst a2;subst hs;refine aG (λhd=>?_) λhd=>aC ⟨λA=>absurd A (by decide),λ_=>⟨e2, .inl ⟨rfl,rfl⟩⟩⟩;rw[aV,aN,a8]at hd;obtain⟨e,al⟩:∃e,x.2[i]?=some e:=⟨x.2[i]'(by omega),cM (by omega)⟩;have ei:=a6 (i+1);rw[uI al,mY]at ei;have hj:=zE R.enc (aU (x.2.take i));have hf:=CX x.2 i;have c8:=CX x.2 (i+1);rw[uI al,bM]at c8;refine bO (λ(q:Int×Int×Unit) h'=>∃j:Nat,j<=e.2.2.1.2.length/\q.2.1=j/\q.1=eZ R.enc (aU (x.2.take i))+eZ R.enc (e.2.2.1.2.take j)/\Ext h h') (λq _=>(e.2.2.1.2.length-q.2.1).toNat)
   (λtag vs h'=>Ext h h'/\((tag=4/\vs=[aH (eZ R.enc (aU (x.2.take i))+eZ R.enc e.2.2.1.2)])\/(tag=1/\vs=[aH 50]/\R.limit<kJ R.enc (iI R.E x.2)))) ⟨0,cS _,rfl,by simp[eZ],e2⟩ ?_ ?_
  .rintro⟨(s:Int),(j':Int),v⟩ T ⟨j,cg,a3,hs,W⟩
   dsimp only at a3 hs⊢;subst a3;subst hs;have b2:=ok.ext W;have ls:=Hj b2 al;have a5:=ls.len;have gw:=ls.bound;have r3:=r.ext W;refine jH (b:=.sl) (z:=e.2.2.1.1) b2 al rfl (aG (λp=>?_) λp=>?_)
   .rw[aV,aN,a5]at p
    obtain⟨b,hb⟩:∃b,e.2.2.1.2[j]?=some b:=⟨e.2.2.1.2[j]'(by omega),cM (by omega)⟩;have b0:e.2.2.1.2.getD ((j:Int)).toNat 0=b:=by rw[cN,gF,hb];rfl
    have ct:eZ R.enc (e.2.2.1.2.take (j+1))=eZ R.enc (e.2.2.1.2.take j)+bU R.enc b:=by rw[eG,hb,mY];simp[eZ]
    have hp:eZ R.enc (e.2.2.1.2.take (j+1))<=eZ R.enc e.2.2.1.2:=by
     have:eZ R.enc e.2.2.1.2=eZ R.enc (e.2.2.1.2.take (j+1))+eZ R.enc (e.2.2.1.2.drop (j+1)):=by rw[<-mY,eX]
     have:=zE R.enc (e.2.2.1.2.drop (j+1));omega
    have fy:=zE R.enc (e.2.2.1.2.take j);have ho:=zE R.enc e.2.2.1.2;have hl:=C3 R.enc b;refine aL rfl (aL rfl (bY (b:=bI) R.enc rfl r3.ob.cells rfl (jH (b:=.sl) (z:=e.2.2.1.1) b2 al rfl (qM ls (by omega) (by omega) λ_=>?_))));rw[b0];refine aM (Mr R.enc b) λ⟨(z:Int),_⟩ h4 e4 hz=>?_;have hz:z=bU R.enc b:=hz;subst hz;dsimp only;rw[bG (by omega) (by omega)];refine aL rfl (aL rfl (bY (b:=bI) R.limit rfl (r3.ext e4).ob.cells rfl (aG (λhg=>aC ⟨λA=>absurd A (by decide),λ_=>⟨W.trans e4, .inr ⟨rfl,rfl,?_⟩⟩⟩) λhg=>?_)))
    .rw[dQ]at hg;omega
    .rw[bG (by omega) (by omega)]
     exact aC ⟨λ_=>⟨(eZ R.enc (aU (x.2.take i))+eZ R.enc (e.2.2.1.2.take j)+bU R.enc b,(j:Int)+1,()),rfl,⟨j+1,by omega,by dsimp only;omega,by dsimp only;omega,W.trans e4⟩,by dsimp only;omega⟩,λA=>absurd rfl A⟩
   .rw[aZ,aN,a5]at p
    have:j=e.2.2.1.2.length:=by omega
    subst this;rw[fA];exact aC ⟨λA=>absurd A (by decide),λ_=>⟨W, .inl ⟨rfl,rfl⟩⟩⟩
  .rintro tag vs T ⟨W,⟨rfl,rfl⟩|⟨rfl,rfl,hg⟩⟩
   .refine bK (gZ ?_)
    rw[bG (by omega) (by omega)];exact aC ⟨λ_=>⟨(eZ R.enc (aU (x.2.take i))+eZ R.enc e.2.2.1.2,(i:Int)+1,()),rfl,⟨i+1,by omega,by dsimp only;omega,by rw[uI al,mY],W⟩,by dsimp only;omega⟩,λA=>absurd rfl A⟩
   .exact pY (by decide) (bK (gZ (aC ⟨λA=>absurd A (by decide),λ_=>⟨W, .inr ⟨rfl,rfl,hg⟩⟩⟩)))
 rintro tag vs m ⟨e2,ey⟩;rcases ey.symm with⟨rfl,rfl,hg⟩|⟨rfl,rfl⟩
 .exact pY (by decide) (bK (gZ (aC ⟨rfl,same e2 (.inr (.inr (.inr (.inl ⟨aw,c,U,hg,rfl⟩)))) (by decide)⟩)))
 have r2:=r.ext e2;refine bK (bV (aL rfl (aL rfl (bY (b:=bI) R.enc rfl r2.ob.cells rfl (aL rfl (aL rfl (bY (b:=bI) R.limit rfl r2.ob.cells rfl ?_)))))));refine fV (bs:=[.int .i64, .int .i64, .sl, .sl, .sl]) (R.enc,R.limit,⟨none,0,0⟩,⟨none,0,0⟩,⟨none,0,0⟩,()) (by decide) λT W o3=>?_;have o3:cC m.size 1 T ⟨some (B9 m.size),5,5⟩ [aH R.enc,aH R.limit, .slice none 0 0, .slice none 0 0, .slice none 0 0]:=o3;have q3:m.size<T.size:=(o3.lt rfl).2
 let D:Nat->Nat->List El:=λi k=>Bo R.E 0 (x.2.take k)++(R.E.drop (dB 0 (x.2.take k)).toNat).take (i-(dB 0 (x.2.take k)).toNat)
 have bo:∀i k,i<=R.E.length+1->(D i k).length<=2147483648:=λi k hi=>by
  have h1:=MH (nJ 0) (c.take k);have m:=F2 (LN R.E.length) (c.take k);have T:=CX x.2 k;show(Bo R.E 0 (x.2.take k)++_).length<=_;rw[bM,dJ,cZ];omega
 let G:Nat->Nat->aE->Sl->Sl->Prop:=λi k h' sA sT=>RI m T.size m.size R.enc R.limit h' sA sT ((D i k).map (·.1)) ((D i k).map (·.2))
 have G0:G 0 0 T ⟨none,0,0⟩ ⟨none,0,0⟩:=⟨W,o3,bR.nil _ _ _,bR.nil _ _ _,λ_ _ h=>(by cases h),q3,bL _⟩;have rr:∀{h'},Ext m h'->AM n h' R:=λe=>r2.ext e;have b4:∀{h'},Ext m h'->(Sh.list jD).ok h' x:=λe=>ok.ext (e2.trans e);have bd:R.sa.len=R.E.length:=by have:=r.cur.1.len;rw[cD]at this;exact this
 have hv:R.st.len=R.E.length:=by have:=r.cur.2.len;rw[cD]at this;exact this
 have lo:=λk=>CS (c.take k);have hi:=λk=>F2 (LN R.E.length) (c.take k);refine dV (G:=Nat×Nat×Sl×Sl) (λg (q:Int×Int×Int×Unit) h'=>q.2.2.1=g.1/\q.1=g.2.1/\q.2.1=dB 0 (x.2.take g.2.1)/\g.1<=R.E.length+1/\g.2.1<=x.2.length/\(∀e,x.2[g.2.1]?=some e->(g.1:Int)<=e.1)/\G g.1 g.2.1 h' g.2.2.1 g.2.2.2) (λg=>R.E.length+1-g.1)
  (λtag vs h'=>tag=6/\vs=[]/\∃sA sT,RI m T.size m.size R.enc R.limit h' sA sT ((iI R.E x.2).map (·.1)) ((iI R.E x.2).map (·.2))) (0,0,⟨none,0,0⟩,⟨none,0,0⟩)
  ⟨rfl,rfl,rfl,cS _,cS _,λe he=>by have:=c.at he;have:=lo 0;simp[dB]at *;omega,G0⟩ ?_ ?_
 .rintro⟨i,k,sA,sT⟩ ⟨(k':Int),(g':Int),(i':Int),u⟩ h4 ⟨a2,a4,a1,ba,I,d,g⟩
  dsimp only at a2 a4 a1 ba I d g⊢;subst a2;subst a4;subst a1;refine aL rfl (aL rfl (bY (b:=.sl) R.sa rfl (rr g.k).ob.cells rfl (aG (λhd=>?_) λhd=>?_)))
  .rw[gD,aN,bd]at hd
   refine eN (λtag vs h'=>tag=0/\∃k sA sT,vs=[aH (k:Nat),aH (dB 0 (x.2.take k))]/\k<=x.2.length/\(∀e,x.2[k]?=some e->((i+1:Nat):Int)<=e.1)/\G (i+1) k h' sA sT) ?_ ?_
   . -- the edits that begin here
    refine dV (G:=Nat×Sl×Sl) (λH (q:Int×Int×Unit) h'=>q.1=H.1/\q.2.1=dB 0 (x.2.take H.1)/\H.1<=x.2.length/\(∀e,x.2[H.1]?=some e->(i:Int)<=e.1)/\G i H.1 h' H.2.1 H.2.2) (λH=>x.2.length-H.1)
     (λtag vs h'=>tag=8/\∃k sA sT,vs=[aH (k:Nat),aH (dB 0 (x.2.take k))]/\k<=x.2.length/\(∀e,x.2[k]?=some e->((i+1:Nat):Int)<=e.1)/\G i k h' sA sT) (k,sA,sT) ⟨rfl,rfl,I,d,g⟩ ?_ ?_
    .rintro⟨k,sA,sT⟩ ⟨(k':Int),(g':Int),v⟩ h5 ⟨a4,a1,I,d,g⟩
     dsimp only at a4 a1 I d g⊢;subst a4;subst a1;refine bW (∃e,x.2[k]?=some e/\e.1=(i:Int)) ?_ λbb h6 e6 a0=>?_
     .refine aG (λp=>?_) λp=>aC ⟨rfl,Ext.refl _,false,rfl,Iff.intro (λh=>by cases h) λ⟨e,he,_⟩=>?_⟩
      .rw[aV,aN,a8]at p
       obtain⟨e,he⟩:∃e,x.2[k]?=some e:=⟨x.2[k]'(by omega),cM (by omega)⟩;refine jH (b:=bI) (z:=e.1) (b4 g.k) he rfl (aC ⟨rfl,Ext.refl _,_,rfl,?_⟩);rw[cJ];exact⟨λh=>⟨e,he,h⟩,λ⟨e',a9,h⟩=>by rw[he]at a9;cases a9;exact h⟩
      .rw[aZ,aN,a8]at p
       have:=(eK.1 he).1;omega
     have g6:G i k h6 sA sT:=g.ext e6;refine aG (λp=>?_) λp=>?_
     .obtain⟨e,he,g1⟩:=a0.1 p
      have g4:=c.at he;have cx:x.2.take (k+1)=x.2.take k++[e]:=by rw[eG,he];rfl
      have b1:dB 0 (x.2.take (k+1))=e.2.1:=by rw[cx,yZ]
      have c5:=(eK.1 he).1;have b8:=CX x.2 (k+1);rw[uI he,bM]at b8;have hD:D i (k+1)=D i k++Ux e.2.2.1.2:=by
       show Bo R.E 0 (x.2.take (k+1))++(R.E.drop (dB 0 (x.2.take (k+1))).toNat).take (i-(dB 0 (x.2.take (k+1))).toNat)=Bo R.E 0 (x.2.take k)++(R.E.drop (dB 0 (x.2.take k)).toNat).take (i-(dB 0 (x.2.take k)).toNat)++Ux e.2.2.1.2;rw[b1,show i-e.2.1.toNat=0 by omega,Ru,jX,cx,KF];simp only[Bo,jX];rw[show e.1.toNat=i by omega,eC]
      have dl:=bo i k ba;refine dV (G:=Nat×Sl×Sl) (λH (q:Int×Unit) h'=>q.1=H.1/\H.1<=e.2.2.1.2.length/\RI m T.size m.size R.enc R.limit h' H.2.1 H.2.2 ((D i k++Ux (e.2.2.1.2.take H.1)).map (·.1)) ((D i k++Ux (e.2.2.1.2.take H.1)).map (·.2))) (λH=>e.2.2.1.2.length-H.1)
       (λtag vs h'=>tag=10/\vs=[]/\∃sA sT,G i (k+1) h' sA sT) (0,sA,sT) ⟨rfl,cS _,by simpa using g6⟩ ?_ ?_
      .rintro⟨j,sA,sT⟩ ⟨(j':Int),w⟩ h7 ⟨a3,cg,J⟩
       dsimp only at a3 cg J⊢;subst a3;have b3:=b4 J.k;have ls:=Hj b3 he;have a5:=ls.len;refine jH (b:=.sl) (z:=e.2.2.1.1) b3 he rfl (aG (λC=>?_) λC=>?_)
       .rw[aV,aN,a5]at C
        obtain⟨b,hb⟩:∃b,e.2.2.1.2[j]?=some b:=⟨e.2.2.1.2[j]'(by omega),cM (by omega)⟩;have b0:e.2.2.1.2.getD ((j:Int)).toNat 0=b:=by rw[cN,gF,hb];rfl
        have ct:e.2.2.1.2.take (j+1)=e.2.2.1.2.take j++[b]:=by rw[eG,hb];rfl
        refine bY (b:=.sl) sA rfl J.o.cells rfl (jH (b:=.sl) (z:=e.2.2.1.1) b3 he rfl (qM ls (by omega) (by omega) λcd=>?_));rw[b0]at cd⊢;refine v5 J cd (eO.2 (by decide)) (by rw[bM,cD,dJ];omega) λh8 b6 ft g8=>?_;rw[bG (by omega) (by omega)];refine aC ⟨λ_=>⟨(j+1,b6,ft),((j:Int)+1,()),rfl,⟨by dsimp only;omega,by dsimp only;omega,?_⟩,by dsimp only;omega⟩,λA=>absurd rfl A⟩;dsimp only;rw[ct,show Ux (e.2.2.1.2.take j++[b])=Ux (e.2.2.1.2.take j)++[(b, -1)] by simp,<-eC];exact g8
       .rw[aZ,aN,a5]at C
        have:j=e.2.2.1.2.length:=by omega
        subst this;rw[fA]at J;exact aC ⟨λA=>absurd A (by decide),λ_=>⟨rfl,rfl,sA,sT,by show RI _ _ _ _ _ _ _ _ ((D i (k+1)).map _) ((D i (k+1)).map _);rw[hD];exact J⟩⟩
      .rintro tag vs h7 ⟨rfl,rfl,fl,fm,J⟩
       refine bK (bV (jH (b:=bI) (z:=e.2.1) (b4 J.k) he rfl ?_));rw[bG (by omega) (by omega)];refine aC ⟨λ_=>⟨(k+1,fl,fm),((k:Int)+1,e.2.1,()),rfl,⟨by dsimp only;omega,b1.symm,c5,λe' a9=>?_,J⟩,by dsimp only;omega⟩,λA=>absurd rfl A⟩;have:=c.at a9;dsimp only at this;rw[b1]at this;omega
     .have p:¬∃e,x.2[k]?=some e/\e.1=(i:Int):=λh=>by rw[a0.2 h]at p;cases p
      refine aC ⟨λA=>absurd A (by decide),λ_=>⟨rfl,k,sA,sT,rfl,I,λe he=>?_,g6⟩⟩;have h1:=d e he;have m:e.1≠(i:Int):=λh=>p ⟨e,he,h⟩;omega
    .rintro tag vs h5 ⟨rfl,k,sA,sT,rfl,I,d,g⟩
     have g3:=lo k;have g2:=hi k;refine bK (B6 (tys:=[tI, tI]) ((k:Int),dB 0 (x.2.take k),()) rfl ?_);refine bW (i<R.E.length/\dB 0 (x.2.take k)<=(i:Int)) ?_ λbb h6 e6 a0=>?_
     .refine aL rfl (aL rfl (bY (b:=.sl) R.sa rfl (rr g.k).ob.cells rfl (aG (λp=>aC ⟨rfl,Ext.refl _,_,rfl,?_⟩) λp=>aC ⟨rfl,Ext.refl _,false,rfl,Iff.intro (λh=>by cases h) λh=>?_⟩)))
      .rw[aV,aN,bd]at p
       rw[dT];exact⟨λh=>⟨by omega,h⟩,λh=>h.2⟩
      .rw[aZ,aN,bd]at p
       omega
     have g6:G i k h6 sA sT:=g.ext e6;refine aG (λp=>?_) λp=>?_
     .obtain⟨c1,c2⟩:=a0.1 p
      have r6:=rr g6.k;obtain⟨⟨a,t⟩,bt⟩:∃y,R.E[i]?=some y:=⟨R.E[i]'c1,cM c1⟩;have dr:(R.E.map (λy:El=>y.1)).getD ((i:Int)).toNat 0=a:=by rw[cN,gF,fX,bt];rfl
      have dx:(R.E.map (λy:El=>y.2)).getD ((i:Int)).toNat 0=t:=by rw[cN,gF,fX,bt];rfl
      have hD:D (i+1) k=D i k++[(a,t)]:=by
       show Bo R.E 0 (x.2.take k)++(R.E.drop (dB 0 (x.2.take k)).toNat).take (i+1-(dB 0 (x.2.take k)).toNat)=Bo R.E 0 (x.2.take k)++(R.E.drop (dB 0 (x.2.take k)).toNat).take (i-(dB 0 (x.2.take k)).toNat)++[(a,t)];rw[show i+1-(dB 0 (x.2.take k)).toNat=(i-(dB 0 (x.2.take k)).toNat)+1 by omega,eG,DO,show(dB 0 (x.2.take k)).toNat+(i-(dB 0 (x.2.take k)).toNat)=i by omega,bt,eC];rfl
      refine bY (b:=.sl) sA rfl g6.o.cells rfl (aL rfl (aL rfl (bY (b:=.sl) R.sa rfl r6.ob.cells rfl (qM r6.cur.1.kZ (by omega) (by rw[cD];dsimp only;omega) λcc=>?_))));rw[dr]at cc⊢;have dl:=bo i k ba;refine jG (k:=.i64) [a] (by intro z hz;rw[dE.1 hz];exact cc) (by simp) λh7 e7 o7=>?_;have J:=RI.ext g6 e7;refine sC (aI.1 J.o.cells 2 _ rfl) (n_ J o7.kZ (by rw[cD,Cq];omega) λh8 b6 g8=>bY (b:=.sl) sT rfl g8.o.cells rfl ?_);have r8:=rr g8.k;refine aL rfl (aL rfl (bY (b:=.sl) R.st rfl r8.ob.cells rfl (qM r8.cur.2.kZ (by omega) (by rw[cD];dsimp only;omega) λcf=>?_)));rw[dx]at cf⊢;refine jG (k:=.i64) [t] (by intro z hz;rw[dE.1 hz];exact cf) (by simp) λh9 e9 o9=>?_;have g9:=g8.ext e9;refine sC (aI.1 g9.o.cells 3 _ rfl) (ng g9 o9.kZ (by rw[cD,Cq];omega) λgf c9 de=>aC ⟨rfl,k,b6,c9,rfl,I,d,?_⟩);have m1:(D (i+1) k).map (λy:El=>y.1)=(D i k).map (λy:El=>y.1)++[a]:=by rw[hD];exact dL (l₁:=D i k) (l₂:=[(a,t)])
      have m2:(D (i+1) k).map (λy:El=>y.2)=(D i k).map (λy:El=>y.2)++[t]:=by rw[hD];exact dL (l₁:=D i k) (l₂:=[(a,t)])
      show RI _ _ _ _ _ _ _ _ ((D (i+1) k).map (λy:El=>y.1)) ((D (i+1) k).map (λy:El=>y.2));rw[m1,m2];exact de
     .have p:¬(i<R.E.length/\dB 0 (x.2.take k)<=(i:Int)):=λh=>by rw[a0.2 h]at p;cases p
      refine aC ⟨rfl,k,sA,sT,rfl,I,d,?_⟩;have hD:D (i+1) k=D i k:=by
       show Bo R.E 0 (x.2.take k)++(R.E.drop (dB 0 (x.2.take k)).toNat).take (i+1-(dB 0 (x.2.take k)).toNat)=Bo R.E 0 (x.2.take k)++(R.E.drop (dB 0 (x.2.take k)).toNat).take (i-(dB 0 (x.2.take k)).toNat)
       congr 1
       by_cases h:dB 0 (x.2.take k)<=(i:Int)
       .have hlen:R.E.length<=i:=by
         by_cases m:i<R.E.length
         .exact absurd ⟨m,h⟩ p
         .omega
        exact(iF (by rw[cZ];omega)).trans (iF (by rw[cZ];omega)).symm
       .rw[show i+1-(dB 0 (x.2.take k)).toNat=0 by omega,show i-(dB 0 (x.2.take k)).toNat=0 by omega]
      show RI _ _ _ _ _ _ _ _ ((D (i+1) k).map _) ((D (i+1) k).map _);rw[hD];exact g6
   .rintro tag vs h5 ⟨rfl,k,sA,sT,rfl,I,d,g⟩
    refine bK (B6 (tys:=[tI, tI]) ((k:Int),dB 0 (x.2.take k),()) rfl ?_);rw[bG (by omega) (by omega)];exact aC ⟨λ_=>⟨(i+1,k,sA,sT),((k:Int),dB 0 (x.2.take k),(i:Int)+1,()),rfl,⟨by dsimp only;omega,rfl,rfl,by dsimp only;omega,I,d,g⟩,by dsimp only;omega⟩,λA=>absurd rfl A⟩
  .rw[nQ,aN,bd]at hd
   have ec:k=x.2.length:=by
    by_cases cr:k<x.2.length
    .obtain⟨e,he⟩:∃e,x.2[k]?=some e:=⟨x.2[k]'cr,cM cr⟩
     have h1:=d e he;have m:=c.at he;omega
    .omega
   subst ec;refine aC ⟨λA=>absurd A (by decide),λ_=>⟨rfl,rfl,sA,sT,?_⟩⟩;have hD:D i x.2.length=iI R.E x.2:=by
    rw[ao,YE];show Bo R.E 0 (x.2.take x.2.length)++(R.E.drop (dB 0 (x.2.take x.2.length)).toNat).take (i-(dB 0 (x.2.take x.2.length)).toNat)=_;rw[fA,iF (by rw[cZ];omega)]
   have g':RI m T.size m.size R.enc R.limit h4 sA sT ((D i x.2.length).map (·.1)) ((D i x.2.length).map (·.2)):=g;rw[hD]at g';exact g'
 .rintro tag vs h4 ⟨rfl,rfl,sA,sT,g⟩
  have ih:=g.nh;have b9:=Yx c r.fit U;have gm:(iI R.E x.2).length<=1000000000+65536:=by
   have h1:=MH (nJ 0) c;have m:=F2 (LN R.E.length) c;rw[ao,YE,bM,cZ];omega
  have r4:=rr g.k
  let N:RX:=⟨m.size,R.enc,R.limit,sA,sT,⟨none,0,0⟩,iI R.E x.2,[],λi=>m.size<=i/\i<h4.size⟩
  have rN:AM m.size h4 N:=⟨r.enc,r.Bp,g.o,⟨g.la.mono (by omega),g.lt.mono (by omega)⟩,cC.nil _ _ _,λk V=>(by cases V),⟨bL _,(g.o.lt rfl).2⟩,λi hi=>by
   rcases hi with⟨y,C,rfl⟩|⟨y,C,rfl⟩
   .have:=g.la.own.lt C;exact⟨⟨by omega,this.2⟩,by show y.block≠m.size;omega,λa ha=>(by cases ha)⟩
   .have:=g.lt.own.lt C;exact⟨⟨by omega,this.2⟩,by show y.block≠m.size;omega,λa ha=>(by cases ha)⟩,λk V=>(by cases V),λa ha=>(by cases ha),λi hi=>hi,b9⟩
  refine bK (bV (aL rfl (aL rfl (bY (b:=bI) R.limit rfl r4.ob.cells rfl ?_))));have er:(iI R.E x.2).length<=1073741824:=by omega
  refine aM (Ws rN er) λ⟨(sz:Int),_⟩ h5 e5 a6=>?_;have a6:sz=kJ R.enc (iI R.E x.2):=a6;subst a6;have Y:=g.ext e5;have r5:=rr Y.k;have bp:=e2.trans Y.k;refine sC (aI.1 r5.ob.cells 1 _ rfl) (aG (λO=>?_) λO=>?_)
  .rw[dQ]at O
   exact aC ⟨rfl,same bp (.inr (.inr (.inr (.inl ⟨aw,c,U,O,rfl⟩)))) (by decide)⟩
  rw[gC]at O;refine bY (b:=.sl) sA rfl Y.o.cells rfl (aL rfl (aL rfl (eW (dG sA) r5.ob (by simp) rfl λh6 o6 u6=>?_)));have c6:aY (λi=>i=R.b) h5 h6:=pH u6;have g0:R.b<h.size:=(r.lo _ r.zb).2;have s2:=e2.size;have df:=c6.own Y.o λy C f=>by cases C;have f:m.size=R.b:=f;omega
  refine bY (b:=.sl) sT rfl df.cells rfl (aL rfl (aL rfl (eW (dG sT) o6 (by simp) rfl λh7 o7 u7=>?_)));have c7:aY (λi=>i=R.b) h6 h7:=pH u7;have ab:=c6.trans c7 λ_ _ f=>f;have jl:=ab.1;have r7:∀k,Ma n h5 k->(∀i,YK k i->i≠R.b)->Ma n h7 k:=λk s V=>s.oQ ab λi hi f=>V i hi f;have e8:=ab.pW Y.la λy C f=>by have:=(Y.la.own.lt C).1;have f:y.block=R.b:=f;omega
  have fj:=ab.pW Y.lt λy C f=>by have:=(Y.lt.own.lt C).1;have f:y.block=R.b:=f;omega
  have fv:=ab.own r5.sk λy C f=>(r.zs y C).2 f;have a7:∀i,YK (sA,sT,iI R.E x.2) i->T.size<=i/\i<h5.size:=λi hi=>by
   rcases hi with⟨y,C,rfl⟩|⟨y,C,rfl⟩
   .exact Y.la.own.lt C
   .exact Y.lt.own.lt C
  refine aC ⟨rfl,0,{R with sa:=sA,st:=sT,E:=iI R.E x.2,Z:=λi=>R.Z i\/YK (sA,sT,iI R.E x.2) i},rfl, .inr (.inr (.inr (.inr ⟨aw,c,U,O,rfl⟩))),?_,(aY.bH bp).trans ab λ_ _ f=>f,rfl,rfl,rfl,rfl,rfl,rfl,λi hi=>.inl hi,λi hi=>hi.imp id λhi=>by have:=a7 i hi;omega⟩;refine⟨r.enc,r.Bp,o7,⟨e8.mono (by omega),fj.mono (by omega)⟩,fv,λk V=>r7 k (r5.kept k V) λi hi=>(r.zk k V i hi).2.1, .inl r.zb,λi hi=>?_,λk V i hi=>⟨.inl (r.zk k V i hi).1,(r.zk k V i hi).2⟩,λa ha=>⟨.inl (r.zs a ha).1,(r.zs a ha).2⟩,λi hi=>?_,b9⟩
  .have hb:=a7 i hi
   exact⟨.inr hi,by show i≠R.b;omega,λa ha=>by have:=(r.lo _ (r.zs a ha).1).2;show a.block≠i;omega⟩
  .rcases hi with hi|hi
   .have:=r.lo i hi;have:=bp.size;exact⟨by omega,by omega⟩
   .have:=a7 i hi;exact⟨by omega,by omega⟩
end
end Go.Sw.Piece
namespace Go.Sw.Hist
open Go.Sw.Any Go.Sw.Codec Go.Sw.Piece
section
variable{P:Program}{S:cG}{h:aE}{Q:Nat->bE->aE->Prop}
variable{s:Sl}{l:aW}{e:Int×Int}
def OR(l:Sl):aK:=
 .bind (.loop [tS, tI] ((⟨none,0,0⟩:Sl),(0:Int),()) λ(r:Sl×Int×Unit)=>aR (fE r.2.1 (aQ l.len))
   (bD (bN (aJ l.aD) (eV r.2.1 l.len))<|.load (tI) (aB l.aD (bB (bP r.2.1) 1)) λ(v:Int)=>.alloc [aH v] λa=>.append 1 8 [aH 0] r.1 ⟨some a,1,1⟩ λ(q:Sl)=>.ret 0 [dG q,aH (aT .i64 r.2.1 1)])
   (.ret 2 [dG r.1])) λk vs=>aR (jC k 2) (.cast [tS] vs λ(r:Sl×Unit)=>.ret 0 [dG r.1]) .fail
theorem Kh(m:kB .i64 h s l)(T:l.length<=4294967296):aS P (OR s) [tS] h λ(y:Sl×Unit) h'=>bR h.size .i64 h' y.1 l:=by
 unfold OR aS;have E:aQ s.len=(l.length:Int):=by rw[aN,m.len]
 rw[E];refine bO (λ(x:Sl×Int×Unit) h'=>Ext h h'/\∃i:Nat,x.2.1=i/\i<=l.length/\bR h.size .i64 h' x.1 (l.take i)) (λx _=>((l.length:Int)-x.2.1).toNat)
  (λt vs h'=>Ext h h'/\t=2/\∃q,vs=[dG q]/\bR h.size .i64 h' q l) ⟨Ext.refl _,0,rfl,cS _,bR.nil ..⟩ ?_ ?_
 .rintro⟨(q:Sl),(V:Int),u⟩ B ⟨b,i,hi,hle,o⟩
  dsimp only at hi o⊢;subst hi;refine aG (λd=>?_) λd=>?_
  .rw[aV]at d
   have j:i<l.length:=by omega
   have K:=b.1;refine qM (m.ext b) (by omega) (by omega) λg=>?_;have p:l[i]?=some (l.getD (i:Int).toNat 0):=by simp[List.getD,cM j]
   generalize l.getD (i:Int).toNat 0=v at p g⊢;refine jG (k:=.i64) [v] (by intro z G;rw[dE.1 G];exact g) (by simp) λR c o2=>?_;have r:=(aY.bH (F:=λ_=>False) c).pW o λ_ _ x=>x;refine uJ r (by have:=c.1;omega) o2.kZ (by rw[dJ];simp;omega) (by rw[dJ];simp;omega) λI C U H J O _=>?_;rw[bG (by omega) (by omega)];have A:Ext h C:=jE.jA (b.trans c) J λa ha=>(r.own.lt ha).1;refine aC ⟨λ_=>⟨(I,(i:Int)+1,()),rfl,⟨A,i+1,by push_cast;rfl,by omega,?_⟩,by dsimp only;omega⟩,λf=>absurd rfl f⟩;rw[eG,p];exact H
  .rw[aZ]at d
   have:i=l.length:=by omega
   subst this;rw[fA]at o;exact aC ⟨λf=>absurd f (by decide),λ_=>⟨b,rfl,q,rfl,o⟩⟩
 .rintro t vs B ⟨b,rfl,q,rfl,o⟩
  exact bK (lZ (aC ⟨rfl,b,(q,()),rfl,o⟩))
theorem Mp(c:kB .i64 h s l)(b:l.length<=4294967296):aS P (yR S s) [tS] h λ(y:Sl×Unit) h'=>bR h.size .i64 h' y.1 l:=Kh c b
theorem TY(c:kB .i64 h s l)(b:l.length<=4294967296):aS P (zJ S s) [tS] h λ(y:Sl×Unit) h'=>bR h.size .i64 h' y.1 l:=Kh c b
theorem mu{n:Nat}{a:Addr}{m c:Nat}(o:cC n 1 h ⟨some a,m,c⟩ (Gm e)):Rd 2 h ⟨some a,1,1⟩ ([e].flatMap Gm):=
 ⟨rfl,λi v hi=>⟨a,rfl,aI.1 o.cells i v (by simpa using hi)⟩⟩
theorem LC{n:Nat}{l:uK}{K:Sl->aK}(o:C9 n h s l)(z:n<=h.size)(y:l.length<=4294967296)
  (g:∀h' q,C9 n h' q (l++[e])->aY (iE s) h h'->(∀a,q.aD=some a->s.aD=some a\/h.size<=a.block)->wp P (K q) h' Q) :
  wp P (.alloc [aH e.1,aH e.2] λa=>.append 2 16 [aH 0,aH 0] s ⟨some a,1,1⟩ K) h Q:=by
 refine λel=>?_;have b:Ext h (h.push (.cells (Gm e).toArray el)):=Ext.push ..;have o1:cC h.size 1 (h.push (.cells (Gm e).toArray el)) ⟨some ⟨h.size,0,none⟩,2,2⟩ (Gm e):=bX rfl (by decide) (by decide);show wp P _ (h.push (.cells (Gm e).toArray el)) _;generalize h.push (.cells (Gm e).toArray el)=t at b o1⊢;have j:=(aY.bH (F:=λ_=>False) b).own o λ_ _ x=>x;have p:=b.1;have r:=C9.len o;refine iS j (by omega) (mu o1) (by intro v c;simp at c;rcases c with rfl|rfl<;>rfl) rfl (by dsimp only;omega) (by dsimp only;omega) λq f o2 A m d _=>?_;refine g f q (by rw[C9,hQ];exact o2) (aY.pre b (aY.dP m λa ha _=>⟨a,ha,rfl⟩)) λa ha=>(d a ha).imp id λu=>by omega
theorem Wr{m:Nat}{l:uK}(g:C9 m h s l)(G:l.length<=4294967295):aS P (Ar S s) [tS] h λ(y:Sl×Unit) h'=>C9 h.size h' y.1 l:=by
 unfold Ar aS;have B:aQ s.len=(l.length:Int):=by rw[aN,C9.len g]
 rw[B];refine bO (λ(x:Sl×Int×Unit) h'=>Ext h h'/\∃i:Nat,x.2.1=i/\i<=l.length/\C9 h.size h' x.1 (l.take i)) (λx _=>((l.length:Int)-x.2.1).toNat)
  (λt vs h'=>Ext h h'/\t=2/\∃q,vs=[dG q]/\C9 h.size h' q l) ⟨Ext.refl _,0,rfl,cS _,cC.nil ..⟩ ?_ ?_
 .rintro⟨(q:Sl),(H:Int),u⟩ v ⟨b,i,hi,hle,o⟩
  dsimp only at hi o⊢;subst hi;refine aG (λd=>?_) λd=>?_
  .rw[aV]at d
   have c:i<l.length:=by omega
   have p:=b.1;refine i_ ((aY.bH (F:=λ_=>False) b).own g λ_ _ x=>x) rfl c ?_;dsimp only;refine LC (e:=el l i) o p (by rw[dJ];omega) λz C o2 c2 E=>?_;rw[bG (by omega) (by omega)];have r:Ext h z:=by
    refine⟨dI b.1 c2.1,λj A=>(c2.2.1 j (by omega) ?_).trans (b.2.1 j A),λa ha=>c2.2.2 a (b.2.2 a ha)⟩;rintro⟨a,ha,rfl⟩;have:=(o.lt ha).1;omega
   refine aC ⟨λ_=>⟨(C,(i:Int)+1,()),rfl,⟨r,i+1,by push_cast;rfl,by omega,?_⟩,by dsimp only;omega⟩,λf=>absurd rfl f⟩;rw[eG,OU c];exact o2
  .rw[aZ]at d
   have:i=l.length:=by omega
   subst this;rw[fA]at o;exact aC ⟨λf=>absurd f (by decide),λ_=>⟨b,rfl,q,rfl,o⟩⟩
 .rintro t vs v ⟨b,rfl,q,rfl,o⟩
  exact bK (lZ (aC ⟨rfl,b,(q,()),rfl,o⟩))
theorem T8{a:Int}:aS P (xY S a) [tB] h λ(y:Bool×Unit) _=>y.1=true↔Qa a:=by
 unfold xY aS Qa;refine bW (Qa a) ?_ λg m j hb=>aC ⟨rfl,j,(g,()),rfl,hb⟩;unfold Qa;refine aG (λf=>?_) λf=>?_
 .rw[dT]at f
  refine aG (λd=>aC ⟨rfl,Ext.refl _,true,rfl,?_⟩) λd=>aG (λb=>aC ⟨rfl,Ext.refl _,true,rfl,?_⟩) λb=>aG (λc=>aC ⟨rfl,Ext.refl _,true,rfl,?_⟩) λc=>aC ⟨rfl,Ext.refl _,_,rfl,?_⟩
  .rw[gD]at d;exact⟨λ_=>.inl ⟨f,d⟩,λ_=>rfl⟩
  .rw[cJ]at b;exact⟨λ_=>.inr (.inl b),λ_=>rfl⟩
  .rw[cJ]at c;exact⟨λ_=>.inr (.inr (.inl c)),λ_=>rfl⟩
  .rw[dM]at b c
   rw[cJ];have:¬a<=122:=λh=>by rw[gD.2 h]at d;cases d
   omega
 .rw[fC]at f
  refine aG (λb=>aC ⟨rfl,Ext.refl _,true,rfl,?_⟩) λb=>aG (λc=>aC ⟨rfl,Ext.refl _,true,rfl,?_⟩) λc=>aC ⟨rfl,Ext.refl _,_,rfl,?_⟩
  .rw[cJ]at b;exact⟨λ_=>.inr (.inl b),λ_=>rfl⟩
  .rw[cJ]at c;exact⟨λ_=>.inr (.inr (.inl c)),λ_=>rfl⟩
  .rw[dM]at b c
   rw[cJ];omega
end
section
variable{P:Program}{S:cG}{h:aE}{Q:Nat->bE->aE->Prop}
variable{α:Type}{i:Nat}{s:Sl}{l:List gY}{h':aE}{e:gY}{x:Gp}
theorem fT{f:α->bE}{m:Nat}(hm:∀x,(f x).length=m)(l:List α):(l.flatMap f).length=l.length*m:=by
 induction l with
 |nil=>simp
 |cons e l b=>rw[fY,bM,b,hm,fF,Co];omega
theorem Iw{f:α->bE}{m:Nat}(hm:∀x,(f x).length=m){l:List α}{j:Nat}{x:α}(hi:l[i]?=some x)(c:j<m):(l.flatMap f)[i*m+j]?=(f x)[j]? := by
 have b:=(eK.1 hi).1;have g:l=l.take i++(x::l.drop (i+1)):=by
  rw[<-(eK.1 hi).2,<-gK b,eX]
 have d:((l.take i).flatMap f).length=i*m:=by rw[fT hm,dJ,FK (rH b)]
 conv=>lhs;rw[g]
 rw[hQ,fY,jK (by omega),d,show i*m+j-i*m=j by omega,lV (by rw[hm];exact c)]
theorem uH{f:α->bE}{m n:Nat}(hm:∀x,(f x).length=m)(h0:0<m){l:List α}{x:α}(o:cC n m h s (l.flatMap f))(hi:l[i]?=some x):∃a,s.aD=some a/\Cells h (a.add (i*m)) (f x):=by
 obtain⟨a,ea,_⟩:=o.rd.2 (i*m+0) ((f x)[0]'(by rw[hm];exact h0)) (by rw[Iw hm hi h0];simp);refine⟨a,ea,aI.2 λj v c=>?_⟩;have d:j<m:=by rw[<-hm x];exact(eK.1 c).1
 obtain⟨b,eb,g⟩:=o.rd.2 (i*m+j) v (by rw[Iw hm hi d];exact c);rw[ea]at eb;cases eb;rw[add_add];exact g
abbrev Z3(e:gY):bE:=[aH e.1,aH e.2.1,dG e.2.2.1.1]
structure L5(n:Nat)(h:aE)(s:Sl)(l:List gY):Prop where
 own:cC n 3 h s (l.flatMap Z3)
 put:∀e∈l,bR n .i64 h e.2.2.1.1 e.2.2.1.2/\cR .i64 e.1/\cR .i64 e.2.1
theorem L5.oQ{n:Nat}{F:Nat->Prop}(o:L5 n h s l)(c:aY F h h')(f:∀i,n<=i->i<h.size->¬F i):L5 n h' s l:=
 ⟨c.own o.own λa ha=>f _ (o.own.lt ha).1 (o.own.lt ha).2,λe he=>let ⟨a,b,d⟩:=o.put e he;⟨c.pW a λx g=>f _ (a.own.lt g).1 (a.own.lt g).2,b,d⟩⟩
theorem L5.ext{n:Nat}(o:L5 n h s l)(e:Ext h h'):L5 n h' s l:=o.oQ (aY.bH (F:=λ_=>False) e) λ_ _ _ x=>x
theorem L5.len{n:Nat}{s:Sl}{l:List gY}(o:L5 n h s l):s.len=l.length:=by have:=o.own.1;rw[fT (m:=3) λ_=>rfl]at this;omega
theorem L5.ok{n:Nat}{s:Sl}{l:List gY}(o:L5 n h s l):(Sh.list jD).ok h (s,l):=by
 refine⟨o.len,o.own.2.1,o.own.2.2.1,λi y hi=>?_⟩;obtain⟨a,ea,c⟩:=uH (m:=3) (λ_=>rfl) (by decide) o.own hi;obtain⟨d,f,g⟩:=o.put y (eL hi);refine⟨a,ea,aI.2 λj v b=>?_,⟨f,g,VJ d.kZ,trivial⟩⟩;refine aI.1 c j v ?_
 match j,b with
 |0,b=>exact b
 |1,b=>exact b
 |2,b=>exact b
 |j+3,b=>simp[Sh.cells]at b
theorem VQ{n:Nat}{K:Sl->aK}(o:L5 n h s l)(H:n<=h.size)(G:l.length<=1099511627776)(he:bR n .i64 h e.2.2.1.1 e.2.2.1.2)(h1:cR .i64 e.1)(t:cR .i64 e.2.1)(j:∀x∈e::l,∀a,x.2.2.1.1.aD=some a->∀b,s.aD=some b->a.block≠b.block)
  (u:∀h' q,L5 n h' q (l++[e])->aY (iE s) h h'->(∀a,q.aD=some a->s.aD=some a\/h.size<=a.block)->wp P (K q) h' Q) :
  wp P (.alloc [aH e.1,aH e.2.1,dG e.2.2.1.1] λa=>.append 3 40 [aH 0,aH 0, .slice none 0 0] s ⟨some a,1,1⟩ K) h Q:=by
 refine λel=>?_;have f:Ext h (h.push (.cells (Z3 e).toArray el)):=Ext.push ..;have o1:cC h.size 1 (h.push (.cells (Z3 e).toArray el)) ⟨some ⟨h.size,0,none⟩,3,3⟩ (Z3 e):=bX rfl (by decide) (by decide);show wp P _ (h.push (.cells (Z3 e).toArray el)) _;generalize h.push (.cells (Z3 e).toArray el)=r at f o1⊢;have y:=o.ext f;have B:=f.1;have C:=o.len;have rd:Rd 3 r ⟨some ⟨h.size,0,none⟩,1,1⟩ ([e].flatMap Z3):=⟨rfl,λi v hi=>⟨_,rfl,aI.1 o1.cells i v (by simpa using hi)⟩⟩;refine iS y.own (by omega) rd (by intro v m;simp at m;rcases m with rfl|rfl|rfl<;>rfl) rfl (by dsimp only;omega) (by dsimp only;omega) λq g o2 I A p _=>?_;have c2:aY (iE s) h g:=aY.pre f (aY.dP A λa ha _=>⟨a,ha,rfl⟩);refine u g q ⟨by rw[hQ];exact o2,λx d=>?_⟩ c2 λa ha=>(p a ha).imp id λE=>by omega
 have aP:∀x∈e::l,bR n .i64 h x.2.2.1.1 x.2.2.1.2->bR n .i64 g x.2.2.1.1 x.2.2.1.2:=λx d z=>c2.pW z λa ha ⟨b,hb,e⟩=>j x d a ha b hb e.symm;rcases dD.1 d with d|d
 .obtain⟨a,b,c⟩:=o.put x d
  exact⟨aP x (dZ _ d) a,b,c⟩
 .rw[dE.1 d]
  exact⟨aP e (cX ..) he,h1,t⟩
theorem UF{f:Nat}{v:Value}{K:aK}(ok:(Sh.list jD).ok h x)(he:x.2[i]?=some e)(g:(jD.cells e)[f]?=some v)(d:wp P K h Q) :
  wp P (.check (aB (aB x.1.aD (bB (bP (i:Int)) 3)) f) [v] K) h Q:=by
 obtain⟨a,ea,c,_⟩:=ok.2.2.2 i e he;refine⟨⟨(a.add (i*3)).add f,by rw[ea,gX,eR,cN];rfl,aI.2 λj w b=>?_⟩,d⟩;cases j with
 |zero=>
  cases b;rw[add_zero'];exact aI.1 c f _ g
 |succ j=>simp at b
theorem XZ(ok:(Sh.list jD).ok h x)(hl:x.2.length<=1073741824)(Z:∀e∈x.2,e.2.2.1.2.length<=4294967296) :
  aS P (xZ S x.1) [tS] h λ(y:Sl×Unit) h'=>∃O,O.map gH=x.2.map gH/\L5 h.size h' y.1 O:=by
 unfold xZ aS;have Y:aQ x.1.len=(x.2.length:Int):=by rw[aN,ok.len]
 rw[Y];refine bO (λ(s:Sl×Int×Unit) h'=>Ext h h'/\∃(i:Nat) (l:List gY),s.2.1=i/\i<=x.2.length/\l.map gH=(x.2.take i).map gH/\L5 h.size h' s.1 l/\∀e∈l,∀a,e.2.2.1.1.aD=some a->∀b,s.1.aD=some b->a.block≠b.block) (λs _=>((x.2.length:Int)-s.2.1).toNat)
  (λt vs h'=>Ext h h'/\t=2/\∃q l,vs=[dG q]/\l.map gH=x.2.map gH/\L5 h.size h' q l) ⟨Ext.refl _,0,[],rfl,cS _,rfl,⟨cC.nil .., λe he=>by cases he⟩,λe he=>by cases he⟩ ?_ ?_
 .rintro⟨(q:Sl),(si:Int),u⟩ v ⟨p,i,l,hi,hle,g,o,A⟩
  dsimp only at hi o A⊢;subst hi;refine aG (λG=>?_) λG=>?_
  .rw[aV]at G
   have I:i<x.2.length:=by omega
   obtain⟨c,d⟩:∃c,x.2[i]?=some c:=⟨x.2[i],cM I⟩;have K:=p.1;have m:=ok.ext p;have ab:l.length=i:=by have:=congrArg List.length g;rw[cD,cD,dJ]at this;omega
   refine jH (b:=bI) (z:=c.1) m d rfl (jH (b:=bI) (z:=c.2.1) m d rfl (jH (b:=.sl) (z:=c.2.2.1.1) m d rfl ?_));have J:=Z c (eL d);refine aM (Mp (Hj m d) J) λ⟨(w:Sl),_⟩ C r ow=>?_;have ow:bR v.size .i64 C w c.2.2.1.2:=ow;have B:=m.ext r;refine UF B d rfl (UF B d rfl ?_);have E:=B.el d;have al:=r.1;have o2:=o.ext r;have R:∀b,q.aD=some b->b.block<v.size:=λb hb=>(o.own.lt hb).2;refine VQ (e:=(c.1,c.2.1,(w,c.2.2.1.2),())) o2 (by omega) (by omega) (ow.mono K) E.1 E.2.1 (λy f a ha b hb=>?_) λV q' o3 c3 T=>?_
   .rcases eJ.1 f with rfl|f
    .have v:=(ow.own.lt ha).1;have C:=R b hb;omega
    .exact A y f a ha b hb
   rw[bG (by omega) (by omega)];have U:Ext h V:=by
    refine⟨by have:=c3.1;omega,λj W=>(c3.2.1 j (by omega) ?_).trans ((p.trans r).2.1 j W),λa ha=>c3.2.2 a ((p.trans r).2.2 a ha)⟩;rintro⟨a,ha,rfl⟩;have:=(o.own.lt ha).1;omega
   refine aC ⟨λ_=>⟨(q',(i:Int)+1,()),rfl,⟨U,i+1,l++[(c.1,c.2.1,(w,c.2.2.1.2),())],by push_cast;rfl,by omega,?_,o3,λy f a ha b hb=>?_⟩,by dsimp only;omega⟩,λH=>absurd rfl H⟩
   .rw[eG,d,dL,dL,g];rfl
   .have K4:∀a,y.2.2.1.1.aD=some a->a.block<C.size/\∀b,q.aD=some b->a.block≠b.block:=λa ha=>by
     rcases dD.1 f with f|f
     .exact⟨((o2.put y f).1.own.lt ha).2,λb hb=>A y f a ha b hb⟩
     .rw[dE.1 f]at ha
      exact⟨(ow.own.lt ha).2,λb hb=>by have v:=(ow.own.lt ha).1;have C:=R b hb;omega⟩
    rcases T b hb with hb|hb
    .exact(K4 a ha).2 b hb
    .have:=(K4 a ha).1;omega
  .rw[aZ]at G
   have:i=x.2.length:=by omega
   subst this;rw[fA]at g;exact aC ⟨λH=>absurd H (by decide),λ_=>⟨p,rfl,q,l,rfl,g,o⟩⟩
 .rintro t vs v ⟨p,rfl,q,l,rfl,g,o⟩
  exact bK (lZ (aC ⟨rfl,p,(q,()),rfl,l,g,o⟩))
theorem DD{K:Addr->aK}(ok:(Sh.list jD).ok h x)(he:x.2[i]?=some e)
  (f:∀h' a,Ext h h'->cC h.size 1 h' ⟨some a,3,3⟩ (Z3 e)->wp P (K a) h' Q) :
  wp P (bD (bN (aJ x.1.aD) (eV (i:Int) x.1.len))<|.load (.agg [.int .i64, .int .i64, .sl]) (aB x.1.aD (bB (bP (i:Int)) 3)) λ(r:Int×Int×Sl×Unit)=>
   .alloc [aH 0,aH 0, .slice none 0 0] λa=>.store (some a) [aH r.1,aH r.2.1,dG r.2.2.1] (K a)) h Q:=by
 refine QQ (e:=jD) (x:=x) (y:=e) ok (by omega) (by simpa using he) rfl (z:=(e.1,e.2.1,e.2.2.1.1,())) rfl ?_;refine λel=>?_;have b:Ext h (h.push (.cells [aH 0,aH 0, .slice none 0 0].toArray el)):=Ext.push ..;have o1:cC h.size 1 (h.push (.cells [aH 0,aH 0, .slice none 0 0].toArray el)) ⟨some ⟨h.size,0,none⟩,3,3⟩ [aH 0,aH 0, .slice none 0 0]:=bX rfl (by decide) (by decide);show wp P _ (h.push (.cells [aH 0,aH 0, .slice none 0 0].toArray el)) _;generalize h.push (.cells [aH 0,aH 0, .slice none 0 0].toArray el)=j at b o1⊢;refine DE (Z3 e) o1 rfl (by intro v c;simp only[Z3,eJ,lU,or_false]at c;rcases c with rfl|rfl|rfl<;>rfl) λd o2 g m=>?_;exact f d _ (jE.jA b g λa ha=>by cases ha;exact bL _) o2
theorem Ve{m:Int}(ok:(Sh.list jD).ok h x)(hb:KX (x.2.map dH))(h0:0<=m)(h1:m<=2199023255552) :
  aS P (vG S m x.1) [tI, tB] h λ(y:Int×Bool×Unit) _=>y.1=(qL m (x.2.map dH)).1/\y.2.1=(qL m (x.2.map dH)).2:=by
 have a1:=ok.len;have hlen:x.2.length<=131072:=by have:=hb.1;rwa [cD]at this
 unfold vG aS;have hn:bJ .i64 (aQ x.1.len) 1=(x.2.length:Int)-1:=by rw[aN,a1];exact cY (by omega) (by omega)
 rw[hn];refine bO (λ(s:Int×Bool×Int×Unit) h'=>Ext h h'/\∃i:Nat,i<=x.2.length/\s.2.2.1=(i:Int)-1/\s.1=(qL m ((x.2.drop i).map dH)).1/\s.2.1=(qL m ((x.2.drop i).map dH)).2) (λs _=>(s.2.2.1+1).toNat)
  (λt vs h'=>Ext h h'/\t=2/\vs=[aH (qL m (x.2.map dH)).1, .bool (qL m (x.2.map dH)).2]) ⟨Ext.refl _,x.2.length,bL _,rfl,by simp[qL],by simp[qL]⟩ ?_ ?_
 .rintro⟨(c:Int),(d:Bool),(i':Int),u⟩ T ⟨r,i,hi,O,hm,g⟩
  dsimp only at O hm g⊢;subst O;refine aG (λU=>?_) λU=>?_
  .rw[dT]at U
   obtain⟨j,rfl⟩:∃j,i=j+1:=⟨i-1,by omega⟩;have hj:(((j+1:Nat):Int)-1)=(j:Int):=by omega
   rw[hj];obtain⟨e,he⟩:∃e,x.2[j]?=some e:=⟨x.2[j]'(by omega),cM (by omega)⟩;have f:x.2.drop j=e::x.2.drop (j+1):=by
    have a0:=(eK.1 he).1;rw[<-(eK.1 he).2,<-gK a0]
   have V:qL m ((x.2.drop j).map dH)=Lu (dH e) (qL m ((x.2.drop (j+1)).map dH)):=by rw[f];rfl
   have ab:=hb.2 (dH e) (dC.2 ⟨e,eL he,rfl⟩);have J:=CJ h0 h1 (hb.drop (j+1));rw[<-LO]at J;have a3:((x.2.drop (j+1)).map dH).length<=131072:=by rw[cD,cZ];omega
   rw[<-hm]at J;have gv:qL m ((x.2.drop (j+1)).map dH)=(c,d):=by rw[hm,g]
   rw[gv]at V;have ao:∀v:Int×Bool,Lu (dH e) (c,d)=v->∀z,Ext T z->(Ext h z/\∃i:Nat,i<=x.2.length/\(j:Int)-1=(i:Int)-1/\v.1=(qL m ((x.2.drop i).map dH)).1/\v.2=(qL m ((x.2.drop i).map dH)).2):=λv hv z C=>⟨r.trans C,j,by omega,rfl,by rw[V,hv],by rw[V,hv]⟩;have al:=(ok.ext r).el he;have p:e.2.2.1.1.len=e.2.2.1.2.length:=al.2.2.1.1;obtain⟨E,G,H,a2,I⟩:=ab;have E:0<=e.1:=E;have G:e.1<=e.2.1:=G;have H:e.2.1<=2199023255552:=H;have I:(e.2.2.1.2.length:Int)<=2199023255552:=I;refine eN (λt vs h'=>t=0/\Ext T h'/\vs=[aH (Lu (dH e) (c,d)).1, .bool (Lu (dH e) (c,d)).2]) ?_ ?_
   .refine DD (ok.ext r) he λA a R o3=>?_
    have f0:∀{K:Int->aK} {Q},wp P (K e.1) A Q->wp P (.load (tI) (aB (some a) 0) K) A Q:=λW=>bY (b:=bI) e.1 rfl o3.cells rfl W;have f1:∀{K:Int->aK} {Q},wp P (K e.2.1) A Q->wp P (.load (tI) (aB (some a) 1) K) A Q:=λW=>bY (b:=bI) e.2.1 rfl o3.cells rfl W;refine bY (b:=.sl) e.2.2.1.1 rfl o3.cells rfl (f0 (aG (λf=>aC ⟨rfl,R,?_⟩) λf=>f1 (aG (λo=>f1 (f0 ?_)) λo=>?_)))
    .rw[aV]at f
     unfold Lu;rw[if_pos (show c<(dH e).1 from f)]
    .rw[aZ]at f
     rw[dT]at o;rw[aN,p,cY (a:=e.2.1) (by omega) (by omega),bG (by omega) (by omega),cY (by omega) (by omega)];refine aC ⟨rfl,R,?_⟩;unfold Lu;rw[if_neg (show ¬c<(dH e).1 by show ¬c<e.1;omega),if_pos (show(dH e).2.1<=c from o)];show[aH _, .bool d]=[aH (c+((e.2.2.1.2.length:Int)-(e.2.1-e.1))), .bool d]
     congr 2;omega
    .rw[aZ]at f
     rw[fC]at o;refine iO (tys:=[tI]) (λ(y:Int×Unit) h'=>y.1=min (c-e.1) e.2.2.1.2.length/\h'=A) ?_ λ⟨(y:Int),_⟩ z C B=>?_
     .refine f0 (aG (λY=>f0 (aC ⟨rfl,Ext.refl _,(bJ .i64 c e.1,()),rfl,?_,rfl⟩)) λY=>aC ⟨rfl,Ext.refl _,(aQ e.2.2.1.1.len,()),rfl,?_,rfl⟩)
      .rw[aV,cY (by omega) (by omega),aN,p]at Y
       show bJ .i64 c e.1=_;rw[cY (by omega) (by omega)];omega
      .rw[aZ,cY (by omega) (by omega),aN,p]at Y
       show aQ e.2.2.1.1.len=_;rw[aN,p];omega
     .obtain⟨B,rfl⟩:=B
      have B:y=min (c-e.1) e.2.2.1.2.length:=B;subst B;refine f0 ?_;rw[bG (by omega) (by omega)];refine aC ⟨rfl,R,?_⟩;unfold Lu;rw[if_neg (show ¬c<(dH e).1 by show ¬c<e.1;omega),if_neg (show ¬(dH e).2.1<=c by show ¬e.2.1<=c;omega)];rfl
   .rintro t vs z ⟨rfl,C,rfl⟩
    refine bK ⟨((Lu (dH e) (c,d)).1,(Lu (dH e) (c,d)).2,()),rfl,?_⟩;dsimp only;rw[cY (by omega) (by omega)];exact aC ⟨λ_=>⟨((Lu (dH e) (c,d)).1,(Lu (dH e) (c,d)).2,(j:Int)-1,()),rfl,ao _ rfl z C,by dsimp only;omega⟩,λZ=>absurd rfl Z⟩
  .rw[fC]at U
   have aw:i=0:=by omega
   subst aw;rw[DR]at hm g;refine aC ⟨λZ=>absurd Z (by decide),λ_=>⟨r,rfl,?_⟩⟩;show[aH c, .bool d]=_;rw[hm,g]
 .rintro t vs T ⟨r,rfl,rfl⟩
  exact bK ⟨((qL m (x.2.map dH)).1,(qL m (x.2.map dH)).2,()),rfl,aC ⟨rfl,r,(_,_,()),rfl,rfl,rfl⟩⟩
end
section
variable{P:Program}{S:cG}{h:aE}{Q:Nat->bE->aE->Prop}{k:Nat}{rho:Nat->Nat}
variable{rho':Nat->Nat}{h':aE}{s:Sl}{F:Nat->Prop}{i:Nat}{M:Mo}
def sU(r size:Nat)(rho:Nat->Nat)(h:aE)(s:Sl)(vs:bE):Prop:=cC 0 size h s vs/\∀a,s.aD=some a->rho a.block=r
theorem sU.aP{r size:Nat}{vs:bE}(o:sU r size rho h s vs)(c:aY F h h')(b:∀i,i<h.size->F i->rho i≠r)(h0:∀i,i<h.size->rho i=r->rho' i=r):sU r size rho' h' s vs:=
 ⟨c.own o.1 λa ha d=>b _ (o.1.lt ha).2 d (o.2 a ha),λa ha=>h0 _ (o.1.lt ha).2 (o.2 a ha)⟩
def BH(r:Nat)(rho:Nat->Nat)(h:aE)(s:Sl)(l:aW):Prop:=bR 0 .i64 h s l/\∀a,s.aD=some a->rho a.block=r
theorem BH.aP{r:Nat}{l:aW}(o:BH r rho h s l)(c:aY F h h')(b:∀i,i<h.size->F i->rho i≠r)(h0:∀i,i<h.size->rho i=r->rho' i=r):BH r rho' h' s l:=
 ⟨c.pW o.1 λa ha d=>b _ (o.1.own.lt ha).2 d (o.2 a ha),λa ha=>h0 _ (o.1.own.lt ha).2 (o.2 a ha)⟩
def Mb(p:aE->Prop)(rho:Nat->Nat)(h:aE):Prop:=∀h',aY (λi=>0<rho i) h h'->p h'
theorem Mb.now{p:aE->Prop}(k:Mb p rho h):p h:=k h (aY.refl _ h)
theorem Mb.aP{p:aE->Prop}(k:Mb p rho h)(c:aY F h h')(f:∀i,i<h.size->F i->rho i≠0)(h0:∀i,i<h.size->rho i=0->rho' i=0):Mb p rho' h':=λg d=>
 k g ((c.mono λi hi j=>Nat.pos_of_ne_zero (f i hi j)).trans d λi hi b=>by
  rcases Nat.eq_zero_or_pos (rho i)with h|h
  .have b:0<rho' i:=b
   rw[h0 i hi h]at b;omega
  .exact h)
structure DG where
 c:XB
 bg:Int
 en:Int
 st:Int
abbrev DW(g:DG):bE:=[dG g.c.1,aH g.bg,aH g.en,aH g.st]
def wH(g:DG):GM:=⟨g.c.2.map λe=>e.2.map gH,g.bg,g.en,g.st⟩
structure Doc where
 b:Addr
 t:Nat
 enc:Int
 limit:Int
 depth:Int
 sb:Sl
 lb:aW
 sa:Sl
 st:Sl
 E:List El
 sd:Sl
 D:List DG
 sn:Sl
 R:List DG
 lost:Int
 sm:Sl
 ms:uK
 sw:Sl
 ws:aW
 op:Bool
 c:XB
 bg:Int
 en:Int
 gs:Int
 so:Sl
 om:uK
 sv:Sl
 ow:aW
 saved:Int
 last:Int
abbrev AQ(D:Doc):bE:=[aH D.enc,aH D.limit,aH D.depth,dG D.sb, .pointer (some (B9 D.t)),dG D.sd,dG D.sn,aH D.lost,dG D.sm,dG D.sw, .bool D.op,dG D.c.1,aH D.bg,aH D.en,aH D.gs,dG D.so,dG D.sv,aH D.saved,aH D.last]
abbrev qv(D:Doc):bE:=[aH D.enc,aH D.limit,dG D.sa,dG D.st, .slice none 0 0]
structure DocP(k:Nat)(rho:Nat->Nat)(h:aE)(D:Doc):Prop where
 ot:sU (k+2) 1 rho h ⟨some (B9 D.t),5,5⟩ (qv D)
 ea:BH 0 rho h D.sa (D.E.map (·.1))
 et:BH 0 rho h D.st (D.E.map (·.2))
 HD:Mb (λh=>kB .u8 h D.sb D.lb) rho h
 dn:sU (k+6) 4 rho h D.sd (D.D.flatMap DW)
 dk:∀g∈D.D,Mb (λh=>AJ.ok h g.c) rho h
 nx:Mb (λh=>Rd 4 h D.sn (D.R.flatMap DW)) rho h
 nc:D.sn.len<=D.sn.cap/\D.sn.cap<2^63
 nk:∀g∈D.R,Mb (λh=>AJ.ok h g.c) rho h
 ma:sU (k+3) 2 rho h D.sm (D.ms.flatMap Gm)
 wa:BH (k+4) rho h D.sw D.ws
 nw:D.op=true->sU (k+5) 1 rho h D.c.1 (D.c.2.map λy=>dG y.1)/\(∀y∈D.c.2,Mb (λh=>(Sh.list jD).ok h y) rho h)/\sU (k+7) 2 rho h D.so (D.om.flatMap Gm)/\BH (k+8) rho h D.sv D.ow
 kn:eE D.enc
 li:0<=D.limit/\D.limit<=65536
 fi:∀a,a∈D.E.map (·.1)->0<bU D.enc a
structure eS(k:Nat)(rho:Nat->Nat)(h:aE)(D:Doc):Prop extends DocP k rho h D where
 ob:sU (k+1) 1 rho h ⟨some D.b,19,19⟩ (AQ D)
variable{D:Doc}
theorem DocP.aP{rho':Nat->Nat}{h':aE}{F:Nat->Prop}(d:DocP k rho h D)(c:aY F h h')(j:∀i,i<h.size->F i->rho i≠0/\¬(k+2<=rho i/\rho i<=k+8))(h0:∀i,i<h.size->rho i=0\/(k+2<=rho i/\rho i<=k+8)->rho' i=rho i):DocP k rho' h' D where
 ot:=d.ot.aP c (λi hi b=>by have:=j i hi b;omega) λi hi f=>by rw[h0 i hi (by omega)];exact f
 ea:=d.ea.aP c (λi hi b=>by have:=j i hi b;omega) λi hi f=>by rw[h0 i hi (by omega)];exact f
 et:=d.et.aP c (λi hi b=>by have:=j i hi b;omega) λi hi f=>by rw[h0 i hi (by omega)];exact f
 HD:=d.HD.aP c (λi hi b=>(j i hi b).1) λi hi f=>by rw[h0 i hi (by omega)];exact f
 dn:=d.dn.aP c (λi hi b=>by have:=j i hi b;omega) λi hi f=>by rw[h0 i hi (by omega)];exact f
 dk:=λg m=>(d.dk g m).aP c (λi hi b=>(j i hi b).1) λi hi f=>by rw[h0 i hi (by omega)];exact f
 nx:=d.nx.aP c (λi hi b=>(j i hi b).1) λi hi f=>by rw[h0 i hi (by omega)];exact f
 nc:=d.nc
 nk:=λg m=>(d.nk g m).aP c (λi hi b=>(j i hi b).1) λi hi f=>by rw[h0 i hi (by omega)];exact f
 ma:=d.ma.aP c (λi hi b=>by have:=j i hi b;omega) λi hi f=>by rw[h0 i hi (by omega)];exact f
 wa:=d.wa.aP c (λi hi b=>by have:=j i hi b;omega) λi hi f=>by rw[h0 i hi (by omega)];exact f
 nw:=λu=>by
  obtain⟨o,p,r,t⟩:=d.nw u;exact⟨o.aP c (λi hi b=>by have:=j i hi b;omega) λi hi f=>by rw[h0 i hi (by omega)];exact f,λy v=>(p y v).aP c (λi hi b=>(j i hi b).1) λi hi f=>by rw[h0 i hi (by omega)];exact f,
   r.aP c (λi hi b=>by have:=j i hi b;omega) λi hi f=>by rw[h0 i hi (by omega)];exact f,t.aP c (λi hi b=>by have:=j i hi b;omega) λi hi f=>by rw[h0 i hi (by omega)];exact f⟩
 kn:=d.kn
 li:=d.li
 fi:=d.fi
theorem eS.aP{rho':Nat->Nat}{h':aE}{F:Nat->Prop}(d:eS k rho h D)(c:aY F h h')(f:∀i,i<h.size->F i->rho i≠0/\¬(k+1<=rho i/\rho i<=k+8))(h0:∀i,i<h.size->rho i=0\/(k+1<=rho i/\rho i<=k+8)->rho' i=rho i):eS k rho' h' D where
 toDocP:=d.toDocP.aP c (λi hi b=>by have:=f i hi b;omega) λi hi g=>h0 i hi (by omega)
 ob:=d.ob.aP c (λi hi b=>by have:=f i hi b;omega) λi hi g=>by rw[h0 i hi (by omega)];exact g
theorem eS.zr{h':aE}(d:eS k rho h D)(e:Ext h h'):eS k (Hist.zr h rho) h' D:=
 d.aP (aY.bH (F:=λ_=>False) e) (λ_ _ f=>f.elim) λi hi _=>sM hi
theorem eS.ext(d:eS k rho h D)(e:Ext h h'):eS k rho h' D:=
 d.aP (aY.bH (F:=λ_=>False) e) (λ_ _ f=>f.elim) λ_ _ _=>rfl
theorem eS.rd(r:eS k rho h D){b:B}(x:b.den){K:b.den->aK}(d:(AQ D)[i]?=some (b.inj x))(c:wp P (K x) h Q) :
  wp P (bD (aJ (some D.b))<|bD (aJ (some D.b))<|.load (.one b) (aB (some D.b) i) K) h Q:=
 aL rfl (aL rfl (bY (b:=b) x rfl r.ob.1.cells d c))
theorem eS.uj(r:eS k rho h D){b:B}(x:b.den){K:b.den->aK}(d:(qv D)[i]?=some (b.inj x))(c:wp P (K x) h Q) :
  wp P (bD (aJ (some (B9 D.t)))<|bD (aJ (some (B9 D.t)))<|.load (.one b) (aB (some (B9 D.t)) i) K) h Q:=
 aL rfl (aL rfl (bY (b:=b) x rfl r.ot.1.cells d c))
theorem eS.wr(r:eS k rho h D)(d:Doc){v:Value}{K:aK}(hi:i<19)(g:flat v=true)(p:AQ d=(AQ D).set i v)(hb:d.b=D.b)
  (m:∀h',aY (λi=>i=D.b.block) h h'->DocP k rho h' D->DocP k rho h' d)
  (j:∀h',eS k rho h' d->aY (λi=>i=D.b.block) h h'->wp P K h' Q) :
  wp P (bD (aJ (some D.b))<|bD (aJ (some D.b))<|.store (aB (some D.b) i) [v] K) h Q:=by
 refine aL rfl (aL rfl (eW v r.ob.1 (by simpa[AQ] using hi) g λh' o u=>?_));have c:aY (λi=>i=D.b.block) h h':=aY.dP u λa ha _=>by cases ha;rfl
 have f:=r.ob.2 D.b rfl;refine j h' {toDocP:=m h' c (r.toDocP.aP c (λi hi e=>by subst e;omega) λ_ _ _=>rfl),ob:=⟨by rw[hb,p];exact o,λa ha=>by cases ha;rw[hb];exact f⟩} c
structure DocM(D:Doc)(M:Mo):Prop where
 E:D.E=M.E
 dn:D.D.map wH=M.lost++M.done
 lo:D.lost=M.lost.length
 nx:D.R.map wH=M.next
 ms:D.ms=M.marks
 ws:D.ws=M.watched
 op:D.op=M.now.isSome
 nw:∀q,M.now=some q->(D.c.2.map λe=>e.2.map gH)=q.kQ/\D.bg=q.bg/\D.om=q.om/\D.ow=q.ow
 sv:D.saved=M.saved
 la:D.last=M.last
 dp:D.depth=M.depth
 e0:gT 0 0 (bC D.enc D.lb)=M.E0
 li:(D.lb.length:Int)<=D.limit
def jL(k:Nat)(h:aE)(rho:Nat->Nat)(h':aE)(D:Doc)(M:Mo):Prop:=
 ∃rho' D',cQ k h rho h' rho'/\eS k rho' h' D'/\DocM D' M/\D'.b=D.b/\D'.enc=D.enc/\D'.limit=D.limit
theorem jL.ext(d:eS k rho h D)(m:DocM D M)(e:Ext h h'):jL k h rho h' D M:=
 ⟨_,D,cQ.mV e,d.zr e,m,rfl,rfl,rfl⟩
theorem HY(r:eS k rho h D)(a:Int):aS P (iM S (some D.b) a) [tB] h λ(y:Bool×Unit) _=>y.1=true↔0<=a/\a<=D.E.length:=by
 unfold iM aS;have g:aQ D.sa.len=(D.E.length:Int):=by rw[aN,r.ea.1.len,cD]
 refine bW (0<=a/\a<=D.E.length) ?_ λd j f hb=>aC ⟨rfl,f,(d,()),rfl,hb⟩;refine aG (λc=>?_) λc=>aC ⟨rfl,Ext.refl _,false,rfl,?_⟩
 .rw[dT]at c
  refine r.rd (b:=.ptr) (some (B9 D.t)) rfl (r.uj (b:=.sl) D.sa rfl (aC ⟨rfl,Ext.refl _,_,rfl,?_⟩));rw[gD,g];exact⟨λh=>⟨c,h⟩,λh=>h.2⟩
 .rw[fC]at c
  exact⟨λh=>(by cases h),λh=>(by omega)⟩
theorem Yj(r:eS k rho h D)(m:DocM D M)(hb:M.lost.length+M.done.length<=4294967296):aS P (qD S (some D.b)) [tI, tI] h λ(y:Int×Int×Unit) _=>y.1=M.done.length/\y.2.1=M.next.length:=by
 unfold qD aS;have c:=r.dn.1.1;rw[fT (m:=4) λ_=>rfl]at c;have d:=r.nx.now.1;rw[fT (m:=4) λ_=>rfl]at d;have f:=congrArg List.length m.dn;have g:=congrArg List.length m.nx;rw[cD,bM]at f;rw[cD]at g;have j:=m.lo;refine r.rd (b:=.sl) D.sd rfl (r.rd (b:=bI) D.lost rfl (r.rd (b:=.sl) D.sn rfl ?_));rw[aN,aN,cY (by omega) (by omega)];exact aC ⟨rfl,Ext.refl _,(_,_,()),rfl,by show(D.sd.len:Int)-D.lost=_;omega,by show(D.sn.len:Int)=_;omega⟩
theorem Vl(r:eS k rho h D)(m:DocM D M):aS P (nW S (some D.b)) [tI] h λ(y:Int×Unit) _=>y.1=M.st:=by
 unfold nW aS;have c:=r.dn.1.1;rw[fT (m:=4) λ_=>rfl]at c;have u:=r.dn.1.2.1;have v:=r.dn.1.2.2.1;refine r.rd (b:=.sl) D.sd rfl (aG (λd=>?_) λd=>?_)
 .rw[cJ,aN]at d
  have h0:D.D=[]:=Aa (by omega);have j:=m.dn;rw[h0]at j;refine aC ⟨rfl,Ext.refl _,(0,()),rfl,?_⟩;unfold Mo.st;rw[<-j];rfl
 .rw[dM,aN]at d
  obtain⟨ds,g,f⟩:∃ds g,D.D=ds++[g]:=by
   rcases LY D.D with h0|⟨ds,g,h0⟩
   .rw[h0]at c;simp at c;omega
   .exact⟨ds,g,by rw[h0,Ju]⟩
  have z:D.D.length=ds.length+1:=by rw[f];simp
  have hi:D.D[ds.length]?=some g:=by rw[f];simp
  refine r.rd (b:=.sl) D.sd rfl (r.rd (b:=.sl) D.sd rfl ?_);have t:bJ .i64 (aQ D.sd.len) 1=(ds.length:Int):=by rw[aN,cY (by omega) (by omega)];omega
  rw[t];obtain⟨a,ea,o⟩:=uH (m:=4) (λ_=>rfl) (by decide) r.dn.1 hi;refine aL (fD.2 ⟨by rw[ea];rfl,lR.2 ⟨by omega,by omega⟩⟩) ?_;have p:aB D.sd.aD (bB (bP (ds.length:Int)) 4)=some (a.add (ds.length*4)):=by rw[ea,gX,eR,cN];rfl
  rw[p];refine aL rfl (bY (b:=bI) g.st rfl o rfl (aC ⟨rfl,Ext.refl _,(g.st,()),rfl,?_⟩));unfold Mo.st;rw[<-m.dn,f,dL];exact(C4 0 (ds.map wH) (wH g)).symm
theorem j6(r:eS k rho h D)(m:DocM D M):wp P (tJ S (some D.b)) h λtg vs h'=>tg=0/\vs=[]/\jL k h rho h' D M.save:=by
 unfold tJ;refine r.rd (b:=.bool) D.op rfl (aG (λd=>?_) λd=>?_)
 .rw[dN,m.op]at d
  have v:M.now=none:=by cases h:M.now with
   |none=>rfl
   |some q=>rw[h]at d;cases d
  refine aM (Vl r m) λ⟨(y:Int),_⟩ t f j=>?_;have j:y=M.st:=j;subst j;have g:M.save={M with saved:=M.st}:=by unfold Mo.save;rw[v];rfl
  have o:=r.zr f;refine o.wr {D with saved:=M.st} (i:=17) (by decide) rfl rfl rfl (λh' c p=>⟨p.ot,p.ea,p.et,p.HD,p.dn,p.dk,p.nx,p.nc,p.nk,p.ma,p.wa,p.nw,p.kn,p.li,p.fi⟩) λu z c2=>?_;refine aC ⟨rfl,rfl,_,_,(cQ.mV f).trans (cQ.of c2 (λi hi e=>by subst e;rw[o.ob.2 D.b rfl];omega) λi t u=>by have:=c2.2.2;have:=qA (rho:=rho) (h:=h) (i:=i) (by have:=f.1;omega);exact this),z,?_,rfl,rfl,rfl⟩;rw[g];exact⟨m.E,m.dn,m.lo,m.nx,m.ms,m.ws,m.op,m.nw,rfl,m.la,m.dp,m.e0,m.li⟩
 .rw[eI,m.op]at d
  have g:M.save=M:=by
   unfold Mo.save;cases h:M.now with
   |none=>rw[h]at d;cases d
   |some q=>rfl
  rw[g];exact aC ⟨rfl,rfl,jL.ext r m (Ext.refl _)⟩
end
section
variable{P:Program}{S:cG}{h:aE}{Q:Nat->bE->aE->Prop}{k:Nat}{rho:Nat->Nat}{D:Doc}
variable{s:Sl}{i:Nat}{h':aE}{cs:bE}
open Classical in
noncomputable def nr(h:aE)(rho:Nat->Nat)(s:Sl)(r:Nat):Nat->Nat:=λi=>if i<h.size then rho i else if iE s i then r else 0
theorem vY{r:Nat}(hi:i<h.size):nr h rho s r i=rho i:=if_pos hi
theorem En{r:Nat}(hi:h.size<=i)(b:iE s i):nr h rho s r i=r:=by unfold nr;rw[if_neg (by omega),if_pos b]
theorem JS{r:Nat}(hi:h.size<=i)(b:¬iE s i):nr h rho s r i=0:=by unfold nr;rw[if_neg (by omega),if_neg b]
theorem IP{r:Nat}(e:Ext h h')(f:k<r/\r<=k+10):cQ k h rho h' (nr h rho s r):=
 ⟨aY.bH e,λi hi _=>vY hi,λi hi b=>by
  by_cases c:i<h.size
  .rw[vY c]
   rcases b with b|b
   .omega
   .exact .inr b
  .by_cases d:iE s i
   .rw[En (by omega) d];exact .inr f
   .rw[JS (by omega) d];exact .inl rfl⟩
structure Lp(k:Nat)(rho:Nat->Nat)(h:aE)(D:Doc)(cs:bE):Prop where
 p:DocP k rho h D
 o:sU (k+1) 1 rho h ⟨some D.b,19,19⟩ cs
theorem eS.w(d:eS k rho h D):Lp k rho h D (AQ D):=⟨d.toDocP,d.ob⟩
theorem Lp.ext(w:Lp k rho h D cs)(e:Ext h h'):Lp k rho h' D cs:=
 ⟨w.p.aP (aY.bH (F:=λ_=>False) e) (λ_ _ f=>f.elim) λ_ _ _=>rfl,w.o.aP (aY.bH (F:=λ_=>False) e) (λ_ _ f=>f.elim) λ_ _ h=>h⟩
theorem Lp.nr{s:Sl}{r:Nat}{h':aE}{cs:bE}(w:Lp k rho h D cs)(e:Ext h h'):Lp k (Hist.nr h rho s r) h' D cs:=
 ⟨w.p.aP (aY.bH (F:=λ_=>False) e) (λ_ _ f=>f.elim) λi hi _=>vY hi,w.o.aP (aY.bH (F:=λ_=>False) e) (λ_ _ f=>f.elim) λi hi h=>by rw[vY hi];exact h⟩
theorem Lp.done{c:Doc}(w:Lp k rho h D cs)(hb:c.b=D.b)(d:AQ c=cs)(f:DocP k rho h D->DocP k rho h c):eS k rho h c:={toDocP:=f w.p,ob:=by rw[hb,d];exact w.o}
theorem Lp.rd{b:B}(w:Lp k rho h D cs)(x:b.den){K:b.den->aK}(d:cs[i]?=some (b.inj x))(c:wp P (K x) h Q) :
  wp P (bD (aJ (some D.b))<|bD (aJ (some D.b))<|.load (.one b) (aB (some D.b) i) K) h Q:=
 aL rfl (aL rfl (bY (b:=b) x rfl w.o.1.cells d c))
theorem Lp.put(new:bE){K:aK}(w:Lp k rho h D cs)(hi:i+new.length<=cs.length)(h0:0<new.length)(j:∀v∈new,flat v=true)
  (m:∀h',Lp k rho h' D (cs.take i++new++cs.drop (i+new.length))->aY (λi=>i=D.b.block) h h'->h'.size=h.size->wp P K h' Q) :
  wp P (.store (aB (some D.b) i) new K) h Q:=by
 have g:=w.o.1;have f:cs=cs.take i++(cs.drop i).take new.length++cs.drop (i+new.length):=by
  rw[<-FI,eC,eX,eX]
 rw[f]at g;have y:=w.o.2 D.b rfl;have d:((cs.drop i).take new.length).length=new.length:=by rw[dJ,cZ];omega
 refine rD (mid:=(cs.drop i).take new.length) new g (by rw[dJ];omega) d.symm (λe=>by rw[e]at d;simp at d;omega) j λh' r t u=>?_;have c:aY (λi=>i=D.b.block) h h':=aY.dP t λa ha _=>by cases ha;rfl
 exact m h' ⟨w.p.aP c (λi hi e=>by subst e;omega) λ_ _ _=>rfl,r,w.o.2⟩ c u
theorem Lp.CW{v:Value}{K:aK}(w:Lp k rho h D cs)(hi:i<cs.length)(c:flat v=true)
  (d:∀h',Lp k rho h' D (cs.take i++[v]++cs.drop (i+1))->aY (λi=>i=D.b.block) h h'->h'.size=h.size->wp P K h' Q) :
  wp P (bD (aJ (some D.b))<|bD (aJ (some D.b))<|.store (aB (some D.b) i) [v] K) h Q:=
 aL rfl (aL rfl (w.put [v] hi (fO rfl) (by intro x f;rw[dE.1 f];exact c) d))
theorem jS{b:Addr}(g:rho b.block=k+1)(c:aY (λi=>i=b.block) h h')(j:h'.size=h.size):cQ k h rho h' rho:=
 cQ.of c (λi hi e=>by subst e;omega) λi d f=>by omega
theorem bx(r:eS k rho h D){M:Mo}{N:Nat}(m:DocM D M)(o:gQ D.enc D.limit M N)(hN:N<=68719476736){a:Int}(hM:M.marks.length<=4294967295/\M.watched.length<=4294967295)(a4:cR .i64 a) :
  wp P (nV S (some D.b) a) h λtg vs h'=>tg=0/\vs=[aH (M.GV a).1]/\jL k h rho h' D (M.GV a).2:=by
 unfold nV Mo.GV;refine r.rd (b:=.bool) D.op rfl (aG (λj=>?_) λj=>?_)
 .rw[m.op]at j
  rw[if_pos j];exact aC ⟨rfl,rfl,jL.ext r m (Ext.refl _)⟩
 rw[m.op]at j;rw[if_neg (by rw[j];decide)];refine aM (HY r a) λ⟨(y:Bool),_⟩ h1 K u=>?_;have u:y=true↔0<=a/\a<=D.E.length:=u;have z:M.ins a↔0<=a/\a<=D.E.length:=by unfold Mo.ins;rw[m.E]
 dsimp only;refine aG (λd=>?_) λd=>?_
 .rw[dN]at d
  rw[if_neg (λhh=>by rw[u.2 (z.1 hh)]at d;cases d)];exact aC ⟨rfl,rfl,jL.ext r m K⟩
 rw[eI]at d;rw[if_pos (z.2 (u.1 d))];have a0:=cQ.mV (k:=k) (rho:=rho) K;have w1:=(r.zr K).w;have G:=w1.o.2 D.b rfl;refine w1.CW (fO rfl) rfl λh2 w2 c2 z2=>aL rfl (aL rfl (w2.put [.slice none 0 0,aH a,aH 0,aH 0] (fO rfl) (fO rfl) (by intro v hv;simp only[eJ,lU,or_false]at hv;rcases hv with rfl|rfl|rfl|rfl<;>rfl) λR V c3 z3=>?_));have a1:=(a0.trans (jS G c2 z2)).trans (jS G c3 z3);refine V.rd (b:=.sl) D.sm rfl ?_;refine aM (Wr V.p.ma.1 (by rw[m.ms];exact hM.1)) λ⟨(sm:Sl),_⟩ h4 e4 om=>?_;have om:C9 R.size h4 sm D.ms:=om;have W:=V.nr (s:=sm) (r:=k+7) e4;have H:=a1.trans (IP (s:=sm) (r:=k+7) e4 (by omega));have am:sU (k+7) 2 (Hist.nr R (Hist.zr h rho) sm (k+7)) h4 sm (D.ms.flatMap Gm):=⟨cC.mono om (cS _),λb hb=>En (om.lt hb).1 ⟨b,hb,rfl⟩⟩;generalize Hist.nr R (Hist.zr h rho) sm (k+7)=g at W H am;have T:=W.o.2 D.b rfl;refine W.CW (fO rfl) rfl λA Y c5 z5=>?_;have a2:=H.trans (jS T c5 z5);have ab:=am.aP (rho':=g) c5 (λi hi e=>by subst e;omega) λ_ _ h=>h;refine Y.rd (b:=.sl) D.sw rfl ?_;refine aM (Mp Y.p.wa.1.kZ (by rw[m.ws];omega)) λ⟨(sw:Sl),_⟩ h6 O ow=>?_;have ow:bR A.size .i64 h6 sw D.ws:=ow;have Z:=Y.nr (s:=sw) (r:=k+8) O;have I:=a2.trans (IP (s:=sw) (r:=k+8) O (by omega));have B:=ab.aP (rho':=Hist.nr A g sw (k+8)) (aY.bH (F:=λ_=>False) O) (λ_ _ f=>f.elim) λi hi h=>by rw[vY hi];exact h
 have aw:BH (k+8) (Hist.nr A g sw (k+8)) h6 sw D.ws:=⟨ow.mono (cS _),λb hb=>En (ow.own.lt hb).1 ⟨b,hb,rfl⟩⟩;generalize Hist.nr A g sw (k+8)=t at Z I B aw;have U:=Z.o.2 D.b rfl;refine Z.CW (fO rfl) rfl λh7 w7 J z7=>?_;have a3:=I.trans (jS U J z7);have al:=B.aP (rho':=t) J (λi hi e=>by subst e;omega) λ_ _ h=>h;have ao:=aw.aP (rho':=t) J (λi hi e=>by subst e;omega) λ_ _ h=>h;refine aC ⟨rfl,rfl,t,{D with op:=true,c:=(⟨none,0,0⟩,[]),bg:=a,en:=0,gs:=0,so:=sm,om:=D.ms,sv:=sw,ow:=D.ws},a3,?_,?_,rfl,rfl,rfl⟩
 .refine w7.done rfl rfl λp=>⟨p.ot,p.ea,p.et,p.HD,p.dn,p.dk,p.nx,p.nc,p.nk,p.ma,p.wa,λ_=>⟨⟨cC.nil .., λb hb=>(by cases hb)⟩,λy u=>(by cases u),al,ao⟩,p.kn,p.li,p.fi⟩
 .have hn:M.now=none:=by cases h:M.now with
   |none=>rfl
   |some q=>rw[h]at j;cases j
  have hE:M.E=M.C:=Mo.wS hn;exact⟨m.E.trans hE,m.dn,m.lo,m.nx,m.ms,m.ws,rfl,λq hq=>by cases hq;exact⟨rfl,rfl,m.ms,m.ws⟩,m.sv,m.la,m.dp,m.e0,m.li⟩
end
section
variable{P:Program}{S:cG}{h:aE}{Q:Nat->bE->aE->Prop}{k:Nat}{rho:Nat->Nat}{D:Doc}
variable{M:Mo}
theorem c_(r:eS k rho h D)(m:DocM D M){s:Sl}{l:aW}(C:kB .i64 h s l)(hl:l.length<=4294967296) :
  wp P (rO S (some D.b) s) h λtg vs h'=>tg=0/\vs=[aH (M.J4 l).1]/\jL k h rho h' D (M.J4 l).2:=by
 unfold rO Mo.J4;have hn:aQ s.len=(l.length:Int):=by rw[aN,C.len]
 rw[hn];refine bO (λ(x:Int×Unit) h'=>Ext h h'/\∃i:Nat,x.1=i/\i<=l.length/\∀v∈l.take i,M.ins v) (λx _=>((l.length:Int)-x.1).toNat)
  (λt vs h'=>Ext h h'/\((t=2/\vs=[]/\∀v∈l,M.ins v)\/(t=1/\vs=[aH 2]/\¬∀v∈l,M.ins v))) ⟨Ext.refl _,0,rfl,cS _,λv G=>by simp at G⟩ ?_ ?_
 .rintro⟨(si:Int),u⟩ I ⟨d,i,hi,hle,c⟩
  dsimp only at hi⊢;subst hi;refine aG (λR=>?_) λR=>?_
  .rw[aV]at R
   have W:i<l.length:=by omega
   refine qM (C.ext d) (by omega) (by omega) λ_=>?_;have G:l[i]?=some (l.getD (i:Int).toNat 0):=by simp[List.getD,cM W]
   generalize l.getD (i:Int).toNat 0=v at G⊢;refine aM (HY (r.ext d) v) λ⟨(y:Bool),_⟩ O A J=>?_;have J:y=true↔0<=v/\v<=D.E.length:=J;have B:M.ins v↔0<=v/\v<=D.E.length:=by unfold Mo.ins;rw[m.E]
   dsimp only;refine aG (λf=>?_) λf=>?_
   .rw[dN]at f
    exact aC ⟨λg=>absurd g (by decide),λ_=>⟨d.trans A, .inr ⟨rfl,rfl,λg=>by rw[J.2 (B.1 (g v (eL G)))]at f;cases f⟩⟩⟩
   .rw[eI]at f
    have g:=C.max;have ab:=C.cap;rw[bG (by omega) (by omega)];refine aC ⟨λ_=>⟨((i:Int)+1,()),rfl,⟨d.trans A,i+1,by push_cast;rfl,by omega,λz j=>?_⟩,by dsimp only;omega⟩,λg=>absurd rfl g⟩;rw[eG,G]at j;rcases dD.1 j with j|j
    .exact c z j
    .simp at j;subst j;exact B.2 (J.1 f)
  .rw[aZ]at R
   have:i=l.length:=by omega
   subst this;rw[fA]at c;exact aC ⟨λg=>absurd g (by decide),λ_=>⟨d, .inl ⟨rfl,rfl,c⟩⟩⟩
 .rintro t vs I ⟨d,⟨rfl,rfl,c⟩|⟨rfl,rfl,c⟩⟩
  .rw[if_pos c]
   refine bK (bV ?_);refine aM (Mp (C.ext d) hl) λ⟨(sw:Sl),_⟩ O A ow=>?_;have ow:bR I.size .i64 O sw l:=ow;have Z:=cQ.mV (k:=k) (rho:=rho) d;have T:=(r.zr d).w.nr (s:=sw) (r:=k+4) A;have K:=Z.trans (IP (s:=sw) (r:=k+4) A (by omega));have U:BH (k+4) (Hist.nr I (Hist.zr h rho) sw (k+4)) O sw l:=⟨ow.mono (cS _),λb hb=>En (ow.own.lt hb).1 ⟨b,hb,rfl⟩⟩;generalize Hist.nr I (Hist.zr h rho) sw (k+4)=H at T K U;have Y:=T.o.2 D.b rfl;refine T.CW (fO rfl) rfl λh3 w3 c3 z3=>?_;have V:=U.aP (rho':=H) c3 (λi hi e=>by subst e;omega) λ_ _ h=>h;refine aC ⟨rfl,rfl,H,{D with sw:=sw,ws:=l},K.trans (jS Y c3 z3),?_,?_,rfl,rfl,rfl⟩
   .exact w3.done rfl rfl λp=>⟨p.ot,p.ea,p.et,p.HD,p.dn,p.dk,p.nx,p.nc,p.nk,p.ma,V,p.nw,p.kn,p.li,p.fi⟩
   .exact⟨m.E,m.dn,m.lo,m.nx,m.ms,rfl,m.op,m.nw,m.sv,m.la,m.dp,m.e0,m.li⟩
  .rw[if_neg c]
   exact nT (by decide) (bK ⟨(2,()),rfl,aC ⟨rfl,rfl,jL.ext r m d⟩⟩)
theorem Pb{name a:Int}:∀{l:uK},(∀e∈l,e.1<name)->pT name a l=l++[(name,a)]
 |[],_=>rfl
 |e::l,h=>by
  unfold pT;rw[if_pos (h e (cX ..)),Pb λx b=>h x (dZ _ b)];rfl
theorem JT{name a:Int}{e:Int×Int}(he:name<=e.1):∀{l:uK},(∀x∈l,x.1<name)->pT name a (l++[e])=l++[(name,a)]++(if e.1=name then [] else [e])
 |[],_=>by
  show pT name a [e]=_;unfold pT;rw[if_neg (by omega)];by_cases h:e.1=name
  .rw[if_pos h,if_pos h];rfl
  .rw[if_neg h,if_neg h];rfl
 |x::l,h=>by
  show pT name a (x::(l++[e]))=_;unfold pT;rw[if_pos (h x (cX ..)),JT he λy b=>h y (dZ _ b)];rfl
theorem S6{name a:Int}{e:Int×Int}:∀{l:uK},(∃x∈l,name<=x.1)->pT name a (l++[e])=pT name a l++[e]
 |[],⟨x,b,_⟩=>by cases b
 |y::l,⟨x,b,d⟩=>by
  show pT name a (y::(l++[e]))=_;by_cases c:y.1<name
  .unfold pT
   rw[if_pos c,if_pos c];rcases eJ.1 b with rfl|b
   .omega
   .rw[S6 ⟨x,b,d⟩];rfl
  .unfold pT
   rw[if_neg c,if_neg c];split<;>rfl
theorem Wz(r:eS k rho h D)(m:DocM D M)(so:M.marks.Pairwise λx y=>x.1<y.1)(hM:M.marks.length<=1073741824){name a:Int}(hf:cR .i64 name/\cR .i64 a) :
  wp P (lN S (some D.b) name a) h λtg vs h'=>tg=0/\vs=[aH (M.Xe name a).1]/\jL k h rho h' D (M.Xe name a).2:=by
 unfold lN Mo.Xe;refine aM (T8 (a:=name)) λ⟨(y:Bool),_⟩ h1 e1 I=>?_;have I:y=true↔Qa name:=I;dsimp only;refine aG (λA=>?_) λA=>?_
 .rw[dN]at A
  rw[if_neg (λY=>by rw[I.2 Y]at A;cases A)];exact aC ⟨rfl,rfl,jL.ext r m e1⟩
 rw[eI]at A;rw[if_pos (I.1 A)];clear I A;refine aM (HY (r.ext e1) a) λ⟨(y:Bool),_⟩ G e2 I=>?_;have I:y=true↔0<=a/\a<=D.E.length:=I;have aw:M.ins a↔0<=a/\a<=D.E.length:=by unfold Mo.ins;rw[m.E]
 dsimp only;refine aG (λJ=>?_) λJ=>?_
 .rw[dN]at J
  rw[if_neg (λY=>by rw[I.2 (aw.1 Y)]at J;cases J)];exact aC ⟨rfl,rfl,jL.ext r m (e1.trans e2)⟩
 rw[eI]at J;rw[if_pos (aw.2 (I.1 J))];have Z:=e1.trans e2;have a5:=m.ms;rw[<-a5]at so hM;refine bO (λ(x:Sl×Bool×Int×Unit) h'=>Ext h h'/\G.size<=h'.size/\∃i:Nat,x.2.2.1=i/\i<=D.ms.length/\C9 G.size h' x.1 (if x.2.1 then pT name a (D.ms.take i) else D.ms.take i)/\(if x.2.1 then ∃e∈D.ms.take i,name<=e.1 else ∀e∈D.ms.take i,e.1<name)) (λx _=>((D.ms.length:Int)-x.2.2.1).toNat)
  (λt vs h'=>Ext h h'/\G.size<=h'.size/\t=2/\∃q f,vs=[dG q, .bool f]/\C9 G.size h' q (if f then pT name a D.ms else D.ms)/\(f=false->∀e∈D.ms,e.1<name)) ⟨Z,bL _,0,rfl,cS _,cC.nil .., λe he=>by simp at he⟩ ?_ ?_
 .rintro⟨(q:Sl),(f:Bool),(si:Int),u⟩ B ⟨C,s3,i,hi,hle,H,z⟩
  dsimp only at hi H z⊢;subst hi;have r3:=r.ext C;refine r3.rd (b:=.sl) D.sm rfl ?_;have b0:aQ D.sm.len=(D.ms.length:Int):=by rw[aN,C9.len r3.ma.1]
  rw[b0];refine aG (λA=>?_) λA=>?_
  .rw[aV]at A
   have a4:i<D.ms.length:=by omega
   have K:D.ms.take (i+1)=D.ms.take i++[el D.ms i]:=by rw[eG,OU a4];rfl
   generalize bt:el D.ms i=e at K;have cd:(D.ms.take i).length=i:=by rw[dJ];omega
   have b9:(if f then pT name a (D.ms.take i) else D.ms.take i).length<=i+1:=by
    split
    .have:=Ly (name:=name) (a:=a) (l:=D.ms.take i);omega
    .omega
   refine eN (λt vs h'=>t=0/\∃c d,vs=[dG c, .bool d]/\Ext h h'/\G.size<=h'.size/\C9 G.size h' c (if d then pT name a (D.ms.take (i+1)) else D.ms.take (i+1))/\(if d then ∃e∈D.ms.take (i+1),name<=e.1 else ∀e∈D.ms.take (i+1),e.1<name)) ?_ ?_
   .refine r3.rd (b:=.sl) D.sm rfl (i_ r3.ma.1 rfl a4 ?_)
    rw[bt];refine λab=>?_;have a2:Ext B (B.push (.cells (Gm (0,0)).toArray ab)):=Ext.push ..;have a8:cC B.size 1 (B.push (.cells (Gm (0,0)).toArray ab)) ⟨some ⟨B.size,0,none⟩,2,2⟩ (Gm (0,0)):=bX rfl (by decide) (by decide);show wp P _ (B.push (.cells (Gm (0,0)).toArray ab)) _;generalize B.push (.cells (Gm (0,0)).toArray ab)=g4 at a2 a8⊢;refine DE (Gm e) a8 rfl (by intro v hv;simp only[Gm,eJ,lU,or_false]at hv;rcases hv with rfl|rfl<;>rfl) λh4 W u4 z4=>?_;have R:Ext B h4:=jE.jA a2 u4 λx g=>by cases g;exact bL _
    have b3:=(aY.bH (F:=λ_=>False) R).own H λ_ _ x=>x;have cg:=R.1;refine eN (λt vs h'=>t=0/\∃c d,vs=[dG c, .bool d]/\Ext h h'/\h4.size<=h'.size/\cC B.size 1 h' ⟨some ⟨B.size,0,none⟩,2,2⟩ (Gm e)/\C9 G.size h' c (if d then (if f then pT name a (D.ms.take i) else D.ms.take i++[(name,a)]) else D.ms.take i)/\(d=true↔f=true\/name<=e.1)/\(∀b,c.aD=some b->b.block≠B.size)) ?_ ?_
    .have a0:∀b,q.aD=some b->b.block≠B.size:=λb hb=>by have:=(H.lt hb).2;omega
     refine bW (f=false/\name<=e.1) ?_ λb5 h5 e5 a3=>?_
     .refine aG (λT=>?_) λT=>aC ⟨rfl,Ext.refl _,false,rfl,?_⟩
      .rw[dN]at T
       refine bY (b:=bI) e.1 rfl W.cells rfl (aC ⟨rfl,Ext.refl _,_,rfl,?_⟩);rw[dT];exact⟨λh=>⟨T,h⟩,λh=>h.2⟩
      .rw[eI]at T
       exact⟨λh=>(by cases h),λh=>by rw[T]at h;exact absurd h.1 (by decide)⟩
     have a9:=(aY.bH (F:=λ_=>False) e5).own W λ_ _ x=>x;have V:=(aY.bH (F:=λ_=>False) e5).own b3 λ_ _ x=>x;have s5:=e5.1;refine aG (λal=>?_) λal=>?_
     .obtain⟨ao,U⟩:=a3.1 al
      subst ao;have V:C9 G.size h5 q (D.ms.take i):=V;refine LC (e:=(name,a)) V (by omega) (by omega) λh6 c o6 c6 b6=>?_;refine aC ⟨rfl,c,true,rfl,?_,by have:=c6.1;omega,c6.own a9 λb hb ⟨x,g,ex⟩=>by cases hb;exact a0 x g ex,o6,⟨λ_=>.inr U,λ_=>rfl⟩,λb hb=>?_⟩
      .refine⟨by have:=c6.1;have:=C.1;omega,λj hj=>(c6.2.1 j (by have:=C.1;omega) ?_).trans (((C.trans R).trans e5).2.1 j hj),λb hb=>c6.2.2 b (((C.trans R).trans e5).2.2 b hb)⟩
       rintro⟨x,g,rfl⟩;have:=(H.lt g).1;have:=Z.1;omega
      .rcases b6 b hb with hb|hb
       .exact a0 b hb
       .have h1:B.size<h4.size:=(W.lt rfl).2
        omega
     .refine aC ⟨rfl,q,f,rfl,(C.trans R).trans e5,by omega,a9,?_,?_,a0⟩
      .cases f with
       |true=>exact V
       |false=>exact V
      .refine⟨λh=>.inl h,λh=>h.elim id λU=>?_⟩
       cases f with
       |true=>rfl
       |false=>rw[a3.2 ⟨rfl,U⟩]at al;cases al
    .rintro t vs h6 ⟨rfl,c,d,rfl,e6,s6,ba,o6,O,cc⟩
     refine bK ⟨(c,d,()),rfl,?_⟩;dsimp only;have b8:(if d then (if f then pT name a (D.ms.take i) else D.ms.take i++[(name,a)]) else D.ms.take i).length<=i+1:=by
      split
      .split
       .have:=Ly (name:=name) (a:=a) (l:=D.ms.take i);omega
       .simp;omega
      .omega
     refine bY (b:=bI) e.1 rfl ba.cells rfl (aG (λa6=>?_) λheq=>?_)
     .rw[lB]at a6
      refine B3 (e.1,e.2,()) ba rfl (LC (e:=e) o6 (by omega) (by omega) λh7 q7 o7 c7 b7=>?_);refine aC ⟨rfl,q7,d,rfl,?_,by have:=c7.1;omega,?_,?_⟩
      .refine⟨by have:=c7.1;have:=e6.1;omega,λj hj=>(c7.2.1 j (by have:=e6.1;omega) ?_).trans (e6.2.1 j hj),λb hb=>c7.2.2 b (e6.2.2 b hb)⟩
       rintro⟨x,g,rfl⟩;have:=(o6.lt g).1;have:=Z.1;omega
      .rw[K]
       cases d with
       |false=>exact o7
       |true=>
        cases f with
        |true=>
         show C9 G.size h7 q7 (pT name a (D.ms.take i++[e]));rw[S6 z];exact o7
        |false=>
         have U:name<=e.1:=(O.1 rfl).elim (λh=>by cases h) id;show C9 G.size h7 q7 (pT name a (D.ms.take i++[e]));rw[JT U z,if_neg a6];exact o7
      .rw[K]
       cases d with
       |true=>
        rcases O.1 rfl with h|h
        .subst h
         obtain⟨x,g,hn⟩:=z;exact⟨x,oM _ g,hn⟩
        .exact⟨e,pZ _ (dE.2 rfl),h⟩
       |false=>
        have b1:¬(f=true\/name<=e.1):=λh=>by have:=O.2 h;cases this
        cases f with
        |true=>exact absurd (.inl rfl) b1
        |false=>
         intro x g;rcases dD.1 g with g|g
         .exact z x g
         .rw[dE.1 g];omega
     .rw[lX]at heq
      have bs:d=true:=O.2 (.inr (by omega));have ao:f=false:=by
       cases f with
       |false=>rfl
       |true=>
        obtain⟨x,g,hn⟩:=z;have a7:(D.ms.take (i+1)).Pairwise λx y=>x.1<y.1:=so.sublist (List.take_sublist _ _);rw[K,LZ]at a7;have:=a7.2.2 x g e (dE.2 rfl);omega
      subst bs;subst ao;refine aC ⟨rfl,c,true,rfl,e6,by omega,?_,?_⟩
      .rw[K]
       show C9 G.size h6 c (pT name a (D.ms.take i++[e]));rw[JT (by omega) z,if_pos heq,jX];exact o6
      .rw[K]
       exact⟨e,pZ _ (dE.2 rfl),by omega⟩
   .rintro t vs h7 ⟨rfl,c,d,rfl,e7,s7,o7,bp⟩
    refine bK ⟨(c,d,()),rfl,?_⟩;dsimp only;rw[bG (by omega) (by omega)];exact aC ⟨λ_=>⟨(c,d,(i:Int)+1,()),rfl,⟨e7,s7,i+1,by push_cast;rfl,by omega,o7,bp⟩,by dsimp only;omega⟩,λY=>absurd rfl Y⟩
  .rw[aZ]at A
   have:i=D.ms.length:=by omega
   subst this;rw[fA]at H z;exact aC ⟨λY=>absurd Y (by decide),λ_=>⟨C,s3,rfl,q,f,rfl,H,λh=>by subst h;exact z⟩⟩
 .rintro t vs B ⟨C,s3,rfl,q,f,rfl,H,z⟩
  refine bK ⟨(q,f,()),rfl,?_⟩;dsimp only;have cf:=Z.1;refine eN (λt vs h'=>t=0/\∃c,vs=[dG c]/\Ext h h'/\C9 G.size h' c (pT name a D.ms)) ?_ ?_
  .refine aG (λA=>?_) λA=>?_
   .rw[dN]at A
    subst A;have H:C9 G.size B q D.ms:=H;refine LC (e:=(name,a)) H s3 (by omega) λh4 c W c4 b4=>aC ⟨rfl,c,rfl,?_,?_⟩
    .refine⟨by have:=c4.1;have:=C.1;omega,λj hj=>(c4.2.1 j (by have:=C.1;omega) ?_).trans (C.2.1 j hj),λb hb=>c4.2.2 b (C.2.2 b hb)⟩
     rintro⟨x,g,rfl⟩;have:=(H.lt g).1;omega
    .rw[Pb (z rfl)];exact W
   .rw[eI]at A
    subst A;exact aC ⟨rfl,q,rfl,C,H⟩
  .rintro t vs h4 ⟨rfl,c,rfl,e4,W⟩
   refine bK (lZ ?_);have hq:∀b,c.aD=some b->h.size<=b.block:=λb hb=>by have:=(W.lt hb).1;omega
   have w4:=r.w.nr (s:=c) (r:=k+3) e4;have bd:=IP (k:=k) (rho:=rho) (s:=c) (r:=k+3) e4 (by omega);have am:sU (k+3) 2 (Hist.nr h rho c (k+3)) h4 c ((pT name a D.ms).flatMap Gm):=⟨cC.mono W (cS _),λb hb=>En (hq b hb) ⟨b,hb,rfl⟩⟩;generalize Hist.nr h rho c (k+3)=a1 at w4 bd am;have b2:=w4.o.2 D.b rfl;refine w4.CW (fO rfl) rfl λh5 w5 c5 z5=>?_;have bo:=am.aP (rho':=a1) c5 (λi hi e=>by subst e;omega) λ_ _ h=>h;refine aC ⟨rfl,rfl,a1,{D with sm:=c,ms:=pT name a D.ms},bd.trans (jS b2 c5 z5),?_,?_,rfl,rfl,rfl⟩
   .exact w5.done rfl rfl λp=>⟨p.ot,p.ea,p.et,p.HD,p.dn,p.dk,p.nx,p.nc,p.nk,bo,p.wa,p.nw,p.kn,p.li,p.fi⟩
   .exact⟨m.E,m.dn,m.lo,m.nx,by show pT name a D.ms=pT name a M.marks;rw[a5],m.ws,m.op,m.nw,m.sv,m.la,m.dp,m.e0,m.li⟩
end
end Go.Sw.Hist
