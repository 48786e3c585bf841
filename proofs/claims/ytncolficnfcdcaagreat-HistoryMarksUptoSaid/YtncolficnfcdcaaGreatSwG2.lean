
/- Steps. -/
import Derived.Test.YtncolficnfcdcaaGreatSwG1
import Derived.Test.YtncolficnfcdcaaGreatSwCD
set_option linter.unusedVariables false
set_option linter.unusedSimpArgs false
set_option maxRecDepth 100000
set_option maxHeartbeats 1000000
namespace Go.Sw.Hist
open Go.Sw.Any Go.Sw.Codec Go.Sw.Piece
open Go.Sw.Tree (iv fP jR jX mW oR kM rL kK dQ lB)
section
variable{P:Program}{S:cH}{h:aG}{Q:Nat->bG->aG->Prop}{n k:Nat}{rho:Nat->Nat}{X:Bk}
variable{L:Int}{s:Sl}{vs:bG}
def LR:Int->List (List mS)->Int->Prop
 |a,[],b=>0<=a/\a<=65536/\a=b
 |a,m::l,b=>0<=a/\a<=65536/\Si a 0 m/\m.length<=70000/\LR (a+AU m) l b
theorem LR.lo{b:Int}:∀{l:List (List mS)} {a:Int},LR a l b->0<=a/\a<=65536
 |[],_,⟨h0,c,_⟩=>⟨h0,c⟩
 |m::l,_,⟨h0,c,_⟩=>⟨h0,c⟩
theorem LR.hi{b:Int}:∀{l:List (List mS)} {a:Int},LR a l b->0<=b/\b<=65536
 |[],_,⟨h0,c,e⟩=>e ▸ ⟨h0,c⟩
 |m::l,_,⟨h0,c,_,_,d⟩=>d.hi
def H6(L:Int)(ms:fW)(ws:bB):Prop:=(∀e∈ms,0<=e.2.1/\e.2.1<=L)/\∀v∈ws,v<=L
theorem UZ{m:List mS}{ms:fW}{ws:bB}(d:0<=L)(b:Si L 0 m)(hm:H6 L ms ws):H6 (L+AU m) (BG m ms) (lM m ws):=by
 have g:=Gr b d;refine⟨λe he=>?_,λv f=>?_⟩
 .obtain⟨x,c,rfl⟩:=dA.1 he
  have:=hm.1 x c;exact Nm b this.1 this.2
 .obtain⟨x,c,rfl⟩:=dA.1 f
  have:=hm.2 x c;unfold wv;split
  .omega
  .split
   .exact(Nm b (by omega) this).2
   .omega
theorem km{len:Int}:∀{l:List mS} {at_ sh:Int},Si len at_ l->0<=at_->∀e∈qA sh l,e.2.2.1<=len
 |[],_,_,_,_=>λe he=>by cases he
 |x::l,at_,sh,⟨a,b,c,d,f⟩,h0=>λe he=>by
  rcases eH.1 he with rfl|he
  .show x.2.1-x.1<=len;omega
  .exact km f (by omega) e he
theorem Wf:∀{l:List mS} {sh:Int},(qA sh l).length=l.length
 |[],_=>rfl
 |x::l,sh=>by simp[qA,Wf (l:=l)]
theorem QH{m:List mS}(h0:0<=L)(h1:L<=65536)(c:L+AU m<=65536)(b:Si L 0 m)(d:m.length<=70000):Ls (qA 0 m)/\Si (L+AU m) 0 (qA 0 m):=by
 have hi:=We (sh:=0) b;rw[Int.add_zero,Int.zero_add]at hi;exact⟨⟨by rw[Wf];omega,Si.mb (by omega) hi (kR _) λe he=>by have:=km b (kR _) e he;omega⟩,hi⟩
theorem H6.w{ms:fW}{ws:bB}(hm:H6 L ms ws)(c:L<=65536):(∀e∈ms,0<=e.2.1/\e.2.1<=2199023255552)/\∀v∈ws,v<=2199023255552:=
 ⟨λe he=>by have:=hm.1 e he;omega,λv b=>by have:=hm.2 v b;omega⟩
def JA(l:List (List mS))(ms:fW):fW:=l.foldr (λm s=>BG (qA 0 m) s) ms
def zZ(l:List (List mS))(ws:bB):bB:=l.foldr (λm s=>lM (qA 0 m) s) ws
def Hb(l:List (List mS))(ms:fW):fW:=l.foldl (λs m=>BG m s) ms
def sQ(l:List (List mS))(ws:bB):bB:=l.foldl (λs m=>lM m s) ws
abbrev H0(g:HY):List (List mS):=g.mv.2.map (·.2)
theorem LR.cut{b:Int}:∀{l:List (List mS)} {a:Int} (i:Nat),LR a l b->∃c,LR a (l.take i) c/\LR c (l.drop i) b
 |l,a,0,h=>⟨a,by simpa[LR] using h.lo,by simpa using h⟩
 |[],a,i+1,h=>⟨a,⟨h.1,h.2.1,rfl⟩,h⟩
 |m::l,a,i+1,⟨h0,d,f,g,j⟩=>by
  obtain⟨c,c1,c2⟩:=LR.cut i j;exact⟨c,⟨h0,d,f,g,c1⟩,c2⟩
theorem LR.Ye{b:Int}{ms:fW}{ws:bB}:∀{l:List (List mS)} {a:Int},LR a l b->H6 b ms ws->H6 a (JA l ms) (zZ l ws)
 |[],_,⟨_,_,e⟩,hm=>e ▸ hm
 |m::l,a,⟨h0,d,f,g,c⟩,hm=>by
  have j:=LR.Ye c hm;have hb:=QH h0 d c.lo.2 f g;have:=UZ c.lo.1 hb.2 j;rw[Oi,show a+AU m + -AU m=a by omega]at this;exact this
theorem LR.XR{b:Int}:∀{l:List (List mS)} {a:Int} {ms:fW} {ws:bB},LR a l b->H6 a ms ws->H6 b (Hb l ms) (sQ l ws)
 |[],_,_,_,⟨_,_,e⟩,hm=>e ▸ hm
 |m::l,a,ms,ws,⟨h0,f,c,g,d⟩,hm=>LR.XR (ms:=BG m ms) (ws:=lM m ws) d (UZ h0 c hm)
theorem cA.v9{n:Nat}{v:Value}(o:cA n 1 h s (vs++[v])):cA n 1 h ⟨s.aD,vs.length,s.cap⟩ vs:=by
 obtain⟨o1,o2,m,b⟩:=o;simp only[bP,As,HV]at o1;refine⟨by simp,by dsimp only;omega,m,?_⟩;cases hb:s.aD with
 |none=>rw[hb]at b;exact b
 |some a=>
  rw[hb]at b;obtain⟨e0,c,d,cs,elem,f,g,j⟩:=b;exact⟨e0,c,d,cs,elem,f,g,λi v hi=>j i v (by rw[mL (cR.1 hi).1];exact hi)⟩
theorem Rq{b:B}{i:Nat}(y:b.den){K:b.den->aK}(d:Rd 1 h s vs)(hi:vs[i]?=some (b.inj y))(f:wp P (K y) h Q) :
  wp P (bF (bN (aJ s.aD) (eV (i:Int) s.len))<|.load (.one b) (aB s.aD (aZ (bQ (i:Int)) 1)) K) h Q:=by
 obtain⟨a,e,c⟩:=d.2 i _ hi;have g:=(cR.1 hi).1;have j:=d.1;refine aL (fC.2 ⟨by rw[e];rfl,kN.2 ⟨by omega,by omega⟩⟩) ?_;rw[hO,eX,cS,HV,e];exact bC (a.add i) y rfl c f
theorem UD{o:KK}(r:cO S n h rho k X)(d:X.now=some o):wp P (nC S (some X.b)) h λtg vs h'=>tg=0/\vs=[aH 0,aH 70]/\h'=h:=by
 unfold nC;exact r.rd (b:=.ptr) (some o.o) (by simp[oW,d,B.inj]) (aE (λ_=>aC ⟨rfl,rfl,rfl⟩) λc=>by cases c)
theorem W6(r:cO S n h rho k X)(g:X.now=none)(f:X.U.2=[]):wp P (nC S (some X.b)) h λtg vs h'=>tg=0/\vs=[aH 0,aH 72]/\h'=h:=by
 unfold nC;have d:X.U.1.len=0:=by have:=r.ou.1;rw[f]at this;simpa[oO] using this
 exact r.rd (b:=.ptr) none (by simp[oW,g,B.inj]) (aE (λc=>by cases c) λ_=>r.rd (b:=.sl) X.U.1 rfl (aE (λ_=>aC ⟨rfl,rfl,rfl⟩) λc=>by rw[d]at c;cases c))
theorem UC{o:KK}(r:cO S n h rho k X)(d:X.now=some o):wp P (nB S (some X.b)) h λtg vs h'=>tg=0/\vs=[aH 0,aH 70]/\h'=h:=by
 unfold nB;exact r.rd (b:=.ptr) (some o.o) (by simp[oW,d,B.inj]) (aE (λ_=>aC ⟨rfl,rfl,rfl⟩) λc=>by cases c)
theorem W3(r:cO S n h rho k X)(g:X.now=none)(f:X.R.2=[]):wp P (nB S (some X.b)) h λtg vs h'=>tg=0/\vs=[aH 0,aH 73]/\h'=h:=by
 unfold nB;have d:X.R.1.len=0:=by have:=r.Lm.1;rw[f]at this;simpa[oO] using this
 exact r.rd (b:=.ptr) none (by simp[oW,g,B.inj]) (aE (λc=>by cases c) λ_=>r.rd (b:=.sl) X.R.1 rfl (aE (λ_=>aC ⟨rfl,rfl,rfl⟩) λc=>by rw[d]at c;cases c))
abbrev mq(X:Bk)(T':TX)(u q:Sl)(us:List HY)(g:HY):Bk:={X with T:=T',U:=(u,us),R:=(q,X.R.2++[g]),ms:=JA (H0 g) X.ms,ws:=zZ (H0 g) X.ws,state:=g.old}
abbrev lq(X:Bk)(T':TX)(u q:Sl)(rs:List HY)(g:HY):Bk:={X with T:=T',R:=(u,rs),U:=(q,X.U.2++[g]),ms:=Hb (H0 g) X.ms,ws:=sQ (H0 g) X.ws,state:=g.fresh}
theorem PU{x:Yn}(r:cO S n h rho k X)(j:JZ n h x.1 x.2)(h0:∀a,x.1.aD=some a->rho a.block≠k+2/\rho a.block≠k+3)(hb:Ls x.2)(p:∀e∈X.ms,0<=e.2.1/\e.2.1<=2199023255552)(g:∀v∈X.ws,v<=2199023255552){K:Unit->aK}
  (o:∀h',aV (λi=>rho i=k+2\/rho i=k+3) h h'->cO S n h' rho k (wq x.2 X)->wp P (K ()) h' Q):wp P (.call (lT S (some X.b) x.1) [] K) h Q:=by
 refine Ui (Pp (x:=x) r j.ok (λh' c=>(j.oY c λa ha d=>?_).ok) hb p g) λ_ m c1 t=>o m (c1.mono λi hi d=>?_) t
 .rcases d with e|⟨y,f,e⟩
  .exact(h0 a ha).1 (by rw[e];exact r.rm)
  .exact(h0 a ha).2 (by rw[<-e];exact r.EO y f)
 .rcases d with rfl|⟨y,f,rfl⟩
  .exact .inl r.rm
  .exact .inr (r.EO y f)
open Classical in
theorem pj{us:List HY}{g:HY}{L0 L1:Int}(r:cO S n h rho k X)(hn:X.now=none)(hU:X.U.2=us++[g])(hc:LR L0 (H0 g) L1)(hm:H6 L1 X.ms X.ws)(hR:X.R.2.length<=1099511627776)(cx:us.length<=1099511627776)(c9:g.mv.2.length<=1099511627776) :
  wp P (nC S (some X.b)) h λtg vs h'=>tg=0/\vs=[aH g.bg,aH 0]/\∃f H u q,cW k h rho h' f/\cO S n h' f k (mq X H u q us g)/\MC X.T H h.size/\H.cur=g.sb/\H.A=X.T.A:=by
 unfold nC;have a0:X.b.block<h.size:=(r.ob.lt rfl).2;have de:n<=h.size:=dI (r.ob.lt rfl).1 (rV a0);have a5:X.U.1.len=us.length+1:=by have:=r.ou.1;rw[hU]at this;simpa[oO] using this
 have df:X.R.1.len=X.R.2.length:=by have:=r.Lm.1;simpa[oO] using this
 have ou:cA n 1 h X.U.1 (oO us++[.pointer (some g.pt)]):=by have:=r.ou;rw[hU]at this;simpa[oO] using this
 have cr:=ou.2.1;refine r.rd (b:=.ptr) none (by simp[oW,hn,B.inj]) (aE (λE=>by cases E) λ_=>r.rd (b:=.sl) X.U.1 rfl (aE (λE=>?_) λ_=>?_))
 .rw[a5,cK,aN]at E;omega
 have bo:bJ .i64 (aQ X.U.1.len) 1=(us.length:Int):=by rw[aN,a5,bY (by omega) (by omega)];omega
 simp only[bo];refine r.rd (b:=.sl) X.U.1 rfl (Rq (b:=.ptr) (some g.pt) ou.rd (by rw[jZ (by simp[oO])];simp[oO,B.inj]) ?_);refine r.rd (b:=.sl) X.U.1 rfl (aL (jF (by omega) (by omega)) (r.rd (b:=.sl) X.R.1 rfl ?_));refine λelem=>?_;have e1:Ext h (h.push (.cells [.pointer (some g.pt)].toArray elem)):=Ext.push ..;have a9:Rd 1 (h.push (.cells [.pointer (some g.pt)].toArray elem)) ⟨some ⟨h.size,0,none⟩,1,1⟩ [.pointer (some g.pt)]:=mI rfl;generalize h.push (.cells [.pointer (some g.pt)].toArray elem)=J at e1 a9⊢;have r1:=r.ext e1;have dr:=e1.1;refine sR (aI.1 r1.ob.cells 3 _ rfl) (sR (aI.1 r1.ob.cells 2 _ rfl) ?_);refine iQ r1.Lm (by omega) a9 (by intro v hv;rw[dE.1 hv];rfl) rfl (by dsimp only;omega) (by dsimp only;omega) λq h2 a7 l2 u2 b2 _=>?_;have c2:aV (λi=>∃a,X.R.1.aD=some a/\a.block=i) J h2:=aV.dK u2 λa ha _=>⟨a,ha,rfl⟩;have dx:=c2.1;have Z:∀a,X.R.1.aD=some a->rho a.block=k+5/\a.block<h.size:=λa ha=>⟨r.rr a ha,(r.Lm.lt ha).2⟩;have a6:=c2.own r1.ob λa ha ⟨y,hy,e⟩=>by cases ha;have J:=(Z y hy).1;have h2:=r.rb;rw[e]at J;omega
 refine sR (aI.1 a6.cells 2 _ rfl) (aL rfl (aL rfl ?_));have bb:(.slice (bK X.U.1.aD X.U.1.cap 0 1) (cY (bQ (us.length:Int)) 0) (cY X.U.1.cap 0):Value)=dN ⟨X.U.1.aD,us.length,X.U.1.cap⟩:=by
  rw[eW];simp[cY,bQ]
 rw[bb];refine fA (dN ⟨X.U.1.aD,us.length,X.U.1.cap⟩) a6 (by simp[oW]) rfl λh3 cc u3=>aL rfl (aL rfl (fA (dN q) cc (by simp[oW]) rfl λh4 cd u4=>?_));have cb:∀{g D:aG} {m c:Nat},jU ⟨some X.b,m,c⟩ g D->aV (λi=>i=X.b.block) g D:=λu=>aV.dK u λa ha _=>by cases ha;rfl
 have ao:aV (λi=>i=X.b.block) h2 h4:=(cb u3).trans (cb u4) λ_ _ x=>x
 let F:Nat->Prop:=λi=>i=X.b.block\/∃a,X.R.1.aD=some a/\a.block=i
 have I:aV F h h4:=(aV.pre e1 (c2.mono (G:=F) λi _ x=>.inr x)).trans (ao.mono (G:=F) λi _ x=>.inl x) λ_ _ x=>x;have ec:=ao.1;have hF:∀i,i<h.size->F i->rho i=k+1\/rho i=k+5:=λi hi o=>by
  rcases o with rfl|⟨a,ha,rfl⟩
  .exact .inl r.rb
  .exact .inr (Z a ha).1
 let C:Nat->Nat:=λi=>if i<h.size then rho i else if (∃a,q.aD=some a/\a.block=i) then k+5 else 0
 have hold:∀i,i<h.size->C i=rho i:=λi hi=>if_pos hi;have d:∀j i,i<h.size->rho i=j->C i=j:=λj i hi e=>by rw[hold i hi];exact e
 have b6:∀a,q.aD=some a->C a.block=k+5:=λa ha=>by
  rcases b2 a ha with hb|hb
  .exact d _ _ (Z a hb).2 (Z a hb).1
  .show(if _ then _ else _)=_
   rw[if_neg (by omega),if_pos ⟨a,ha,rfl⟩]
 have eh:∀i,h4.size<=i->C i=0:=λi hi=>by
  show(if _ then _ else _)=0;rw[if_neg (by omega),if_neg];rintro⟨a,ha,e⟩;have:=(a7.lt ha).2;omega
 have cf:cW k h rho h4 C:=⟨I.mono λi hi o=>by have:=hF i hi o;omega,λi hi _=>hold i hi,λi hi hj=>by
  by_cases a4:i<h.size
  .rw[hold i a4];rcases hj with hj|hj
   .omega
   .exact .inr hj
  .show(if _ then _ else _)=0\/_<(if _ then _ else _)/\(if _ then _ else _)<=_
   rw[if_neg a4];split
   .exact .inr (by omega)
   .exact .inl rfl⟩
 let V:Bk:={X with U:=(⟨X.U.1.aD,us.length,X.U.1.cap⟩,us),R:=(q,X.R.2++[g])}
 have bd:∀D,D∈us\/D∈X.R.2++[g]->D∈X.U.2\/D∈X.R.2:=λD K=>by
  rw[hU];rcases K with K|K
  .exact .inl (oV _ K)
  .rcases dH.1 K with K|K
   .exact .inr K
   .exact .inl (qI _ K)
 have r4:cO S n h4 C k V:={
  t:=r.tK I λi hi o=>by have:=hF i hi o;omega
  rt:=r.vb (d _)
  mp:=r.kx I λi hi o=>by have:=hF i hi o;omega
  rm:=r.tw (d _)
  ow:=r.lj I λi hi o=>by have:=hF i hi o;omega
  EO:=r.vc (d _)
  ou:=by
   have:=cA.v9 (I.own ou λa ha o=>by have J:=hF _ (ou.lt ha).2 o;have h2:=r.ru a ha;omega);have e:(oO us).length=us.length:=by simp[oO]
   rw[e]at this;exact this
  ru:=λa ha=>d _ _ (r.ou.lt ha).2 (r.ru a ha)
  Lm:=by
   have:=ao.own a7 λa ha e=>by
    rcases b2 a ha with hb|hb
    .have J:=(Z a hb).1;have h2:=r.rb;rw[e]at J;omega
    .omega
   show cA n 1 h4 q (oO (X.R.2++[g]));rw[show oO (X.R.2++[g])=oO X.R.2++[.pointer (some g.pt)] by simp[oO]];exact this
  rr:=b6
  gs:=λD bs=>(r.gs D (bd D bs)).aP I (λi hi o=>by have:=hF i hi o;omega) (d _) rfl λs hs=>hs
  nw:=r.xh I (λi hi o=>by have:=hF i hi o;omega) (λi hi _=>hold i hi) rfl λs hs=>hs
  ob:=by
   have:oW V=((oW X).set 2 (dN ⟨X.U.1.aD,us.length,X.U.1.cap⟩)).set 3 (dN q):=by simp[oW,V]
   show cA n 1 h4 ⟨some X.b,10,10⟩ (oW V);rw[this];exact cd
  rb:=d _ _ a0 r.rb}
 have W:g∈V.U.2\/g∈V.R.2:=.inr (qI _ (dE.2 rfl));have g4:=r4.gs g W;refine r4.rd (X:=V) (b:=.ptr) (some X.T.p) rfl (aL rfl (aL rfl (bC (b:=.ptr) (g.pt.add 0) (some g.VN) rfl (aI.1 g4.ob.cells 0 _ rfl) ?_)));refine eG (UA r4.t (by omega) g4.k1 g4.s1) λtg vs h5 E=>?_;obtain⟨rfl,rfl,c5,H,t5,nx,ba,hA⟩:=E;refine⟨rfl,(0,()),rfl,?_⟩;obtain⟨ab,cg,ct,r5⟩:=r4.text c5 t5 nx;have g5:=r5.gs g W;have eg:=c5.1;have ml:g.mv.1.len=g.mv.2.length:=by have:=g5.mv.own.1;simpa using this
 refine aL rfl (aL rfl (bC (b:=.sl) (g.pt.add 4) g.mv.1 rfl (aI.1 g5.ob.cells 4 _ rfl) ?_));have bt:bJ .i64 (aQ g.mv.1.len) 1=(g.mv.2.length:Int)-1:=by rw[aN,ml,bY (by omega) (by omega)]
 rw[bt];have b9:MC X.T H h.size:=⟨nx.p,nx.enc,nx.limit,nx.kept,nx.zm,λi hi=>(nx.zn i hi).imp id λh=>by have:=I.1;omega,λx E=>(nx.adc x E).imp id λh=>by have:=I.1;omega⟩
 let Y:fW->bB->Bk:=λms ws=>{V with T:=H,ms:=ms,ws:=ws}
 refine bL (λ(s:Int×Unit) h'=>∃i:Nat,s.1=(i:Int)-1/\i<=g.mv.2.length/\∃f,cW k h5 ab h' f/\cO S n h' f k (Y (JA ((H0 g).drop i) X.ms) (zZ ((H0 g).drop i) X.ws))) (λs _=>(s.1+1).toNat)
  (λt vs h'=>t=2/\vs=[]/\∃f,cW k h5 ab h' f/\cO S n h' f k (Y (JA (H0 g) X.ms) (zZ (H0 g) X.ws)))
  ⟨g.mv.2.length,rfl,bM _,ab,cW.refl _ _ _,by
   have:(H0 g).drop g.mv.2.length=[]:=List.drop_eq_nil_of_le (by simp);rw[this];exact r5⟩ ?_ ?_
 .rintro⟨(s:Int),u⟩ h6 ⟨i,hs,hi,O,al,r6⟩
  dsimp only at hs⊢;subst hs;refine aE (λE=>?_) λE=>?_
  .rw[dD]at E
   obtain⟨j,rfl⟩:∃j,i=j+1:=⟨i-1,by omega⟩;have hj:((j+1:Nat):Int)-1=(j:Int):=by omega
   rw[hj];have a3:j<g.mv.2.length:=by omega
   have g6:=r6.gs g W;obtain⟨m,aw⟩:∃m,g.mv.2[j]?=some m:=⟨g.mv.2[j],cL a3⟩;have b4:=eM aw;obtain⟨mo,m0,mb⟩:=g6.mv.each m b4;refine aL rfl (aL rfl (bC (b:=.sl) (g.pt.add 4) g.mv.1 rfl (aI.1 g6.ob.cells 4 _ rfl) ?_));refine Rq (b:=.sl) m.1 g6.mv.own.rd (by rw[gP,aw];rfl) ?_;refine aM (Xb (x:=m) mo.ok mb) λ⟨(y:Sl),_⟩ h7 e7 hy=>?_;have hy:JZ h6.size h7 y (qA 0 m.2):=hy;dsimp only;have b8:n<=h6.size:=by have:=(r6.ob.lt rfl).1;have:=(r6.ob.lt rfl).2;omega
   have r7:=r6.zr e7;obtain⟨c,c6,a1⟩:=hc.cut j;have a2:(H0 g).drop j=m.2::(H0 g).drop (j+1):=by
    have b0:j<(H0 g).length:=by simpa using a3
    rw[gY b0]
    congr 1
    have:=(cR.1 aw).2;simp[H0,this]
   rw[a2]at a1;obtain⟨d0,d1,d2,d3,d4⟩:=a1;have b3:=d4.Ye hm;have b1:=QH d0 d1 d4.lo.2 d2 d3;have hw:=b3.w d4.lo.2;refine PU (x:=(y,qA 0 m.2)) r7 ⟨Jj b8 hy.own,hy.fit⟩ (λa ha=>?_) b1.1 hw.1 hw.2 λh8 c8 r8=>?_
   .have:=(hy.own.lt ha).1
    rw[qJ this];omega
   .rw[bY (by omega) (by omega)]
    refine aC ⟨λ_=>⟨((j:Int)-1,()),rfl,⟨j,rfl,by omega,_,(al.trans (cW.nH e7)).trans (cW.of c8 (λi _ hi=>by omega) λi J h2=>qJ (by have:=e7.1;omega)),?_⟩,by dsimp only;omega⟩,λhh=>absurd rfl hh⟩;rw[a2];exact r8
  .rw[eR]at E
   have:i=0:=by omega
   subst this;exact aC ⟨λhh=>absurd hh (by decide),λ_=>⟨rfl,rfl,O,al,r6⟩⟩
 .rintro tg vs h6 ⟨rfl,rfl,O,al,r6⟩
  have g6:=r6.gs g W;refine bE (bO (aL rfl (aL rfl (bC (b:=bI) (g.pt.add 5) g.old rfl (aI.1 g6.ob.cells 5 _ rfl) ?_))));have a8:=r6.zr (Ext.refl h6);refine a8.zu (mq X H ⟨X.U.1.aD,us.length,X.U.1.cap⟩ q us g) (i:=7) (by decide) rfl rfl rfl rfl rfl rfl rfl rfl rfl rfl rfl λh7 r7 c7=>?_;have g7:=r7.gs g W;refine aL rfl (aL rfl (bC (b:=bI) (g.pt.add 2) g.bg rfl (aI.1 g7.ob.cells 2 _ rfl) ?_));have bp:Hist.zr h6 O X.b.block=k+1:=a8.rb;exact aC ⟨rfl,rfl,Hist.zr h6 O,H,_,q,(((cf.trans cg).trans al).trans (cW.nH (Ext.refl h6))).trans (cW.of c7 (λi hi e=>by subst e;rw[bp];omega) λi J h2=>qJ J),r7,b9,ba,hA⟩
end
section
variable{P:Program}{S:cH}{h:aG}{Q:Nat->bG->aG->Prop}{n k:Nat}{rho:Nat->Nat}{X:Bk}
open Classical in
theorem pg{us:List HY}{g:HY}{L0 L1:Int}(r:cO S n h rho k X)(hn:X.now=none)(hU:X.R.2=us++[g])(hc:LR L0 (H0 g) L1)(hm:H6 L0 X.ms X.ws)(hR:X.U.2.length<=1099511627776)(cg:us.length<=1099511627776)(ct:g.mv.2.length<=1099511627776) :
  wp P (nB S (some X.b)) h λtg vs h'=>tg=0/\vs=[aH g.en,aH 0]/\∃f I u q,cW k h rho h' f/\cO S n h' f k (lq X I u q us g)/\MC X.T I h.size/\I.cur=g.sh/\I.A=X.T.A:=by
 unfold nB;have a1:X.b.block<h.size:=(r.ob.lt rfl).2;have cx:n<=h.size:=dI (r.ob.lt rfl).1 (rV a1);have a4:X.R.1.len=us.length+1:=by have:=r.Lm.1;rw[hU]at this;simpa[oO] using this
 have c6:X.U.1.len=X.U.2.length:=by have:=r.ou.1;simpa[oO] using this
 have ou:cA n 1 h X.R.1 (oO us++[.pointer (some g.pt)]):=by have:=r.Lm;rw[hU]at this;simpa[oO] using this
 have cd:=ou.2.1;refine r.rd (b:=.ptr) none (by simp[oW,hn,B.inj]) (aE (λE=>by cases E) λ_=>r.rd (b:=.sl) X.R.1 rfl (aE (λE=>?_) λ_=>?_))
 .rw[a4,cK,aN]at E;omega
 have bb:bJ .i64 (aQ X.R.1.len) 1=(us.length:Int):=by rw[aN,a4,bY (by omega) (by omega)];omega
 simp only[bb];refine r.rd (b:=.sl) X.R.1 rfl (Rq (b:=.ptr) (some g.pt) ou.rd (by rw[jZ (by simp[oO])];simp[oO,B.inj]) ?_);refine r.rd (b:=.sl) X.R.1 rfl (aL (jF (by omega) (by omega)) (r.rd (b:=.sl) X.U.1 rfl ?_));refine λelem=>?_;have e1:Ext h (h.push (.cells [.pointer (some g.pt)].toArray elem)):=Ext.push ..;have a7:Rd 1 (h.push (.cells [.pointer (some g.pt)].toArray elem)) ⟨some ⟨h.size,0,none⟩,1,1⟩ [.pointer (some g.pt)]:=mI rfl;generalize h.push (.cells [.pointer (some g.pt)].toArray elem)=H at e1 a7⊢;have r1:=r.ext e1;have c9:=e1.1;refine sR (aI.1 r1.ob.cells 2 _ rfl) (sR (aI.1 r1.ob.cells 3 _ rfl) ?_);refine iQ r1.ou (by omega) a7 (by intro v hv;rw[dE.1 hv];rfl) rfl (by dsimp only;omega) (by dsimp only;omega) λq h2 a6 l2 u2 b2 _=>?_;have c2:aV (λi=>∃a,X.U.1.aD=some a/\a.block=i) H h2:=aV.dK u2 λa ha _=>⟨a,ha,rfl⟩;have de:=c2.1;have Z:∀a,X.U.1.aD=some a->rho a.block=k+4/\a.block<h.size:=λa ha=>⟨r.ru a ha,(r.ou.lt ha).2⟩;have a5:=c2.own r1.ob λa ha ⟨y,hy,e⟩=>by cases ha;have H:=(Z y hy).1;have h2:=r.rb;rw[e]at H;omega
 refine sR (aI.1 a5.cells 3 _ rfl) (aL rfl (aL rfl ?_));have a9:(.slice (bK X.R.1.aD X.R.1.cap 0 1) (cY (bQ (us.length:Int)) 0) (cY X.R.1.cap 0):Value)=dN ⟨X.R.1.aD,us.length,X.R.1.cap⟩:=by
  rw[eW];simp[cY,bQ]
 rw[a9];refine fA (dN ⟨X.R.1.aD,us.length,X.R.1.cap⟩) a5 (by simp[oW]) rfl λh3 b6 u3=>aL rfl (aL rfl (fA (dN q) b6 (by simp[oW]) rfl λh4 b8 u4=>?_));have cb:∀{g D:aG} {m c:Nat},jU ⟨some X.b,m,c⟩ g D->aV (λi=>i=X.b.block) g D:=λu=>aV.dK u λa ha _=>by cases ha;rfl
 have aw:aV (λi=>i=X.b.block) h2 h4:=(cb u3).trans (cb u4) λ_ _ x=>x
 let F:Nat->Prop:=λi=>i=X.b.block\/∃a,X.U.1.aD=some a/\a.block=i
 have J:aV F h h4:=(aV.pre e1 (c2.mono (G:=F) λi _ x=>.inr x)).trans (aw.mono (G:=F) λi _ x=>.inl x) λ_ _ x=>x;have df:=aw.1;have hF:∀i,i<h.size->F i->rho i=k+1\/rho i=k+4:=λi hi o=>by
  rcases o with rfl|⟨a,ha,rfl⟩
  .exact .inl r.rb
  .exact .inr (Z a ha).1
 let C:Nat->Nat:=λi=>if i<h.size then rho i else if (∃a,q.aD=some a/\a.block=i) then k+4 else 0
 have hold:∀i,i<h.size->C i=rho i:=λi hi=>if_pos hi;have d:∀j i,i<h.size->rho i=j->C i=j:=λj i hi e=>by rw[hold i hi];exact e
 have b1:∀a,q.aD=some a->C a.block=k+4:=λa ha=>by
  rcases b2 a ha with hb|hb
  .exact d _ _ (Z a hb).2 (Z a hb).1
  .show(if _ then _ else _)=_
   rw[if_neg (by omega),if_pos ⟨a,ha,rfl⟩]
 have dx:∀i,h4.size<=i->C i=0:=λi hi=>by
  show(if _ then _ else _)=0;rw[if_neg (by omega),if_neg];rintro⟨a,ha,e⟩;have:=(a6.lt ha).2;omega
 have b9:cW k h rho h4 C:=⟨J.mono λi hi o=>by have:=hF i hi o;omega,λi hi _=>hold i hi,λi hi hj=>by
  by_cases a3:i<h.size
  .rw[hold i a3];rcases hj with hj|hj
   .omega
   .exact .inr hj
  .show(if _ then _ else _)=0\/_<(if _ then _ else _)/\(if _ then _ else _)<=_
   rw[if_neg a3];split
   .exact .inr (by omega)
   .exact .inl rfl⟩
 let V:Bk:={X with R:=(⟨X.R.1.aD,us.length,X.R.1.cap⟩,us),U:=(q,X.U.2++[g])}
 have ba:∀D,D∈X.U.2++[g]\/D∈us->D∈X.U.2\/D∈X.R.2:=λD K=>by
  rw[hU];rcases K with K|K
  .rcases dH.1 K with K|K
   .exact .inl K
   .exact .inr (qI _ K)
  .exact .inr (oV _ K)
 have r4:cO S n h4 C k V:={
  t:=r.tK J λi hi o=>by have:=hF i hi o;omega
  rt:=r.vb (d _)
  mp:=r.kx J λi hi o=>by have:=hF i hi o;omega
  rm:=r.tw (d _)
  ow:=r.lj J λi hi o=>by have:=hF i hi o;omega
  EO:=r.vc (d _)
  ou:=by
   have:=aw.own a6 λa ha e=>by
    rcases b2 a ha with hb|hb
    .have H:=(Z a hb).1;have h2:=r.rb;rw[e]at H;omega
    .omega
   show cA n 1 h4 q (oO (X.U.2++[g]));rw[show oO (X.U.2++[g])=oO X.U.2++[.pointer (some g.pt)] by simp[oO]];exact this
  ru:=b1
  Lm:=by
   have:=cA.v9 (J.own ou λa ha o=>by have H:=hF _ (ou.lt ha).2 o;have h2:=r.rr a ha;omega);have e:(oO us).length=us.length:=by simp[oO]
   rw[e]at this;exact this
  rr:=λa ha=>d _ _ (r.Lm.lt ha).2 (r.rr a ha)
  gs:=λD bo=>(r.gs D (ba D bo)).aP J (λi hi o=>by have:=hF i hi o;omega) (d _) rfl λs hs=>hs
  nw:=r.xh J (λi hi o=>by have:=hF i hi o;omega) (λi hi _=>hold i hi) rfl λs hs=>hs
  ob:=by
   have:oW V=((oW X).set 3 (dN ⟨X.R.1.aD,us.length,X.R.1.cap⟩)).set 2 (dN q):=by simp[oW,V]
   show cA n 1 h4 ⟨some X.b,10,10⟩ (oW V);rw[this];exact b8
  rb:=d _ _ a1 r.rb}
 have W:g∈V.U.2\/g∈V.R.2:=.inl (qI _ (dE.2 rfl));have g4:=r4.gs g W;refine r4.rd (X:=V) (b:=.ptr) (some X.T.p) rfl (aL rfl (aL rfl (bC (b:=.ptr) (g.pt.add 1) (some g.vk) rfl (aI.1 g4.ob.cells 1 _ rfl) ?_)));refine eG (UA r4.t (by omega) g4.k2 g4.s2) λtg vs h5 E=>?_;obtain⟨rfl,rfl,c5,I,t5,nx,a8,hA⟩:=E;refine⟨rfl,(0,()),rfl,?_⟩;obtain⟨ab,cc,cf,r5⟩:=r4.text c5 t5 nx;have g5:=r5.gs g W;have dr:=c5.1;have ml:g.mv.1.len=g.mv.2.length:=by have:=g5.mv.own.1;simpa using this
 refine aL rfl (aL rfl (bC (b:=.sl) (g.pt.add 4) g.mv.1 rfl (aI.1 g5.ob.cells 4 _ rfl) ?_));have b4:MC X.T I h.size:=⟨nx.p,nx.enc,nx.limit,nx.kept,nx.zm,λi hi=>(nx.zn i hi).imp id λh=>by have:=J.1;omega,λx E=>(nx.adc x E).imp id λh=>by have:=J.1;omega⟩
 let Y:fW->bB->Bk:=λms ws=>{V with T:=I,ms:=ms,ws:=ws}
 have b0:aQ g.mv.1.len=(g.mv.2.length:Int):=by rw[aN,ml]
 rw[b0];refine bL (λ(s:Int×Unit) h'=>∃i:Nat,s.1=(i:Int)/\i<=g.mv.2.length/\∃f,cW k h5 ab h' f/\cO S n h' f k (Y (Hb ((H0 g).take i) X.ms) (sQ ((H0 g).take i) X.ws))) (λs _=>((g.mv.2.length:Int)-s.1).toNat)
  (λt vs h'=>t=2/\vs=[]/\∃f,cW k h5 ab h' f/\cO S n h' f k (Y (Hb (H0 g) X.ms) (sQ (H0 g) X.ws)))
  ⟨0,rfl,cN _,ab,cW.refl _ _ _,r5⟩ ?_ ?_
 .rintro⟨(s:Int),u⟩ h6 ⟨j,hs,hi,O,ao,r6⟩
  dsimp only at hs⊢;subst hs;refine aE (λE=>?_) λE=>?_
  .rw[aU]at E
   have bp:j<g.mv.2.length:=by omega
   have g6:=r6.gs g W;obtain⟨m,a0⟩:∃m,g.mv.2[j]?=some m:=⟨g.mv.2[j],cL bp⟩;have bt:=eM a0;obtain⟨mo,m0,mb⟩:=g6.mv.each m bt;refine Rq (b:=.sl) m.1 g6.mv.own.rd (by rw[gP,a0];rfl) ?_;obtain⟨c,a2,cr⟩:=hc.cut j;have b3:(H0 g).take (j+1)=(H0 g).take j++[m.2]:=by
    rw[eN,gP,a0];rfl
   have bs:=a2.XR hm;have hw:=bs.w a2.hi.2;have al:=r6.zr (Ext.refl h6);refine PU (x:=m) al mo (λa ha=>?_) mb hw.1 hw.2 λh8 c8 r8=>?_
   .rw[sZ (mo.own.lt ha).2,m0 a ha];omega
   .rw[aX (by omega) (by omega)]
    refine aC ⟨λ_=>⟨((j:Int)+1,()),rfl,⟨j+1,by push_cast;rfl,by omega,_,(ao.trans (cW.nH (Ext.refl h6))).trans (cW.of c8 (λi _ hi=>by omega) λi H h2=>qJ H),?_⟩,by dsimp only;omega⟩,λhh=>absurd rfl hh⟩;rw[b3];unfold Hb sQ;rw[GC,GC];exact r8
  .rw[aY]at E
   have hj:j=g.mv.2.length:=by omega
   subst hj;have ht:(H0 g).take g.mv.2.length=H0 g:=iW (by simp);rw[ht]at r6;exact aC ⟨λhh=>absurd hh (by decide),λ_=>⟨rfl,rfl,O,ao,r6⟩⟩
 .rintro tg vs h6 ⟨rfl,rfl,O,ao,r6⟩
  have g6:=r6.gs g W;refine bE (bO (aL rfl (aL rfl (bC (b:=bI) (g.pt.add 6) g.fresh rfl (aI.1 g6.ob.cells 6 _ rfl) ?_))));have al:=r6.zr (Ext.refl h6);refine al.zu (lq X I ⟨X.R.1.aD,us.length,X.R.1.cap⟩ q us g) (i:=7) (by decide) rfl rfl rfl rfl rfl rfl rfl rfl rfl rfl rfl λh7 r7 c7=>?_;have g7:=r7.gs g W;refine aL rfl (aL rfl (bC (b:=bI) (g.pt.add 3) g.en rfl (aI.1 g7.ob.cells 3 _ rfl) ?_));have bd:Hist.zr h6 O X.b.block=k+1:=al.rb;exact aC ⟨rfl,rfl,Hist.zr h6 O,I,_,q,(((b9.trans cc).trans ao).trans (cW.nH (Ext.refl h6))).trans (cW.of c7 (λi hi e=>by subst e;rw[bd];omega) λi H h2=>qJ H),r7,b4,a8,hA⟩
end
end Go.Sw.Hist
namespace Go.Sw.Piece
open Go.Sw.Any Go.Sw.Codec
section
variable{P:Program}{S:cH}{h:aG}{Q:Nat->bG->aG->Prop}
variable{l:bB}
abbrev N4(e:iM):Nat:=e.2.2.1.2.length
def hP(e:iM):iM:=(e.1,e.2.1,(⟨none,0,0⟩,e.2.2.1.2),())
theorem Gq(es:List iM):aW (es.map hP)=aW es:=by simp[aW,List.flatMap_map,hP]
theorem Kr{len:Int}:∀{es:List iM} {a:Int},uP len a (es.map hP)↔uP len a es
 |[],_=>Iff.rfl
 |e::es,a=>by simp only[fS,uP,Kr (es:=es)];exact Iff.rfl
theorem Ds(E:List El):∀es:List iM,iY E (es.map hP)=iY E es
 |[]=>rfl
 |e::es=>by rw[fS,qE,qE,Ds E es];rfl
theorem QG{k:IntKind}(x:Sl×bB):(Sh.list (.int k)).wt x=x.2.length+1:=by
 have:∀l:bB,(l.map (Sh.int k).wt).sum=l.length:=by
  intro l
  induction l with
  |nil=>rfl
  |cons y l c=>rw[fS,Eg,c,fK,F0];rfl
 simp only[Sh.wt];have b:=this x.2;exact congrArg (· + 1) b
theorem wj(e:iM):N4 e+1<=jT.wt e:=by
 have b:=QG (k:=.i64) e.2.2.1;have c:N4 e=e.2.2.1.2.length:=rfl;simp only[Sh.wt]at b⊢;omega
theorem qt(x:GP):x.2.length<=(Sh.list jT).wt x/\(aW x.2).length<=(Sh.list jT).wt x/\∀e,e∈x.2->N4 e<=(Sh.list jT).wt x:=by
 have:∀l:List iM,l.length<=(l.map jT.wt).sum/\(aW l).length<=(l.map jT.wt).sum/\∀e,e∈l->N4 e<=(l.map jT.wt).sum:=by
  intro l
  induction l with
  |nil=>exact⟨bM _,bM _,λe he=>by cases he⟩
  |cons y l d=>
   have b:=wj y;have c:(aW (y::l)).length=N4 y+(aW l).length:=by simp[aW]
   rw[fS,Eg,fK,c];refine⟨by omega,by omega,λe he=>?_⟩;rcases eH.1 he with rfl|he
   .omega
   .have:=d.2.2 e he;omega
 have b:=this x.2;have e:(Sh.list jT).wt x=(x.2.map jT.wt).sum+1:=rfl;rw[e];exact⟨by omega,by omega,λe he=>by have:=b.2.2 e he;omega⟩
theorem yE{α:Type}(f:α->Nat){l:List α}{y:α}(b:y∈l):f y<=(l.map f).sum:=by
 induction l with
 |nil=>cases b
 |cons z l c=>
  rw[fS,Eg];rcases eH.1 b with rfl|b
  .omega
  .have:=c b;omega
theorem Oj{α:Type}(f g:α->Nat):∀l:List α,(∀y,y∈l->f y<=g y)->(l.map f).sum<=(l.map g).sum
 |[],_=>bM _
 |y::l,h=>by
  rw[fS,Eg,fS,Eg];have:=h y (eO ..);have:=Oj f g l λz b=>h z (eK _ b);omega
theorem Ic{E:List El}:∀{es:List iM} {a:Int} {k:Nat},uP E.length a es->(k:Int)<=a->(iY E es).take k=E.take k
 |[],_,_,_,_=>rfl
 |e::es,a,k,⟨d,f,g,b⟩,j=>by
  have c:=Ic (E:=E) (es:=es) (k:=e.1.toNat) b (by omega);rw[qE];unfold DW;rw[c,dW,Ap (by rw[dJ];omega),JR,show min k e.1.toNat=k by omega]
def fwd(E:List El):Int->List iM->List El
 |a,[]=>E.drop a.toNat
 |a,e::es=>(E.drop a.toNat).take (e.1.toNat-a.toNat)++e.2.2.1.2.map (λx=>(x, -1))++fwd E e.2.1 es
theorem Qa{E:List El}:∀{es:List iM} {a:Int},0<=a->a<=E.length->uP E.length a es->iY E es=E.take a.toNat++fwd E a es
 |[],a,_,_,_=>by unfold fwd;rw[eY];rfl
 |e::es,a,h0,ha,⟨g,m,d,b⟩=>by
  have f:=Qa (E:=E) (es:=es) (by omega) d b;rw[qE];unfold DW fwd;rw[Ic b (by omega),f,Mr (by rw[dJ];omega)];have:E.take e.1.toNat=E.take a.toNat++(E.drop a.toNat).take (e.1.toNat-a.toNat):=by
   have c:=List.take_add (l:=E) (i:=a.toNat) (j:=e.1.toNat-a.toNat);rw[show a.toNat+(e.1.toNat-a.toNat)=e.1.toNat by omega]at c;exact c
  rw[this];simp[dW]
theorem Oe{enc:Int}(c:jV enc l):(fE enc l:Int)=(l.flatMap (cZ enc)).length:=by
 induction l with
 |nil=>rfl
 |cons a l g=>
  have j:=oQ (c a (eO ..));have d:=g λb hb=>c b (eK _ hb);have f:fE enc (a::l)=bW enc a+fE enc l:=by simp[fE]
  rw[f,gB,bP,d];omega
theorem iq(l:bB):(l.map λa=>((a, -1):El)).map (λx:El=>x.1)=l:=by
 rw[sX]
 conv=>rhs;rw[<-List.map_id l]
 rfl
theorem SE{enc:Int}:lE enc (l.map λa=>((a, -1):El))=(l.flatMap (cZ enc)).length:=by
 unfold lE;rw[iq]
theorem MM(enc:Int)(E:List El)(k:Nat):lE enc E=lE enc (E.take k)+lE enc (E.drop k):=by rw[<-lU,eY]
def Nn(enc:Int)(E:List El)(es:List iM):Int:=(es.map λe=>(lE enc (E.take e.2.1.toNat):Int)-lE enc (E.take e.1.toNat)).sum
theorem SD{enc:Int}{E:List El}:∀{es:List iM} {a:Int},0<=a->uP E.length a es->jV enc (aW es)->(lE enc (iY E es):Int)=lE enc E+fE enc (aW es)-Nn enc E es
 |[],_,_,_,_=>by simp[iY,aW,Nn,fE]
 |e::es,a,h0,⟨p,r,t,b⟩,c=>by
  have o:aW (e::es)=e.2.2.1.2++aW es:=by simp[aW]
  rw[o]at c⊢;have f:jV enc e.2.2.1.2:=λx d=>c x (oV _ d);have g:jV enc (aW es):=λx d=>c x (qI _ d);have u:=SD (E:=E) (es:=es) (by omega) b g;have s1:fE enc (e.2.2.1.2++aW es)=fE enc e.2.2.1.2+fE enc (aW es):=by simp[fE]
  have j:Nn enc E (e::es)=((lE enc (E.take e.2.1.toNat):Int)-lE enc (E.take e.1.toNat))+Nn enc E es:=by simp[Nn]
  have s2:=Oe f;rw[qE,s1,j];unfold DW;rw[Ic b (by omega),lU,lU,SE];have m:=MM enc (iY E es) e.2.1.toNat;rw[Ic b (by omega)]at m;omega
theorem Wq{enc:Int}:∀{l:bB},jV enc l->dM (l.map (tk enc))=(l.flatMap (cZ enc)).length
 |[],_=>rfl
 |a::l,c=>by
  have d:=oQ (c a (eO ..));rw[fS,nA,Wq λb hb=>c b (eK _ hb),gB,bP];show(bW enc a).toNat+_=_;omega
theorem NU{enc:Int}(he:eL enc){ps:List Pc}(hb:∀q,q∈ps->cC q.2)(k:Nat):dM ((cQ enc ps).take k)=lE enc ((iG enc ps).take k):=by
 obtain⟨b,_,c⟩:=Gs he hb;rw[b,<-Ef,<-Ef,Wq λa ha=>c a (by obtain⟨x,d,rfl⟩:=dA.1 ha;exact dA.2 ⟨x,rU d,rfl⟩)];rfl
theorem Zz{enc:Int}(he:eL enc){ps:List Pc}(hb:∀q,q∈ps->cC q.2)(es:List iM):xF (cQ enc ps) es=Nn enc (iG enc ps) es:=by
 unfold xF Nn
 congr 1
 refine JS λe _=>?_;rw[NU he hb,NU he hb]
def H8(enc limit:Int)(E:List El)(es:List iM):Prop:=uP E.length 0 es/\jV enc (aW es)/\(lE enc (iY E es):Int)<=limit
theorem TS{enc limit r:Int}(he:eL enc){ps:List Pc}(hb:∀q,q∈ps->cC q.2){es:List iM}(h:Lu enc limit (cQ enc ps) es r):(r=0↔es.length<=70000/\H8 enc limit (iG enc ps) es):=by
 have g:(cQ enc ps).length=(iG enc ps).length:=(yU ..).symm;have h0:(dM (cQ enc ps):Int)=lE enc (iG enc ps):=by
  have:=NU he hb (cQ enc ps).length;rw[fF,g,fF]at this;exact congrArg _ this
 have key:uP (iG enc ps).length 0 es->jV enc (aW es)->(lE enc (iY (iG enc ps) es):Int)=dM (cQ enc ps)+fE enc (aW es)-xF (cQ enc ps) es:=λa b=>by
  rw[SD (kR 0) a b,Zz he hb,h0]
 cases h with
 |many h=>exact⟨λh=>(by cases h),λf=>by omega⟩
 |place a b=>exact⟨λh=>(by cases h),λf=>absurd (g ▸ f.2.1) b⟩
 |fit a b c=>exact⟨λh=>(by cases h),λf=>absurd f.2.2.1 c⟩
 |full a b c d=>rw[g]at b;exact⟨λh=>(by cases h),λf=>by have:=key b c;have:=f.2.2.2;omega⟩
 |ok a b c d=>rw[g]at b;exact⟨λ_=>⟨a,b,c,by rw[key b c];exact d⟩,λ_=>rfl⟩
def tg(x:El):Bool:=decide (x.2 ≠ -1)
theorem uP.le{L:Int}:∀{es:List iM} {a:Int},uP L a es->∀e,e∈es->e.1<=e.2.1
 |e::es,a,⟨f,c,g,d⟩,x,b=>by
  rcases eH.1 b with rfl|b
  .exact c
  .exact uP.le d x b
end
end Go.Sw.Piece
namespace Go.Sw.Hist
open Go.Sw.Any Go.Sw.Codec Go.Sw.Piece
section
variable{e:iM}{s:Int}
def MD(enc limit:Int)(E:List El):Prop:=(∀a,a∈E.map (·.1)->0<bW enc a)/\(lE enc E:Int)<=limit
theorem VP{enc:Int}:∀{E:List El},(∀a,a∈E.map (·.1)->0<bW enc a)->E.length<=lE enc E
 |[],_=>cN _
 |x::E,h=>by
  have d:=VP (E:=E) λa ha=>h a (eK _ ha);have b:=oQ (h x.1 (eO ..));have c:=h x.1 (eO ..);have e:lE enc (x::E)=(cZ enc x.1).length+lE enc E:=by unfold lE;rw[fS,gB,bP]
  rw[e,fK];omega
theorem MD.len{enc limit:Int}{E:List El}(h:MD enc limit E):(E.length:Int)<=limit:=by have:=VP h.1;have:=h.2;omega
theorem iu{E:List El}{x:El}(h:x∈DW E e):x∈E\/x.1∈e.2.2.1.2:=by
 unfold DW at h;rcases dH.1 h with h|h
 .rcases dH.1 h with h|h
  .exact .inl (rU h)
  .obtain⟨a,ha,rfl⟩:=dA.1 h
   exact .inr ha
 .exact .inl (BD h)
theorem Wl{E:List El}:∀{c:List iM} {x:El},x∈iY E c->x∈E\/x.1∈aW c
 |[],x,h=>.inl h
 |e::c,x,h=>by
  rw[qE]at h;have b:aW (e::c)=e.2.2.1.2++aW c:=by simp[aW]
  rw[b];rcases iu h with h|h
  .rcases Wl h with h|h
   .exact .inl h
   .exact .inr (qI _ h)
  .exact .inr (oV _ h)
theorem MD.all{enc limit:Int}{E:List El}{c:List iM}(h:MD enc limit E)(o:H8 enc limit E c):MD enc limit (iY E c):=by
 refine⟨λa ha=>?_,o.2.2⟩;obtain⟨x,b,rfl⟩:=dA.1 ha;rcases Wl b with b|b
 .exact h.1 _ (dA.2 ⟨x,b,rfl⟩)
 .exact o.2.1 _ b
def lL(E:List El)(cs:List (List iM)):List El:=cs.foldl iY E
def LU(enc limit:Int):List El->List (List iM)->Prop
 |_,[]=>True
 |E,c::cs=>c.length<=70000/\H8 enc limit E c/\LU enc limit (iY E c) cs
theorem N3(E:List El)(cs:List (List iM))(c:List iM):lL E (cs++[c])=iY (lL E cs) c:=by simp[lL]
theorem LU.snoc{enc limit:Int}{c:List iM}(b:c.length<=70000):∀{cs:List (List iM)} {E:List El},LU enc limit E cs->H8 enc limit (lL E cs) c->LU enc limit E (cs++[c])
 |[],_,_,o=>⟨b,o,trivial⟩
 |d::cs,E,⟨f,g,j⟩,o=>⟨f,g,LU.snoc b j o⟩
theorem LU.ok{enc limit:Int}:∀{cs:List (List iM)} {E:List El},MD enc limit E->LU enc limit E cs->MD enc limit (lL E cs)
 |[],_,h,_=>h
 |c::cs,E,h,⟨_,b,d⟩=>show MD enc limit (lL (iY E c) cs) from LU.ok (h.all b) d
abbrev nX(c:List iM):List mS:=c.map dO
theorem LU.y8{enc limit:Int}(g:limit<=65536):∀{cs:List (List iM)} {E:List El},MD enc limit E->LU enc limit E cs->LR E.length (cs.map nX) (lL E cs).length
 |[],E,h,_=>⟨by omega,by have:=h.len;omega,rfl⟩
 |c::cs,E,h,⟨d,b,f⟩=>by
  refine⟨by omega,by have:=h.len;omega,N1 b.1,by rw[cE];exact d,?_⟩;have:=MK b.1 (kR _);rw[<-this];exact LU.y8 g (h.all b) f
theorem qu{E:List El}(he:e.1<=e.2.1)(h:oZ e=false):DW E e=E:=by
 unfold oZ at h;rw[CE,decide_eq_false_iff_not,decide_eq_false_iff_not]at h;have b:e.2.2.1.2=[]:=Aq (by omega);unfold DW;rw[b,show e.2.1=e.1 by omega];simp
theorem V2{E:List El}:∀{c:List iM},(∀e∈c,e.1<=e.2.1)->c.any oZ=false->iY E c=E
 |[],_,_=>rfl
 |e::c,b,h=>by
  rw[List.any_cons,CE]at h;rw[qE,V2 (λx d=>b x (eK _ d)) h.2,qu (b e (eO ..)) h.1]
def C2(cs:List (List iM)):Bool:=cs.any λc=>c.any oZ
theorem IS{enc limit:Int}:∀{cs:List (List iM)} {E:List El},LU enc limit E cs->C2 cs=false->lL E cs=E
 |[],_,_,_=>rfl
 |c::cs,E,⟨_,f,b⟩,h=>by
  unfold C2 at h;rw[List.any_cons,CE]at h;have d:=V2 (E:=E) f.1.le h.1;rw[d]at b;have:=IS b h.2;show lL (iY E c) cs=E;rw[d];exact this
theorem FQ(c:List iM):nX (c.map hP)=nX c:=by unfold nX;rw[sX];rfl
theorem PZ(c:List iM):(c.map hP).any oZ=c.any oZ:=by rw[Mt];rfl
theorem D7{enc limit:Int}{E:List El}{c:List iM}:H8 enc limit E (c.map hP)↔H8 enc limit E c:=by
 unfold H8;rw[Kr,Gq,Ds]
structure GM where
 lI:List (List iM)
 bg:Int
 en:Int
 st:Int
def iT(E:List El)(l:List GM):List El:=l.foldl (λE g=>lL E g.lI) E
def H7(enc limit:Int):List El->List GM->Prop
 |_,[]=>True
 |E,g::l=>LU enc limit E g.lI/\H7 enc limit (lL E g.lI) l
def Ul(s:Int)(l:List GM):Int:=l.foldl (λ_ g=>g.st) s
theorem yB(E:List El)(l:List GM)(g:GM):iT E (l++[g])=lL (iT E l) g.lI:=by simp[iT]
theorem AR(E:List El)(l m:List GM):iT E (l++m)=iT (iT E l) m:=by simp[iT]
theorem Dq(s:Int)(l:List GM)(g:GM):Ul s (l++[g])=g.st:=by simp[Ul]
theorem HS(s:Int)(l m:List GM):Ul s (l++m)=Ul (Ul s l) m:=by simp[Ul]
theorem H7.append{enc limit:Int}:∀{l m:List GM} {E:List El},H7 enc limit E (l++m)↔H7 enc limit E l/\H7 enc limit (iT E l) m
 |[],m,E=>by simp[H7,iT]
 |g::l,m,E=>by
  have:=H7.append (l:=l) (m:=m) (E:=lL E g.lI) (enc:=enc) (limit:=limit);simp only[Ed,H7,this,and_assoc];exact Iff.rfl
theorem H7.ok{enc limit:Int}:∀{l:List GM} {E:List El},MD enc limit E->H7 enc limit E l->MD enc limit (iT E l)
 |[],_,h,_=>h
 |g::l,E,h,⟨b,c⟩=>show MD enc limit (iT (lL E g.lI) l) from H7.ok (LU.ok h b) c
structure Yv(enc:Int)(E:List El)(s:Int)(g:HY)(m:GM):Prop where
 eb:iG enc g.sb.ps=E
 ee:iG enc g.sh.ps=lL E m.lI
 mv:H0 g=m.lI.map nX
 bg:g.bg=m.bg
 en:g.en=m.en
 old:g.old=s
 fr:g.fresh=m.st
inductive mR(enc:Int):List El->Int->List HY->List GM->Prop where
 |nil (E:List El) (s:Int):mR enc E s [] []
 |cons {E:List El} {s:Int} {g:HY} {m:GM} {gs:List HY} {ms:List GM}:Yv enc E s g m->mR enc (lL E m.lI) m.st gs ms->mR enc E s (g::gs) (m::ms)
theorem mR.len{enc:Int}{E:List El}{gs:List HY}{ms:List GM}(c:mR enc E s gs ms):gs.length=ms.length:=by
 induction c with
 |nil=>rfl
 |cons _ _ b=>simp[b]
theorem mR.snoc{enc:Int}{E:List El}{gs:List HY}{ms:List GM}{g:HY}{m:GM}(c:mR enc E s gs ms)(h:Yv enc (iT E ms) (Ul s ms) g m):mR enc E s (gs++[g]) (ms++[m]):=by
 induction c with
 |nil E s=>exact .cons h (.nil _ _)
 |cons b _ d=>exact .cons b (d h)
theorem mR.last{enc:Int}{g:HY}:∀{gs:List HY} {E:List El} {s:Int} {ms:List GM},mR enc E s (gs++[g]) ms->∃b m,ms=b++[m]/\mR enc E s gs b/\Yv enc (iT E b) (Ul s b) g m
 |[],E,s,ms,c=>by
  cases c with
  |cons d c=>
   cases c;exact⟨[],_,rfl, .nil _ _,d⟩
 |x::gs,E,s,ms,c=>by
  cases c with
  |cons d c=>
   obtain⟨b,m,rfl,c1,c2⟩:=mR.last c;exact⟨_::b,m,rfl, .cons d c1,c2⟩
theorem mR.un{enc:Int}{E:List El}{gs:List HY}{ms:List GM}{m:GM}(c:mR enc E s gs (ms++[m])):∃b g,gs=b++[g]/\mR enc E s b ms/\Yv enc (iT E ms) (Ul s ms) g m:=by
 have f:=c.len;rcases Mu gs with rfl|⟨b,g,rfl⟩
 .simp at f
 .rw[JU]at c
  obtain⟨j,o,e,c1,c2⟩:=c.last;obtain⟨rfl,d⟩:=List.append_inj_left' e rfl,List.append_inj_right' e rfl;cases d;exact⟨b,g,by rw[JU],c1,c2⟩
end
section
variable{a:Int}{ds:List GM}
abbrev iO:=List (Int×Int)
structure CR where
 lI:List (List iM)
 bg:Int
 om:iO
 ow:bB
structure Mo where
 E0:List El
 depth:Int
 lost:List GM
 done:List GM
 next:List GM
 now:Option CR
 marks:iO
 watched:bB
 saved:Int
 last:Int
def Mo.C(M:Mo):List El:=iT M.E0 (M.lost++M.done)
def Mo.st(M:Mo):Int:=Ul 0 (M.lost++M.done)
def Mo.ch(M:Mo):List (List iM):=(M.now.map (·.lI)).getD []
def Mo.E(M:Mo):List El:=lL M.C M.ch
def Mo.all(M:Mo):List GM:=M.lost++M.done++M.next
def Mo.sz(M:Mo):Nat:=M.last.toNat+(M.all.map (·.lI.length)).sum+M.ch.length
def Mo.ins(M:Mo)(a:Int):Prop:=0<=a/\a<=M.E.length
def lY(x:List mS)(l:iO):iO:=l.map λe=>(e.1,(qU e.2 x).1)
def wR(l:List (List mS))(ms:iO):iO:=l.foldr (λm s=>lY (qA 0 m) s) ms
def rP(l:List (List mS))(ms:iO):iO:=l.foldl (λs m=>lY m s) ms
def qB(name a:Int):iO->iO
 |[]=>[(name,a)]
 |e::l=>if e.1<name then e::qB name a l else if e.1=name then (name,a)::l else (name,a)::e::l
def Mo.oY(M:Mo)(q:CR)(es:List iM):Mo:={M with now:=some {q with lI:=q.lI++[es.map hP]},marks:=lY (nX es) M.marks,watched:=lM (nX es) M.watched}
def Mo.aP(M:Mo)(q:CR)(a:Int):Mo:=
 let l:=M.done++[⟨q.lI,q.bg,a,M.last+1⟩]
 {M with now:=none,next:=[],last:=M.last+1,lost:=if M.depth<(M.done.length:Int)+1 then M.lost++l.take 1 else M.lost,done:=if M.depth<(M.done.length:Int)+1 then l.drop 1 else l}
def Mo.back(M:Mo)(ds:List GM)(g:GM):Mo:={M with done:=ds,next:=g::M.next,marks:=wR (g.lI.map nX) M.marks,watched:=zZ (g.lI.map nX) M.watched}
def Mo.xE(M:Mo)(g:GM)(ns:List GM):Mo:={M with done:=M.done++[g],next:=ns,marks:=rP (g.lI.map nX) M.marks,watched:=sQ (g.lI.map nX) M.watched}
structure iF(enc limit:Int)(M:Mo)(N:Nat):Prop where
 en:eL enc
 li:0<=limit/\limit<=65536
 dp:1<=M.depth/\M.depth<=200
 e0:MD enc limit M.E0
 ok:H7 enc limit M.E0 M.all
 eo:LU enc limit M.C M.ch
 la:0<=M.last
 BI:∀g∈M.all,0<g.st/\g.st<=M.last
 mono:M.all.Pairwise λa b=>a.st<b.st
 mi:∀e∈M.marks,0<=e.2/\e.2<=M.E.length
 so:M.marks.Pairwise λa b=>a.1<b.1
 mb:M.marks.length<=N
 wk:∀v∈M.watched,v<=M.E.length
 wl:M.watched.length<=N
 nw:∀q,M.now=some q->(∀e∈q.om,0<=e.2/\e.2<=M.C.length)/\(q.om.Pairwise λa b=>a.1<b.1)/\q.om.length<=N/\(∀v∈q.ow,v<=M.C.length)/\q.ow.length<=N
 sz:M.sz<=N
 nm:(∀k∈M.marks.map (·.1),OB k)/\∀q,M.now=some q->∀k∈q.om.map (·.1),OB k
variable{enc limit:Int}{M:Mo}{N:Nat}
theorem iF.ZV{N':Nat}(o:iF enc limit M N)(f:N<=N'):iF enc limit M N':=
 ⟨o.en,o.li,o.dp,o.e0,o.ok,o.eo,o.la,o.BI,o.mono,o.mi,o.so,dI o.mb f,o.wk,dI o.wl f,λq g=>let ⟨a,b,c,d,e⟩:=o.nw q g;⟨a,b,dI c f,d,dI e f⟩,dI o.sz f,o.nm⟩
theorem iF.LM(o:iF enc limit M N):MD enc limit M.C:=H7.ok o.e0 (H7.append.1 o.ok).1
theorem iF.lf(o:iF enc limit M N):MD enc limit M.E:=LU.ok o.LM o.eo
theorem Mo.xI(b:M.now=none):M.E=M.C:=by unfold Mo.E Mo.ch;rw[b];rfl
theorem iF.len(o:iF enc limit M N):(M.E.length:Int)<=65536:=by have:=o.lf.len;have:=o.li;omega
def V6(l:iO):fW:=l.map λe=>(e.1,e.2,0)
theorem Qt(x:List mS)(l:iO):BG x (V6 l)=V6 (lY x l):=by simp[BG,V6,lY]
theorem S3:∀(l:List (List mS)) (ms:iO),JA l (V6 ms)=V6 (wR l ms)
 |[],ms=>rfl
 |m::l,ms=>by show BG (qA 0 m) (JA l (V6 ms))=V6 (lY (qA 0 m) (wR l ms));rw[S3 l ms,Qt]
theorem S2:∀(l:List (List mS)) (ms:iO),Hb l (V6 ms)=V6 (rP l ms)
 |[],ms=>rfl
 |m::l,ms=>by show Hb l (BG m (V6 ms))=V6 (rP l (lY m ms));rw[Qt,S2 l]
theorem Qu{L:Int}{ms:iO}{ws:bB}:H6 L (V6 ms) ws↔(∀e∈ms,0<=e.2/\e.2<=L)/\∀v∈ws,v<=L:=by
 unfold H6 V6;refine and_congr ⟨λh e he=>h _ (dA.2 ⟨e,he,rfl⟩),λh e he=>?_⟩ Iff.rfl;obtain⟨x,b,rfl⟩:=dA.1 he;exact h x b
theorem iF.ms(o:iF enc limit M N):H6 M.E.length (V6 M.marks) M.watched:=Qu.2 ⟨o.mi,o.wk⟩
theorem Qz(x:List mS)(l:iO):(lY x l).map (·.1)=l.map (·.1):=by simp[lY]
theorem Ug:∀(l:List (List mS)) (ms:iO),(wR l ms).map (·.1)=ms.map (·.1)
 |[],ms=>rfl
 |m::l,ms=>by show(lY (qA 0 m) (wR l ms)).map _=_;rw[Qz,Ug l]
theorem TQ:∀(l:List (List mS)) (ms:iO),(rP l ms).map (·.1)=ms.map (·.1)
 |[],ms=>rfl
 |m::l,ms=>by show(rP l (lY m ms)).map _=_;rw[TQ l,Qz]
theorem Vp{a b:iO}(h:b.map (·.1)=a.map (·.1))(ha:a.Pairwise λx y=>x.1<y.1):b.Pairwise λx y=>x.1<y.1:=by
 have c:(a.map (·.1)).Pairwise λx y=>x<y:=Mv.2 ha;rw[<-h]at c;exact Mv.1 c
theorem Q7{a b:iO}(h:b.map (·.1)=a.map (·.1)):b.length=a.length:=by have:=congrArg List.length h;simpa using this
theorem P4:∀(l:List (List mS)) (ws:bB),(zZ l ws).length=ws.length
 |[],_=>rfl
 |m::l,ws=>by show(lM (qA 0 m) (zZ l ws)).length=_;unfold lM;rw[cE,P4 l]
theorem PS:∀(l:List (List mS)) (ws:bB),(sQ l ws).length=ws.length
 |[],_=>rfl
 |m::l,ws=>by show(sQ l (lM m ws)).length=_;rw[PS l];unfold lM;rw[cE]
theorem iF.begin(o:iF enc limit M N)(f:M.now=none)(a:Int):iF enc limit {M with now:=some ⟨[],a,M.marks,M.watched⟩} N:=by
 have he:=Mo.xI f;refine⟨o.en,o.li,o.dp,o.e0,o.ok,trivial,o.la,o.BI,o.mono,?_,o.so,o.mb,?_,o.wl,λq b=>?_,?_,o.nm.1,λq b=>by cases b;exact o.nm.1⟩
 .have:=o.mi;rw[he]at this;exact this
 .have:=o.wk;rw[he]at this;exact this
 .cases b
  have c:=o.mi;have d:=o.wk;rw[he]at c d;exact⟨c,o.so,o.mb,d,o.wl⟩
 .have:=o.sz;unfold Mo.sz Mo.ch at this⊢;rw[f]at this;exact this
theorem Mo.Y5{q:CR}(b:M.now=some q)(es:List iM):(M.oY q es).E=iY M.E es:=by
 unfold Mo.E Mo.ch Mo.oY;rw[b];show lL M.C (q.lI++[es.map hP])=_;rw[N3,Ds];rfl
theorem iF.oY{q:CR}{es:List iM}(o:iF enc limit M N)(d:M.now=some q)(m:es.length<=70000)(c:H8 enc limit M.E es):iF enc limit (M.oY q es) (N+1):=by
 have j:=Mo.Y5 d es;have b:M.ch=q.lI:=by unfold Mo.ch;rw[d];rfl
 have hlen:=MK c.1 (kR _);have hm:=UZ (by omega) (N1 c.1) o.ms;rw[<-hlen,Qt]at hm;have hm:=Qu.1 hm;have f:=Qz (nX es) M.marks;refine⟨o.en,o.li,o.dp,o.e0,o.ok,?_,o.la,o.BI,o.mono,?_,Vp f o.so,?_,?_,?_,λp g=>?_,?_,(by show ∀k∈(lY (nX es) M.marks).map (·.1),OB k;rw[f];exact o.nm.1),λp g=>by cases g;exact o.nm.2 q d⟩
 .show LU enc limit M.C (q.lI++[es.map hP])
  refine LU.snoc (by rw[cE];exact m) (by have:=o.eo;rw[b]at this;exact this) (D7.2 ?_);have:M.E=lL M.C q.lI:=by unfold Mo.E;rw[b]
  rw[<-this];exact c
 .rw[j];exact hm.1
 .have:=Q7 f;have r:=o.mb;show(lY (nX es) M.marks).length<=_;omega
 .rw[j];exact hm.2
 .show(lM _ _).length<=_;unfold lM;rw[cE];have:=o.wl;omega
 .have:=o.nw q d
  cases g;exact⟨this.1,this.2.1,F6 this.2.2.1,this.2.2.2.1,F6 this.2.2.2.2⟩
 .have:=o.sz
  unfold Mo.sz at this⊢;rw[b]at this;show M.last.toNat+(M.all.map (·.lI.length)).sum+(q.lI++[es.map hP]).length<=N+1;rw[bP,As];omega
theorem iF.wm{q:CR}(o:iF enc limit M N)(f:M.now=some q)(he:C2 q.lI=false):iF enc limit {M with now:=none} N:=by
 have b:M.ch=q.lI:=by unfold Mo.ch;rw[f];rfl
 have d:M.E=M.C:=by have:=o.eo;rw[b]at this;unfold Mo.E;rw[b];exact IS this he
 refine⟨o.en,o.li,o.dp,o.e0,o.ok,trivial,o.la,o.BI,o.mono,?_,o.so,o.mb,?_,o.wl,λg c=>(by cases c),?_,o.nm.1,λg c=>by cases c⟩
 .have:=o.mi;rw[d]at this;exact this
 .have:=o.wk;rw[d]at this;exact this
 .have:=o.sz;unfold Mo.sz at this⊢;exact dI (by show M.last.toNat+(M.all.map (·.lI.length)).sum+0<=_;omega) this
theorem Mo.C7{q:CR}:(M.aP q a).lost++(M.aP q a).done=M.lost++M.done++[⟨q.lI,q.bg,a,M.last+1⟩]:=by
 unfold Mo.aP;dsimp only;split
 .rw[dW,eY,dW]
 .rw[dW]
theorem Mo.IZ{q:CR}:(M.aP q a).all=M.lost++M.done++[⟨q.lI,q.bg,a,M.last+1⟩]:=by
 unfold Mo.all;rw[Mo.C7];show _++[]=_;rw[kQ]
theorem Mo.U4{q:CR}(b:M.now=some q):(M.aP q a).C=M.E:=by
 unfold Mo.C;rw[Mo.C7,yB];unfold Mo.E Mo.ch;rw[b];rfl
theorem Mo.ig{q:CR}:(M.aP q a).st=M.last+1:=by
 unfold Mo.st;rw[Mo.C7,Dq]
theorem iF.aP{q:CR}{a:Int}(o:iF enc limit M N)(m:M.now=some q):iF enc limit (M.aP q a) (N+1):=by
 have d:M.ch=q.lI:=by unfold Mo.ch;rw[m];rfl
 have j:(M.aP q a).E=M.E:=by rw[Mo.xI rfl,Mo.U4 m]
 have c:∀g∈M.lost++M.done,g∈M.all:=λg b=>oV _ b;refine⟨o.en,o.li,o.dp,o.e0,?_,trivial,?_,λg b=>?_,?_,?_,o.so,F6 o.mb,?_,F6 o.wl,λt f=>(by cases f),?_,o.nm.1,λt f=>by cases f⟩
 .rw[Mo.IZ]
  refine H7.append.2 ⟨(H7.append.1 o.ok).1,?_,trivial⟩;have:=o.eo;rw[d]at this;exact this
 .show 0<=M.last+1;have:=o.la;omega
 .rw[Mo.IZ]at b
  show 0<g.st/\g.st<=M.last+1;have:=o.la;rcases dH.1 b with b|b
  .have:=o.BI g (c g b);omega
  .rw[dE.1 b];dsimp only;omega
 .rw[Mo.IZ]
  refine Mw.2 ⟨(Mw.1 o.mono).1,Sa _ _,λx p y r=>?_⟩;rw[dE.1 r];have:=o.BI x (c x p);dsimp only;omega
 .rw[j];exact o.mi
 .rw[j];exact o.wk
 .have:=o.sz
  have u:=o.la;unfold Mo.sz at this⊢;rw[Mo.IZ];rw[d]at this;unfold Mo.all at this;show(M.last+1).toNat+_+0<=N+1;rw[dP,List.sum_append_nat]at this⊢;simp only[fS,List.map_nil,Eg,List.sum_nil]at this⊢;omega
theorem iF.drop{q:CR}(o:iF enc limit M N)(c:M.now=some q):iF enc limit {M with now:=none,marks:=q.om,watched:=q.ow} N:=by
 obtain⟨d,f,g,j,m⟩:=o.nw q c;refine⟨o.en,o.li,o.dp,o.e0,o.ok,trivial,o.la,o.BI,o.mono,d,f,g,j,m,λp b=>(by cases b),?_,o.nm.2 q c,λp b=>by cases b⟩;have:=o.sz;unfold Mo.sz at this⊢;exact dI (by show M.last.toNat+(M.all.map (·.lI.length)).sum+0<=_;omega) this
theorem Mo.Ig{g:GM}(b:M.done=ds++[g]):(M.back ds g).all=M.all:=by unfold Mo.all Mo.back;rw[b];simp
theorem Mo.Yr{g:GM}(b:M.done=ds++[g]):M.C=lL (iT M.E0 (M.lost++ds)) g.lI:=by unfold Mo.C;rw[b,<-dW,yB]
theorem Mo.o_{g:GM}:(M.back ds g).C=iT M.E0 (M.lost++ds):=rfl
theorem Mo.Uv{g:GM}(b:M.now=none):(M.back ds g).E=iT M.E0 (M.lost++ds):=Mo.xI b
theorem iF.sr{g:GM}(o:iF enc limit M N)(j:M.now=none)(c:M.done=ds++[g]):LR (iT M.E0 (M.lost++ds)).length (g.lI.map nX) M.E.length:=by
 have b:=o.ok;unfold Mo.all at b;rw[c,<-dW,dW (M.lost++ds)]at b;obtain⟨d,f⟩:=H7.append.1 b;have:=LU.y8 o.li.2 (H7.ok o.e0 d) f.1;rw[Mo.xI j,Mo.Yr c];exact this
theorem iF.back{ds:List GM}{g:GM}(o:iF enc limit M N)(d:M.now=none)(c:M.done=ds++[g]):iF enc limit (M.back ds g) N:=by
 have hm:=(o.sr d c).Ye o.ms;rw[S3]at hm;have hm:=Qu.1 hm;have j:=Mo.Uv (ds:=ds) (g:=g) d;have f:=Ug (g.lI.map nX) M.marks;refine⟨o.en,o.li,o.dp,o.e0,?_,?_,o.la,?_,?_,?_,Vp f o.so,?_,?_,?_,λq b=>?_,?_,(by show ∀k∈(wR (g.lI.map nX) M.marks).map (·.1),OB k;rw[f];exact o.nm.1),λq b=>by have b:M.now=some q:=b;rw[d]at b;cases b⟩
 .rw[Mo.Ig c];exact o.ok
 .have:(M.back ds g).ch=[]:=by unfold Mo.ch Mo.back;rw[d];rfl
  rw[this];trivial
 .rw[Mo.Ig c];exact o.BI
 .rw[Mo.Ig c];exact o.mono
 .rw[j];exact hm.1
 .have:=Q7 f;have m:=o.mb;show(wR _ _).length<=_;omega
 .rw[j];exact hm.2
 .show(zZ _ _).length<=_;rw[P4];exact o.wl
 .have b:M.now=some q:=b
  rw[d]at b;cases b
 .have:=o.sz
  unfold Mo.sz at this⊢;rw[Mo.Ig c];exact this
theorem Mo.Gi{ns:List GM}{g:GM}(b:M.next=g::ns):(M.xE g ns).all=M.all:=by unfold Mo.all Mo.xE;rw[b];simp
theorem Mo.Wb{ns:List GM}{g:GM}:(M.xE g ns).C=lL M.C g.lI:=by
 unfold Mo.C Mo.xE;dsimp only;rw[<-dW,yB]
theorem Mo.QA{ns:List GM}{g:GM}(b:M.now=none):(M.xE g ns).E=lL M.C g.lI:=by rw[<-Mo.Wb (ns:=ns)];exact Mo.xI b
theorem iF.sq{ns:List GM}{g:GM}(o:iF enc limit M N)(f:M.now=none)(d:M.next=g::ns):LR M.E.length (g.lI.map nX) (lL M.C g.lI).length:=by
 have b:=o.ok;unfold Mo.all at b;rw[d]at b;obtain⟨j,c⟩:=H7.append.1 b;have:=LU.y8 o.li.2 o.LM c.1;rw[Mo.xI f];exact this
theorem iF.xE{ns:List GM}{g:GM}(o:iF enc limit M N)(d:M.now=none)(c:M.next=g::ns):iF enc limit (M.xE g ns) N:=by
 have hm:=(o.sq d c).XR o.ms;rw[S2]at hm;have hm:=Qu.1 hm;have j:=Mo.QA (ns:=ns) (g:=g) d;have f:=TQ (g.lI.map nX) M.marks;refine⟨o.en,o.li,o.dp,o.e0,?_,?_,o.la,?_,?_,?_,Vp f o.so,?_,?_,?_,λq b=>?_,?_,(by show ∀k∈(rP (g.lI.map nX) M.marks).map (·.1),OB k;rw[f];exact o.nm.1),λq b=>by have b:M.now=some q:=b;rw[d]at b;cases b⟩
 .rw[Mo.Gi c];exact o.ok
 .have:(M.xE g ns).ch=[]:=by unfold Mo.ch Mo.xE;rw[d];rfl
  rw[this];trivial
 .rw[Mo.Gi c];exact o.BI
 .rw[Mo.Gi c];exact o.mono
 .rw[j];exact hm.1
 .have:=Q7 f;have m:=o.mb;show(rP _ _).length<=_;omega
 .rw[j];exact hm.2
 .show(sQ _ _).length<=_;rw[PS];exact o.wl
 .have b:M.now=some q:=b
  rw[d]at b;cases b
 .have:=o.sz
  unfold Mo.sz at this⊢;rw[Mo.Gi c];exact this
theorem L6{name a:Int}:∀{l:iO} {e:Int×Int},e∈qB name a l->e=(name,a)\/e∈l
 |[],e,h=>.inl (dE.1 h)
 |x::l,e,h=>by
  unfold qB at h;split at h
  .rcases eH.1 h with rfl|h
   .exact .inr (eO ..)
   .exact(L6 h).imp id (eK _)
  .split at h
   .rcases eH.1 h with rfl|h
    .exact .inl rfl
    .exact .inr (eK _ h)
   .rcases eH.1 h with rfl|h
    .exact .inl rfl
    .exact .inr h
theorem aa{name a:Int}:∀{l:iO},(l.Pairwise λx y=>x.1<y.1)->(qB name a l).Pairwise λx y=>x.1<y.1
 |[],_=>Sa _ _
 |x::l,h=>by
  obtain⟨c,d⟩:=yI.1 h;unfold qB;split
  .refine yI.2 ⟨λy b=>?_,aa d⟩
   rcases L6 b with rfl|b
   .dsimp only;omega
   .exact c y b
  .split
   .exact yI.2 ⟨λy b=>by have:=c y b;dsimp only;omega,d⟩
   .refine yI.2 ⟨λy b=>?_,h⟩
    rcases eH.1 b with rfl|b
    .dsimp only;omega
    .have:=c y b;dsimp only;omega
theorem L5{name a:Int}:∀{l:iO},(qB name a l).length<=l.length+1
 |[]=>bM _
 |x::l=>by
  have:=L5 (name:=name) (a:=a) (l:=l);unfold qB;split
  .simp only[fK];omega
  .split<;>simp only[fK]<;>omega
theorem iF.jn(o:iF enc limit M N){name:Int}(b:OB name)(ha:M.ins a):iF enc limit {M with marks:=qB name a M.marks} (N+1):=by
 refine⟨o.en,o.li,o.dp,o.e0,o.ok,o.eo,o.la,o.BI,o.mono,λe he=>?_,aa o.so,?_,o.wk,F6 o.wl,λq p=>?_,F6 o.sz,λk m=>?_,o.nm.2⟩
 .rcases L6 he with rfl|he
  .exact ha
  .exact o.mi e he
 .have:=L5 (name:=name) (a:=a) (l:=M.marks);have:=o.mb;show(qB name a M.marks).length<=_;omega
 .obtain⟨c,d,f,g,j⟩:=o.nw q p
  exact⟨c,d,F6 f,g,F6 j⟩
 .obtain⟨e,he,rfl⟩:=dA.1 m
  rcases L6 he with rfl|he
  .exact b
  .exact o.nm.1 _ (dA.2 ⟨e,he,rfl⟩)
theorem iF.watch(o:iF enc limit M N){l:bB}(j:∀v∈l,M.ins v):iF enc limit {M with watched:=l} (N+l.length):=by
 refine⟨o.en,o.li,o.dp,o.e0,o.ok,o.eo,o.la,o.BI,o.mono,o.mi,o.so,dI o.mb (Ek _ _),λv p=>(j v p).2,Nat.le_add_left _ _,λq m=>?_,dI o.sz (Ek _ _),o.nm⟩;obtain⟨b,c,d,f,g⟩:=o.nw q m;exact⟨b,c,dI d (Ek _ _),f,dI g (Ek _ _)⟩
def Mo.save(M:Mo):Mo:=if M.now.isNone then {M with saved:=M.st} else M
theorem iF.save(o:iF enc limit M N):iF enc limit M.save N:=by
 unfold Mo.save;split
 .exact⟨o.en,o.li,o.dp,o.e0,o.ok,o.eo,o.la,o.BI,o.mono,o.mi,o.so,o.mb,o.wk,o.wl,o.nw,o.sz,o.nm⟩
 .exact o
end
section
variable{P:Program}{S:cH}{h:aG}{Q:Nat->bG->aG->Prop}{n k:Nat}{rho:Nat->Nat}{X:Bk}
variable{a:Int}{N:Nat}{q:CR}
instance (M:Mo) (a:Int):Decidable (M.ins a):=inferInstanceAs (Decidable (_/\_))
structure Yx(enc:Int)(M:Mo)(o:KK)(q:CR):Prop where
 eb:iG enc o.sb.ps=M.C
 mv:o.mv.2.map (·.2)=q.lI.map nX
 bg:o.bg=q.bg
 old:o.old=M.st
 ch:o.ch=C2 q.lI
 ms:(o.ms.map kv).Perm q.om
 ws:o.ws=q.ow
def OG(enc:Int)(M:Mo):Option KK->Option CR->Prop
 |none,none=>True
 |some o,some q=>Yx enc M o q
 |_,_=>False
structure Lnk(X:Bk)(M:Mo)(N:Nat):Prop where
 E:iG X.T.enc X.T.cur.ps=M.E
 u:mR X.T.enc (iT M.E0 M.lost) (Ul 0 M.lost) X.U.2 M.done
 r:mR X.T.enc M.C M.st X.R.2.reverse M.next
 now:OG X.T.enc M X.now M.now
 ms:(X.ms.map kv).Perm M.marks
 ws:X.ws=M.watched
 st:X.state=M.st
 sv:X.saved=M.saved
 la:X.last=M.last
 dp:X.depth=M.depth
 A:X.T.A.length<=4*N
structure Inv(X:Bk)(M:Mo)(N:Nat):Prop where
 ok:iF X.T.enc X.T.limit M N
 lk:Lnk X M N
structure Sm(X X':Bk):Prop where
 b:X'.b=X.b
 p:X'.T.p=X.T.p
 enc:X'.T.enc=X.T.enc
 limit:X'.T.limit=X.T.limit
 depth:X'.depth=X.depth
theorem Sm.refl(X:Bk):Sm X X:=⟨rfl,rfl,rfl,rfl,rfl⟩
theorem Sm.trans{X Y Z:Bk}(a:Sm X Y)(b:Sm Y Z):Sm X Z:=⟨b.b.trans a.b,b.p.trans a.p,b.enc.trans a.enc,b.limit.trans a.limit,b.depth.trans a.depth⟩
def lH(S:cH)(n k:Nat)(X:Bk)(h:aG)(rho:Nat->Nat)(h':aG)(M':Mo)(N':Nat):Prop:=
 ∃rho' X',cW k h rho h' rho'/\cO S n h' rho' k X'/\Inv X' M' N'/\Sm X X'
theorem U6(x:List mS)(ms:fW):(BG x ms).map kv=lY x (ms.map kv):=by simp[BG,lY,kv]
theorem Wj:∀(l:List (List mS)) (ms:fW),(JA l ms).map kv=wR l (ms.map kv)
 |[],_=>rfl
 |m::l,ms=>by show(BG (qA 0 m) (JA l ms)).map kv=lY (qA 0 m) (wR l (ms.map kv));rw[U6,Wj l]
theorem Wi:∀(l:List (List mS)) (ms:fW),(Hb l ms).map kv=rP l (ms.map kv)
 |[],_=>rfl
 |m::l,ms=>by show(Hb l (BG m ms)).map kv=rP l (lY m (ms.map kv));rw[Wi l,U6]
theorem N0(x:List mS){a b:iO}(h:a.Perm b):(lY x a).Perm (lY x b):=h.map _
theorem PN:∀(l:List (List mS)) {a b:iO},a.Perm b->(wR l a).Perm (wR l b)
 |[],_,_,h=>h
 |m::l,_,_,h=>N0 _ (PN l h)
theorem PM:∀(l:List (List mS)) {a b:iO},a.Perm b->(rP l a).Perm (rP l b)
 |[],_,_,h=>h
 |m::l,_,_,h=>PM l (N0 m h)
theorem Inv.y9{M:Mo}(i:Inv X M N):H6 M.E.length X.ms X.ws:=by
 refine⟨λe he=>?_,λv b=>i.ok.wk v (by rw[<-i.lk.ws];exact b)⟩;exact i.ok.mi (kv e) (i.lk.ms.mem_iff.1 (dA.2 ⟨e,he,rfl⟩))
theorem Inv.mono{M:Mo}{N':Nat}(i:Inv X M N)(b:N<=N'):Inv X M N':=
 ⟨i.ok.ZV b,⟨i.lk.E,i.lk.u,i.lk.r,i.lk.now,i.lk.ms,i.lk.ws,i.lk.st,i.lk.sv,i.lk.la,i.lk.dp,by have:=i.lk.A;omega⟩⟩
theorem lH.ext{M:Mo}{h':aG}(r:cO S n h rho k X)(i:Inv X M N)(e:Ext h h'):lH S n k X h rho h' M N:=
 ⟨_,X,cW.nH e,r.zr e,i,Sm.refl X⟩
theorem Inv.Jf{M:Mo}(i:Inv X M N)(b:X.now=none):M.now=none:=by
 have:=i.lk.now;rw[b]at this;cases hm:M.now with
 |none=>rfl
 |some q=>rw[hm]at this;exact this.elim
theorem Inv.Hd{M:Mo}{o:KK}(i:Inv X M N)(b:X.now=some o):∃q,M.now=some q/\Yx X.T.enc M o q:=by
 have:=i.lk.now;rw[b]at this;cases hm:M.now with
 |none=>rw[hm]at this;exact this.elim
 |some q=>rw[hm]at this;exact⟨q,rfl,this⟩
theorem Inv.xg{M:Mo}(i:Inv X M N)(hm:M.now=none):X.now=none:=by
 cases c:X.now with
 |none=>rfl
 |some o=>obtain⟨q,b,_⟩:=i.Hd c;rw[hm]at b;cases b
theorem Inv.x9{M:Mo}(i:Inv X M N)(hm:M.now=some q):∃o,X.now=some o/\Yx X.T.enc M o q:=by
 cases c:X.now with
 |none=>rw[i.Jf c]at hm;cases hm
 |some o=>obtain⟨f,b,d⟩:=i.Hd c;rw[hm]at b;cases b;exact⟨o,rfl,d⟩
theorem Inv.ins{M:Mo}{N:Nat}(i:Inv X M N)(a:Int):qQ X a↔M.ins a:=by unfold qQ Mo.ins;rw[i.lk.E]
theorem Inv.wsl{M:Mo}(i:Inv X M N):X.ws.length<=N:=by rw[i.lk.ws];exact i.ok.wl
def Mo.Hi(M:Mo)(a:Int):Int×Mo:=if M.now.isSome then (70,M) else if M.ins a then (0,{M with now:=some ⟨[],a,M.marks,M.watched⟩}) else (2,M)
theorem jt{M:Mo}(r:cO S n h rho k X)(i:Inv X M N)(t:N<=68719476736) :
  wp P (pF S (some X.b) a) h λtg vs h'=>tg=0/\vs=[aH (M.Hi a).1]/\lH S n k X h rho h' (M.Hi a).2 N:=by
 cases g:X.now with
 |some o=>
  obtain⟨q,hm,_⟩:=i.Hd g;refine cM _ (λtg vs h' ⟨f,c,d⟩=>?_) (SG (at_:=a) r g);unfold Mo.Hi;rw[hm,if_pos (show(some q).isSome=true from rfl),d];exact⟨f,c,lH.ext r i (Ext.refl _)⟩
 |none=>
  have hm:=i.Jf g;refine cM _ (λtg vs h' ⟨f,c⟩=>?_) (fx (at_:=a) r g (by have:=i.wsl;omega));unfold Mo.Hi;rw[hm,if_neg (by decide)];rcases c with⟨c,d,p⟩|⟨c,d,j,o,B⟩
  .rw[i.ins]at c
   rw[if_neg c];exact⟨f,d,lH.ext r i p⟩
  .rw[i.ins]at c
   rw[if_pos c];have m:=Mo.xI hm;refine⟨f,d,j,_,B.st,B.r,⟨i.ok.begin hm a,?_⟩,⟨rfl,rfl,rfl,rfl,rfl⟩⟩;refine⟨?_,i.lk.u,i.lk.r,?_,i.lk.ms,i.lk.ws,i.lk.st,i.lk.sv,i.lk.la,i.lk.dp,i.lk.A⟩
   .have:=i.lk.E;rw[m]at this;exact this
   .show Yx X.T.enc _ o _
    refine⟨?_,?_,B.bg,?_,B.ch,?_,?_⟩
    .rw[B.sb];have:=i.lk.E;rw[m]at this;exact this
    .rw[B.mv];rfl
    .rw[B.old];exact i.lk.st
    .exact B.ms.trans i.lk.ms
    .rw[B.ws];exact i.lk.ws
theorem Inv.small{M:Mo}(i:Inv X M N)(r:cO S n h rho k X):(dR X.T.cur.ps).length<=X.T.limit:=by
 have b:=Ba r.t.cur r.t.enc;have c:=i.ok.lf.2;rw[i.lk.E]at b;omega
theorem mn{M:Mo}(b:M.sz<=N):M.ch.length<=N:=by unfold Mo.sz at b;omega
theorem Ry{M:Mo}{x:Sl}(r:cO S n h rho k X)(i:Inv X M N)(hm:M.now=none):wp P (kD S (some X.b) x) h λtg vs h'=>tg=0/\vs=[aH 71]/\lH S n k X h rho h' M N:=by
 refine cM _ (λtg vs h' ⟨c,d,f⟩=>?_) (OJ (x:=x) r (i.xg hm));rw[f];exact⟨c,d,lH.ext r i (Ext.refl _)⟩
theorem db(J:kB P S){M:Mo}{x:GP}(r:cO S n h rho k X)(i:Inv X M N)(hm:M.now=some q)(H:∀h',aV (λi=>k<rho i/\rho i<=k+10) h h'->(Sh.list jT).ok h' x)
  (U:∀e,e∈x.2->e.2.2.1.2≠[]->∀a,e.2.2.1.1.aD=some a->rho a.block<=k\/k+10<rho a.block) (Z:N+1+(aW x.2).length<=68719476736) :
  wp P (kD S (some X.b) x.1) h λtg vs h'=>tg=0/\∃e,vs=[aH e]/\Lu X.T.enc X.T.limit (cQ X.T.enc X.T.cur.ps) x.2 e/\(e=0↔x.2.length<=70000/\H8 X.T.enc X.T.limit M.E x.2) /\
   lH S n k X h rho h' (if e=0 then M.oY q x.2 else M) (N+1+(aW x.2).length):=by
 obtain⟨o,R,om⟩:=i.x9 hm;have G:M.ch=q.lI:=by unfold Mo.ch;rw[hm];rfl
 have W:o.mv.2.length=q.lI.length:=by have:=congrArg List.length om.mv;simpa using this
 have I:=mn i.ok.sz;rw[G]at I;have hlen:=i.ok.len;have Y:=i.lk.A;have hw:=i.y9.w hlen;refine cM _ (λtg vs h' ⟨K,e,F,c,O,B⟩=>?_) (WZ J (o:=o) (x:=x) r R H U (by omega) (i.small r) (by rw[i.lk.E];omega) hw.1 hw.2 (by omega));have v:=TS r.t.enc r.t.cur.bytes B.ref;rw[i.lk.E]at v;refine⟨K,e,O,B.ref,v,F,c,B.st,B.r,?_,?_⟩
 .have f:=B.len
  by_cases he:e=0
  .rw[if_pos he]
   obtain⟨V,l,g⟩:=B.yes he;have m:=(v.1 he);have j:iG X.T.enc c.T.cur.ps=iY M.E x.2:=by rw[B.iG,if_pos he,i.lk.E]
   have D:=(i.ok.oY hm m.1 m.2).ZV (N':=N+1+(aW x.2).length) (by omega);rw[g]at j f⊢;have d:c.T.enc=X.T.enc:=B.nx.enc;have C:c.T.limit=X.T.limit:=B.nx.limit;refine⟨by show iF c.T.enc c.T.limit _ _;rw[d,C];exact D,?_⟩;refine⟨?_,?_,?_,?_,?_,?_,i.lk.st,i.lk.sv,i.lk.la,i.lk.dp,?_⟩
   .show iG c.T.enc c.T.cur.ps=_
    rw[d,Mo.Y5 hm];exact j
   .show mR c.T.enc _ _ _ _;rw[d];exact i.lk.u
   .show mR c.T.enc _ _ _ _;rw[d];exact i.lk.r
   .show Yx c.T.enc _ _ _
    rw[d];refine⟨om.eb,?_,om.bg,om.old,?_,om.ms,om.ws⟩
    .show(o.mv.2++[(l,x.2.map dO)]).map (·.2)=(q.lI++[x.2.map hP]).map nX
     rw[dP,dP,om.mv,R9,R9,FQ]
    .show(o.ch || x.2.any oZ)=C2 (q.lI++[x.2.map hP])
     rw[om.ch];unfold C2;rw[Ms,List.any_cons,List.any_nil,Bool.or_false,PZ]
   .show((BG (x.2.map dO) X.ms).map kv).Perm (lY (nX x.2) M.marks)
    rw[U6];exact N0 _ i.lk.ms
   .show lM (x.2.map dO) X.ws=lM (nX x.2) M.watched
    rw[i.lk.ws]
   .dsimp only at f⊢;omega
  .rw[if_neg he]
   have g:=B.no he;have j:iG X.T.enc c.T.cur.ps=M.E:=by rw[B.iG,if_neg he,i.lk.E]
   rw[g]at j f⊢;have d:c.T.enc=X.T.enc:=B.nx.enc;have C:c.T.limit=X.T.limit:=B.nx.limit;have D:=i.ok.ZV (N':=N+1+(aW x.2).length) (by omega);refine⟨by show iF c.T.enc c.T.limit _ _;rw[d,C];exact D,?_⟩;refine⟨?_,?_,?_,?_,i.lk.ms,i.lk.ws,i.lk.st,i.lk.sv,i.lk.la,i.lk.dp,?_⟩
   .show iG c.T.enc c.T.cur.ps=_;rw[d];exact j
   .show mR c.T.enc _ _ _ _;rw[d];exact i.lk.u
   .show mR c.T.enc _ _ _ _;rw[d];exact i.lk.r
   .show OG c.T.enc _ _ _;rw[d];exact i.lk.now
   .dsimp only at f⊢;omega
 .by_cases he:e=0
  .obtain⟨V,l,g⟩:=B.yes he
   exact⟨by rw[g],B.nx.p,B.nx.enc,B.nx.limit,by rw[g]⟩
  .exact⟨by rw[B.no he],B.nx.p,B.nx.enc,B.nx.limit,by rw[B.no he]⟩
theorem da{last:Int}:∀{l:List GM} {a:Int},(∀g∈l,a<g.st/\g.st<=last)->(l.Pairwise λx y=>x.st<y.st)->0<=a->a<=last->(l.length:Int)<=last-a
 |[],_,_,_,_,_=>by simp;omega
 |g::l,a,h,p,h0,f=>by
  obtain⟨c,d⟩:=yI.1 p;have j:=h g (eO ..);have:=da (l:=l) (a:=g.st) (λx b=>⟨c x b,(h x (eK _ b)).2⟩) d (by omega) (by omega);rw[fK];push_cast;omega
theorem EY{enc limit:Int}{M:Mo}(o:iF enc limit M N):M.all.length<=M.last.toNat:=by
 have:=da (last:=M.last) (l:=M.all) (a:=0) o.BI o.mono (kR _) o.la;have:=o.la;omega
theorem Qq{enc limit:Int}{M:Mo}(o:iF enc limit M N):M.done.length<=M.last.toNat:=by
 have:=EY o;unfold Mo.all at this;rw[bP,bP]at this;omega
theorem Wp{enc limit:Int}{M:Mo}(o:iF enc limit M N):M.next.length<=M.last.toNat:=by
 have:=EY o;unfold Mo.all at this;rw[bP,bP]at this;omega
def Mo.OU(M:Mo)(a:Int):Int×Mo:=match M.now with
 |none=>(71,M)
 |some q=>if M.ins a then (0,if C2 q.lI then M.aP q a else {M with now:=none}) else (2,M)
theorem ya(C:WT P S){M:Mo}(r:cO S n h rho k X)(i:Inv X M N)(hN:N<=68719476736) :
  wp P (uG S (some X.b) a) h λtg vs h'=>tg=0/\vs=[aH (M.OU a).1]/\lH S n k X h rho h' (M.OU a).2 (N+1):=by
 have i1:=i.mono (N':=N+1) (GD _);cases t:X.now with
 |none=>
  have hm:=i.Jf t;refine cM _ (λtg vs h' ⟨m,c,f⟩=>?_) (W0 (at_:=a) r t);unfold Mo.OU;rw[hm,f];exact⟨m,c,lH.ext r i1 (Ext.refl _)⟩
 |some o=>
  obtain⟨q,hm,om⟩:=i.Hd t;have j:M.ch=q.lI:=by unfold Mo.ch;rw[hm];rfl
  have I:=i.ok.sz;have H:=i.ok.la;have v:=i.lk.u.len;have Y:M.done.length<=N\/True:=.inr trivial;have hd:M.done.length<=M.last.toNat:=Qq i.ok;have Z:M.last.toNat<=N:=by unfold Mo.sz at I;omega
  refine cM _ (λtg vs h' ⟨m,c⟩=>?_) (vn C (o:=o) (at_:=a) r t (by rw[i.lk.la];exact H) (by rw[i.lk.la];omega) (by rw[v];omega));unfold Mo.OU;rw[hm];dsimp only;rcases c with⟨c,f,O⟩|⟨c,f,F,J,st,W,G⟩
  .rw[i.ins]at c
   rw[if_neg c];exact⟨m,f,lH.ext r i1 O⟩
  .rw[i.ins]at c
   rw[if_pos c];refine⟨m,f,F,J,st,W,?_⟩;cases p:C2 q.lI with
   |false=>
    have D:=G.no (by rw[om.ch,p]);rw[if_neg (by decide),D];have B:M.E=M.C:=by have:=i.ok.eo;rw[j]at this;unfold Mo.E;rw[j];exact IS this p
    refine⟨⟨(i1.ok.wm hm p),?_,i.lk.u,i.lk.r,trivial,i.lk.ms,i.lk.ws,i.lk.st,i.lk.sv,i.lk.la,i.lk.dp,i1.lk.A⟩,⟨rfl,rfl,rfl,rfl,rfl⟩⟩;have:=i.lk.E;rw[B]at this;exact this
   |true=>
    obtain⟨g,q',d,D⟩:=G.yes (by rw[om.ch,p]);rw[if_pos rfl,D];have K:Yv X.T.enc (iT (iT M.E0 M.lost) M.done) (Ul (Ul 0 M.lost) M.done) g ⟨q.lI,q.bg,a,M.last+1⟩:=by
     refine⟨?_,?_,?_,?_,d.en,?_,?_⟩
     .rw[d.sb,om.eb,<-AR];rfl
     .rw[d.sh,i.lk.E,<-AR];unfold Mo.E;rw[j];rfl
     .show g.mv.2.map (·.2)=_;rw[d.mv,om.mv]
     .rw[d.bg,om.bg]
     .rw[d.old,om.old,<-HS];rfl
     .rw[d.fresh,i.lk.la]
    have hu:=i.lk.u.snoc K;have B:(M.aP q a).E=M.E:=by rw[Mo.xI rfl,Mo.U4 hm]
    refine⟨⟨i.ok.aP hm,?_,?_,?_,trivial,i.lk.ms,i.lk.ws,?_,i.lk.sv,?_,i.lk.dp,i1.lk.A⟩,⟨rfl,rfl,rfl,rfl,rfl⟩⟩
    .rw[B];exact i.lk.E
    .show mR X.T.enc (iT M.E0 (M.aP q a).lost) (Ul 0 (M.aP q a).lost) (TM X g) (M.aP q a).done
     unfold TM Mo.aP;dsimp only;rw[i.lk.dp,v];split
     .revert hu
      cases R:X.U.2++[g] with
      |nil=>intro hu;simp at R
      |cons g0 gs=>
       cases V:M.done++[(⟨q.lI,q.bg,a,M.last+1⟩:GM)] with
       |nil=>simp at V
       |cons m0 ms=>
        intro hu;cases hu with
        |cons c1 c2=>
         show mR X.T.enc (iT M.E0 (M.lost++[m0])) (Ul 0 (M.lost++[m0])) gs ms;rw[yB,Dq];exact c2
     .exact hu
    .show mR X.T.enc _ _ [] []
     exact .nil _ _
    .rw[Mo.ig,<-i.lk.la]
    .show X.last+1=M.last+1;rw[i.lk.la]
end
section
variable{P:Program}{S:cH}{h:aG}{Q:Nat->bG->aG->Prop}{n k:Nat}{rho:Nat->Nat}{X:Bk}
variable{N:Nat}{name a:Int}
theorem OG.re{enc:Int}{M c:Mo}(d:c.C=M.C)(f:c.st=M.st):∀{a:Option KK} {b:Option CR},OG enc M a b->OG enc c a b
 |none,none,_=>trivial
 |some o,some q,h=>⟨by rw[d];exact h.eb,h.mv,h.bg,by rw[f];exact h.old,h.ch,h.ms,h.ws⟩
def Mo.Er(M:Mo):Int×Int×Mo:=match M.now with
 |none=>(0,71,M)
 |some q=>(q.bg,0,{M with now:=none,marks:=q.om,watched:=q.ow})
theorem uu(C:WT P S){M:Mo}(r:cO S n h rho k X)(i:Inv X M N) :
  wp P (qY S (some X.b)) h λtg vs h'=>tg=0/\vs=[aH M.Er.1,aH M.Er.2.1]/\lH S n k X h rho h' M.Er.2.2 N:=by
 cases f:X.now with
 |none=>
  have hm:=i.Jf f;refine cM _ (λtg vs h' ⟨g,j,B⟩=>?_) (UB r f);unfold Mo.Er;rw[hm,B];exact⟨g,j,lH.ext r i (Ext.refl _)⟩
 |some o=>
  obtain⟨q,hm,om⟩:=i.Hd f;refine cM _ (λtg vs h' ⟨g,j,t,c,st,E,nx,m,D⟩=>?_) (oj C (o:=o) r f);unfold Mo.Er;rw[hm];refine⟨g,by rw[j,om.bg],t,_,st,E,?_,⟨rfl,nx.p,nx.enc,nx.limit,rfl⟩⟩;have d:c.enc=X.T.enc:=nx.enc;have v:c.limit=X.T.limit:=nx.limit;refine⟨by show iF c.enc c.limit _ _;rw[d,v];exact i.ok.drop hm,?_⟩;refine⟨?_,?_,?_,trivial,om.ms,om.ws,i.lk.st,i.lk.sv,i.lk.la,i.lk.dp,?_⟩
  .show iG c.enc c.cur.ps=_
   rw[d,m];exact om.eb
  .show mR c.enc _ _ _ _;rw[d];exact i.lk.u
  .show mR c.enc _ _ _ _;rw[d];exact i.lk.r
  .show c.A.length<=_;rw[D];exact i.lk.A
def TA:List GM->Option (List GM×GM)
 |[]=>none
 |[g]=>some ([],g)
 |g::l=>(TA l).map λx=>(g::x.1,x.2)
theorem NM:∀(ds:List GM) (g:GM),TA (ds++[g])=some (ds,g)
 |[],g=>rfl
 |x::ds,g=>by
  have:=NM ds g;cases ds with
  |nil=>rfl
  |cons y ds=>
   show(TA (y::ds++[g])).map _=_;rw[this];rfl
theorem Lk(l:List GM):l=[]\/∃ds g,l=ds++[g]/\TA l=some (ds,g):=by
 rcases Mu l with h|⟨ds,g,h⟩
 .exact .inl h
 .rw[JU]at h
  exact .inr ⟨ds,g,h,by rw[h,NM]⟩
def Mo.BA(M:Mo):Int×Int×Mo:=if M.now.isSome then (0,70,M) else match TA M.done with
 |none=>(0,72,M)
 |some (ds,g)=>(g.bg,0,M.back ds g)
def Mo.Bu(M:Mo):Int×Int×Mo:=if M.now.isSome then (0,70,M) else match M.next with
 |[]=>(0,73,M)
 |g::ns=>(g.en,0,M.xE g ns)
theorem Qk{M:Mo}{g:GM}(c:M.sz<=N)(b:g∈M.all):g.lI.length<=N:=by
 have:=yE (λg:GM=>g.lI.length) b;unfold Mo.sz at c;omega
theorem ux{M:Mo}(r:cO S n h rho k X)(i:Inv X M N)(hN:N<=68719476736) :
  wp P (nC S (some X.b)) h λtg vs h'=>tg=0/\vs=[aH M.BA.1,aH M.BA.2.1]/\lH S n k X h rho h' M.BA.2.2 N:=by
 cases m:X.now with
 |some o=>
  obtain⟨q,hm,_⟩:=i.Hd m;refine cM _ (λtg vs h' ⟨t,v,D⟩=>?_) (UD r m);unfold Mo.BA;rw[hm,if_pos (show(some q).isSome=true from rfl),D];exact⟨t,v,lH.ext r i (Ext.refl _)⟩
 |none=>
  have hm:=i.Jf m;rcases Lk M.done with c|⟨ds,g,c,V⟩
  .have F:X.U.2=[]:=Aq (by rw[i.lk.u.len,c];rfl)
   refine cM _ (λtg vs h' ⟨t,v,D⟩=>?_) (W6 r m F);unfold Mo.BA;rw[hm,if_neg (by decide),c,D];exact⟨t,v,lH.ext r i (Ext.refl _)⟩
  .have hu:=i.lk.u
   rw[c]at hu;obtain⟨us,x,F,c1,j⟩:=hu.un;rw[<-AR,<-HS]at j;have O:g∈M.all:=by unfold Mo.all;rw[c];simp
   have ab:M.last.toNat<=N:=by have:=i.ok.sz;unfold Mo.sz at this;omega
   have Y:=Qq i.ok;have ao:=Wp i.ok;have I:=i.lk.r.len;rw[Mx]at I;have Z:=Qk i.ok.sz O;have aw:us.length<=M.done.length:=by have:=c1.len;rw[this,c];simp
   have f:H0 x=g.lI.map nX:=j.mv;have al:x.mv.2.length=g.lI.length:=by have:=congrArg List.length f;simpa using this
   have B:=i.ok.sr hm c;rw[<-f]at B;refine cM _ (λtg vs h' ⟨t,v,H,d,u,q,st,W,nx,G,K⟩=>?_) (pj r m F B i.y9 (by omega) (by omega) (by omega));unfold Mo.BA;rw[hm,if_neg (by decide),V];refine⟨t,by rw[v,j.bg],H,_,st,W,?_,⟨rfl,nx.p,nx.enc,nx.limit,rfl⟩⟩;have C:d.enc=X.T.enc:=nx.enc;have J:d.limit=X.T.limit:=nx.limit;refine⟨by show iF d.enc d.limit _ _;rw[C,J];exact i.ok.back hm c,?_⟩;refine⟨?_,?_,?_,?_,?_,?_,?_,i.lk.sv,i.lk.la,i.lk.dp,?_⟩
   .show iG d.enc d.cur.ps=(M.back ds g).E
    rw[C,G,Mo.Uv hm];exact j.eb
   .show mR d.enc _ _ us ds;rw[C];exact c1
   .show mR d.enc _ _ (X.R.2++[x]).reverse (g::M.next)
    rw[C,List.reverse_append];refine .cons ?_ ?_
    .exact j
    .rw[Mo.o_,<-Mo.Yr c]
     have:M.st=g.st:=by unfold Mo.st;rw[c,<-dW,Dq]
     rw[<-this];exact i.lk.r
   .show OG _ _ X.now M.now;rw[m,hm];trivial
   .show((JA (H0 x) X.ms).map kv).Perm (wR (g.lI.map nX) M.marks)
    rw[Wj,f];exact PN _ i.lk.ms
   .show zZ (H0 x) X.ws=zZ (g.lI.map nX) M.watched
    rw[f,i.lk.ws]
   .exact j.old
   .show d.A.length<=_;rw[K];exact i.lk.A
theorem uw{M:Mo}(r:cO S n h rho k X)(i:Inv X M N)(hN:N<=68719476736) :
  wp P (nB S (some X.b)) h λtg vs h'=>tg=0/\vs=[aH M.Bu.1,aH M.Bu.2.1]/\lH S n k X h rho h' M.Bu.2.2 N:=by
 cases j:X.now with
 |some o=>
  obtain⟨q,hm,_⟩:=i.Hd j;refine cM _ (λtg vs h' ⟨t,v,G⟩=>?_) (UC r j);unfold Mo.Bu;rw[hm,if_pos (show(some q).isSome=true from rfl),G];exact⟨t,v,lH.ext r i (Ext.refl _)⟩
 |none=>
  have hm:=i.Jf j;cases f:M.next with
  |nil=>
   have V:X.R.2=[]:=Aq (by have:=i.lk.r.len;rw[f,Mx]at this;exact this);refine cM _ (λtg vs h' ⟨t,v,G⟩=>?_) (W3 r j V);unfold Mo.Bu;rw[hm,if_neg (by decide),f,G];exact⟨t,v,lH.ext r i (Ext.refl _)⟩
  |cons g ns=>
   have C:=i.lk.r;rw[f]at C;obtain⟨x,rs,D⟩:∃x rs,X.R.2.reverse=x::rs:=by
    cases Y:X.R.2.reverse with
    |nil=>rw[Y]at C;cases C
    |cons x rs=>exact⟨x,rs,rfl⟩
   have O:X.R.2=rs.reverse++[x]:=by have:=congrArg List.reverse D;simpa using this
   rw[D]at C;cases C with
   |cons m c1=>
   have W:g∈M.all:=by unfold Mo.all;rw[f];simp
   have ao:M.last.toNat<=N:=by have:=i.ok.sz;unfold Mo.sz at this;omega
   have ab:=Qq i.ok;have a0:=Wp i.ok;have a2:=i.lk.u.len;have al:=Qk i.ok.sz W;have a1:rs.length<=M.next.length:=by have:=c1.len;rw[this,f];simp
   have d:H0 x=g.lI.map nX:=m.mv;have aw:x.mv.2.length=g.lI.length:=by have:=congrArg List.length d;simpa using this
   have B:=i.ok.sq hm f;rw[<-d]at B;refine cM _ (λtg vs h' ⟨t,v,I,c,u,q,st,Z,nx,H,K⟩=>?_) (pg (us:=rs.reverse) (g:=x) r j O B i.y9 (by omega) (by rw[Mx];omega) (by omega));unfold Mo.Bu;rw[hm,if_neg (by decide),f];refine⟨t,by rw[v,m.en],I,_,st,Z,?_,⟨rfl,nx.p,nx.enc,nx.limit,rfl⟩⟩;have F:c.enc=X.T.enc:=nx.enc;have J:c.limit=X.T.limit:=nx.limit;refine⟨by show iF c.enc c.limit _ _;rw[F,J];exact i.ok.xE hm f,?_⟩;refine⟨?_,?_,?_,?_,?_,?_,?_,i.lk.sv,i.lk.la,i.lk.dp,?_⟩
   .show iG c.enc c.cur.ps=(M.xE g ns).E
    rw[F,H,Mo.QA hm];exact m.ee
   .show mR c.enc _ _ (X.U.2++[x]) (M.done++[g])
    rw[F];refine i.lk.u.snoc ?_;rw[<-AR,<-HS];exact m
   .show mR c.enc _ _ rs.reverse.reverse ns
    rw[F,List.reverse_reverse,Mo.Wb];have:(M.xE g ns).st=g.st:=by unfold Mo.st Mo.xE;dsimp only;rw[<-dW,Dq]
    rw[this];exact c1
   .show OG _ _ X.now M.now;rw[j,hm];trivial
   .show((Hb (H0 x) X.ms).map kv).Perm (rP (g.lI.map nX) M.marks)
    rw[Wi,d];exact PM _ i.lk.ms
   .show sQ (H0 x) X.ws=sQ (g.lI.map nX) M.watched
    rw[d,i.lk.ws]
   .have:(M.xE g ns).st=g.st:=by unfold Mo.st Mo.xE;dsimp only;rw[<-dW,Dq]
    rw[this];exact m.fr
   .show c.A.length<=_;rw[K];exact i.lk.A
open Classical in
noncomputable def Mo.XZ(M:Mo)(name a:Int):Int×Mo:=if OB name then if M.ins a then (0,{M with marks:=qB name a M.marks}) else (2,M) else (74,M)
theorem TO{name a:Int}:∀{l:iO},(l.Pairwise λx y=>x.1<y.1)->(qB name a l).Perm ((name,a)::l.filter λe=>decide (e.1≠name))
 |[],_=>List.Perm.refl _
 |x::l,h=>by
  obtain⟨b,c⟩:=yI.1 h;have aP:(∀e∈l,e.1≠name)->l.filter (λe=>decide (e.1≠name))=l:=λd=>Sb.2 λe he=>decide_eq_true (d e he);unfold qB;by_cases c1:x.1<name
  .rw[if_pos c1,Sc (by simp;omega)]
   exact((TO c).cons x).trans (List.Perm.swap _ _ _)
  .rw[if_neg c1]
   by_cases c2:x.1=name
   .rw[if_pos c2,List.filter_cons_of_neg (by simp[c2]),aP λe he=>by have:=b e he;omega]
   .rw[if_neg c2,Sc (by simp[c2]),aP λe he=>by have:=b e he;omega]
theorem Wn{name a:Int}:∀{l:fW},(l.map (·.1)).Nodup->name∈l.map (·.1)->((FK name a l).map kv).Perm ((name,a)::(l.map kv).filter λe=>decide (e.1≠name))
 |[],_,h=>by cases h
 |x::l,b,h=>by
  simp only[fS,CF]at b;simp only[FK,fS];by_cases c:x.1=name
  .rw[if_pos c,fS,List.filter_cons_of_neg (by simp[kv,c])]
   have:(l.map kv).filter (λe=>decide (e.1≠name))=l.map kv:=Sb.2 λe he=>by
    obtain⟨y,d,rfl⟩:=dA.1 he;refine decide_eq_true λe=>b.1 ?_;rw[c,<-e];exact rT (f:=(·.1)) d
   rw[this,<-c]
  .rw[if_neg c,fS,Sc (by simp[kv,c])]
   have hm:name∈l.map (·.1):=by
    rcases eH.1 h with h|h
    .exact absurd h.symm c
    .exact h
   exact((Wn b.2 hm).cons (kv x)).trans (List.Perm.swap _ _ _)
theorem j_{l:fW}{c:Nat}(d:(l.map (·.1)).Nodup):((Jd name a l c).map kv).Perm ((name,a)::(l.map kv).filter λe=>decide (e.1≠name)):=by
 unfold Jd;cases hm:jN name l with
 |some v=>
  rw[if_pos (show(some v).isSome=true from rfl)];obtain⟨b,hb⟩:=(HC d).1 hm;exact Wn d (rT (f:=(·.1)) hb)
 |none=>
  rw[if_neg (by decide)];have g:=HB.1 hm;have:(l.map kv).filter (λe=>decide (e.1≠name))=l.map kv:=Sb.2 λe he=>by
   obtain⟨y,j,rfl⟩:=dA.1 he;exact decide_eq_true λe=>g (by rw[<-e];exact rT (f:=(·.1)) j)
  rw[this,dP];exact List.perm_append_comm
theorem Yg{M:Mo}(r:cO S n h rho k X)(i:Inv X M N)(p:cX .i64 name)(o:cX .i64 a) :
  wp P (qZ S (some X.b) name a) h λtg vs h'=>tg=0/\vs=[aH (M.XZ name a).1]/\lH S n k X h rho h' (M.XZ name a).2 (N+1):=by
 have i1:=i.mono (N':=N+1) (GD _);have r0:=r.zr (Ext.refl h);have v:cW k h rho h (Hist.zr h rho):=cW.nH (Ext.refl h);refine cM _ (λtg vs h' ⟨B,f⟩=>⟨B,?_⟩) (W5 (name:=name) (at_:=a) r0 p o);unfold Mo.XZ;rcases f with⟨f,g,m⟩|⟨f,d,g,m⟩|⟨f,d,g,m,c,G,D⟩
 .rw[if_neg f];exact⟨g,lH.ext r i1 m⟩
 .rw[i.lk.E]at d
  have d:¬M.ins a:=d;rw[if_pos f,if_neg d];exact⟨g,lH.ext r i1 m⟩
 .rw[i.lk.E]at d
  have d:M.ins a:=d;rw[if_pos f,if_pos d];refine⟨g,_,_,v.trans (cW.of m (λj t e=>?_) λj t _=>qJ t),D,⟨i.ok.jn f d,i.lk.E,i.lk.u,i.lk.r,OG.re (by exact rfl) (by exact rfl) i.lk.now,?_,i.lk.ws,i.lk.st,i.lk.sv,i.lk.la,i.lk.dp,i1.lk.A⟩,⟨rfl,rfl,rfl,rfl,rfl⟩⟩
  .rw[e,r0.rm];omega
  .obtain⟨F,C⟩:=r.mp.ok
   refine(j_ C.keys).trans (List.Perm.trans ?_ (TO i.ok.so).symm);exact(i.lk.ms.filter _).cons _
def Cb(name:Int):iO->Option Int
 |[]=>none
 |e::l=>if e.1=name then some e.2 else Cb name l
theorem Nj{name v:Int}:∀{l:iO},(l.Pairwise λx y=>x.1<y.1)->(Cb name l=some v↔(name,v)∈l)
 |[],_=>by simp[Cb]
 |x::l,h=>by
  obtain⟨b,d⟩:=yI.1 h;unfold Cb;by_cases c:x.1=name
  .rw[if_pos c]
   constructor
   .intro e;cases e;rw[<-c];exact eO ..
   .intro e
    rcases eH.1 e with e|e
    .rw[<-e]
    .have:=b _ e;dsimp only at this;omega
  .rw[if_neg c,Nj d]
   constructor
   .exact eK _
   .intro e
    rcases eH.1 e with e|e
    .rw[<-e]at c;exact absurd rfl c
    .exact e
def Mo.EJ(M:Mo)(name:Int):Int×Int:=match Cb name M.marks with
 |none=>(0,74)
 |some v=>(v,0)
theorem Inv.find{M:Mo}(r:cO S n h rho k X)(i:Inv X M N)(name:Int):jN name X.ms=Cb name M.marks:=by
 obtain⟨c,g⟩:=r.mp.ok;have key:∀v,jN name X.ms=some v↔Cb name M.marks=some v:=λv=>by
  rw[HC g.keys,Nj i.ok.so,<-i.lk.ms.mem_iff];constructor
  .rintro⟨b,hb⟩;exact dA.2 ⟨_,hb,rfl⟩
  .intro d
   obtain⟨⟨j,m,o⟩,f,e⟩:=dA.1 d;cases e;exact⟨_,f⟩
 cases d:jN name X.ms with
 |none=>
  cases f:Cb name M.marks with
  |none=>rfl
  |some v=>rw[(key v).2 f]at d;cases d
 |some v=>rw[(key v).1 d]
theorem uv{M:Mo}(r:cO S n h rho k X)(i:Inv X M N):aS P (zB S (some X.b) name) [tI, tI] h λ(y:Int×Int×Unit) _=>y.1=(M.EJ name).1/\y.2.1=(M.EJ name).2:=by
 refine(p_ (name:=name) r).mono λy h' e f=>?_;unfold Mo.EJ;rw[i.find r]at f;rcases f with⟨c,d,g⟩|⟨c,d⟩
 .rw[c];exact⟨d,g⟩
 .rw[c];exact⟨rfl,d⟩
instance (M:Mo) (l:bB):Decidable (∀v∈l,M.ins v):=inferInstance
def Mo.Kw(M:Mo)(l:bB):Int×Mo:=if ∀v∈l,M.ins v then (0,{M with watched:=l}) else (2,M)
theorem jy{M:Mo}{s:Sl}{l:bB}(r:cO S n h rho k X)(i:Inv X M N)(o:kW .i64 h s l)(m:l.length<=1099511627776) :
  wp P (vC S (some X.b) s) h λtg vs h'=>tg=0/\vs=[aH (M.Kw l).1]/\lH S n k X h rho h' (M.Kw l).2 (N+l.length):=by
 have i1:=i.mono (N':=N+l.length) (Ek _ _);refine cM _ (λtg vs h' ⟨j,c⟩=>⟨j,?_⟩) (gd r o m);unfold Mo.Kw;have he:(∀v∈l,qQ X v)↔∀v∈l,M.ins v:=forall_congr' λv=>forall_congr' λ_=>i.ins v;rw[he]at c;rcases c with⟨c,d,g⟩|⟨c,d,g,f,t,st,p⟩
 .rw[if_neg c];exact⟨d,lH.ext r i1 g⟩
 .rw[if_pos c]
  exact⟨d,f,_,st,p,⟨i.ok.watch c,i.lk.E,i.lk.u,i.lk.r,OG.re (by exact rfl) (by exact rfl) i.lk.now,i.lk.ms,rfl,i.lk.st,i.lk.sv,i.lk.la,i.lk.dp,i1.lk.A⟩,⟨rfl,rfl,rfl,rfl,rfl⟩⟩
theorem jw{M:Mo}(r:cO S n h rho k X)(i:Inv X M N):wp P (vA S (some X.b)) h λtg vs h'=>tg=0/\vs=[]/\lH S n k X h rho h' M.save N:=by
 have r0:=r.zr (Ext.refl h);have p:cW k h rho h (Hist.zr h rho):=cW.nH (Ext.refl h);refine cM _ (λtg vs h' ⟨t,v,x,B,C⟩=>⟨t,by rw[B];rfl,_,_,p.trans (cW.of v (λj g e=>?_) λj g _=>qJ g),C,?_⟩) (ga r0)
 .rw[e,r0.rb];omega
 .have hb:(D4 X).now=X.now:=by unfold D4;split<;>rfl
  cases c:X.now with
  |none=>
   have hm:=i.Jf c;have d:D4 X={X with saved:=X.state}:=by unfold D4;rw[c];rfl
   have f:M.save={M with saved:=M.st}:=by unfold Mo.save;rw[hm];rfl
   have m:=i.ok.save;rw[f]at m⊢;rw[d];exact⟨⟨m,i.lk.E,i.lk.u,i.lk.r,OG.re (by exact rfl) (by exact rfl) i.lk.now,i.lk.ms,i.lk.ws,i.lk.st,i.lk.st,i.lk.la,i.lk.dp,i.lk.A⟩,⟨rfl,rfl,rfl,rfl,rfl⟩⟩
  |some o=>
   obtain⟨q,hm,_⟩:=i.Hd c;have d:D4 X=X:=by unfold D4;rw[c];rfl
   have f:M.save=M:=by unfold Mo.save;rw[hm];rfl
   rw[d,f];exact⟨i,Sm.refl X⟩
theorem ju{M:Mo}(r:cO S n h rho k X)(i:Inv X M N):aS P (uX S (some X.b)) [tI, tI] h λ(y:Int×Int×Unit) _=>y.1=M.done.length/\y.2.1=M.next.length:=by
 refine(fz r).mono λy h' e d=>?_;have f:=i.lk.u.len;have c:=i.lk.r.len;rw[Mx]at c;rw[f,c]at d;exact d
def Mo.Ep(M:Mo):Bool:=decide (M.st≠M.saved) || (M.now.map λq=>C2 q.lI).getD false
theorem jv{M:Mo}(r:cO S n h rho k X)(i:Inv X M N):aS P (uY S (some X.b)) [tB] h λ(y:Bool×Unit) _=>y.1=M.Ep:=by
 refine(g_ r).mono λy h' e d=>?_;rw[d];unfold Hn Mo.Ep;rw[i.lk.st,i.lk.sv]
 congr 1
 cases c:X.now with
 |none=>rw[i.Jf c];rfl
 |some o=>obtain⟨q,hm,om⟩:=i.Hd c;rw[hm];exact om.ch
theorem dc{M:Mo}(r:cO S n h rho k X)(i:Inv X M N):aS P (tC S (some X.b)) [tB] h λ(y:Bool×Unit) _=>y.1=M.now.isSome:=by
 refine(YL r).mono λy h' e d=>?_;rw[d];cases c:X.now with
 |none=>rw[i.Jf c];rfl
 |some o=>obtain⟨q,hm,om⟩:=i.Hd c;rw[hm];rfl
theorem Yh{M:Mo}(r:cO S n h rho k X)(i:Inv X M N)(d:N<=68719476736):aS P (rA S (some X.b)) [tS] h λ(y:Sl×Unit) h'=>bU h.size .i64 h' y.1 M.watched:=by
 refine(W7 r (by have:=i.wsl;omega)).mono λy h' e c=>?_;rw[<-i.lk.ws];exact c
end
section
variable{P:Program}{S:cH}{h:aG}{Q:Nat->bG->aG->Prop}{n k:Nat}{rho:Nat->Nat}{X:Bk}
theorem Wr{w:Sl}{l:bB}(o:kW .i64 h w l):(Sh.list (.int .i64)).ok h ((w,l):Sl×bB):=by
 refine⟨o.len,o.cap,o.max,λi y hi=>?_⟩;obtain⟨a,ha,c⟩:=o.rd.2 i (.int .i64 y) (by rw[gP,hi];rfl);refine⟨a,ha,aI.2 λj v b=>?_,o.wf y (eM hi)⟩;cases j with
 |zero=>
  simp[Sh.cells]at b;subst b;simpa[Sh.size,add_zero'] using c
 |succ j=>simp[Sh.cells]at b
theorem Hk{a:Int}:aS P (hQ S a) [tI] h λ(y:Int×Unit) _=>y.1=a:=by
 unfold hQ aS;exact aC ⟨rfl,Ext.refl _,(a,()),rfl,rfl⟩
def Mo.mid(M:Mo)(cs:List (List iM))(bg:Int):Mo:={M with now:=some ⟨cs,bg,M.marks,M.watched⟩,marks:=rP (cs.map nX) M.marks,watched:=sQ (cs.map nX) M.watched}
theorem Vh(l:List (List mS))(m:List mS)(ms:iO):rP (l++[m]) ms=lY m (rP l ms):=by simp[rP]
theorem Vi(l:List (List mS))(m:List mS)(ms:bB):sQ (l++[m]) ms=lM m (sQ l ms):=by simp[sQ]
end
section
variable{P:Program}{S:cH}{h:aG}{Q:Nat->bG->aG->Prop}{n k:Nat}{rho:Nat->Nat}{X:Bk}
end
section
variable{P:Program}{S:cH}{h:aG}{Q:Nat->bG->aG->Prop}{n k:Nat}{rho:Nat->Nat}{X:Bk}
def Mo.new(E:List El)(depth:Int):Mo:={E0:=E,depth:=depth,lost:=[],done:=[],next:=[],now:=none,marks:=[],watched:=[],saved:=0,last:=0}
theorem jb{depth:Int}{T:TX}(t:eP S n h T)(b:ng depth T X)(A:T.A=[])(hb:(dR T.cur.ps).length<=T.limit)(r:1<=depth/\depth<=200):Inv X (Mo.new (iG T.enc T.cur.ps) depth) 0:=by
 have c:=b.T;have j:=Ba t.cur t.enc;have m:=(Gs t.enc t.cur.bytes).2.2;have D:MD T.enc T.limit (iG T.enc T.cur.ps):=⟨m,by rw[j];omega⟩;have d:=t.Bq;refine⟨?_,?_⟩
 .rw[c]
  exact⟨t.enc,d,r,D,trivial,trivial,kR _,λg u=>(by cases u),List.Pairwise.nil,λe he=>(by cases he),List.Pairwise.nil,bM _,λv C=>(by cases C),bM _,λq f=>(by cases f),bM _,λk B=>(by cases B),λq f=>(by cases f)⟩
 .have p:=b.U;have o:=b.R
  refine⟨by rw[c];rfl,?_,?_,?_,?_,b.ws,b.BI.1,b.BI.2.1,b.BI.2.2,b.depth,by rw[c,A];exact cN _⟩
  .rw[p];exact .nil _ _
  .rw[o];exact .nil _ _
  .rw[b.now];trivial
  .rw[b.ms];exact List.Perm.refl _
abbrev Ys:=Sl×List GP
abbrev A4:Sh:=.list (.list jT)
theorem Oa{x:Ys}{y:GP}{i:Nat}{K:Sl->aK}(ok:A4.ok h x)(b:x.2[i]?=some y)(d:wp P (K y.1) h Q) :
  wp P (bF (bN (aJ x.1.aD) (eV (i:Int) x.1.len))<|.load (tS) (aB x.1.aD (aZ (bQ (i:Int)) 1)) K) h Q:=by
 obtain⟨o1,o2,j,f⟩:=ok;obtain⟨a,ea,c,_⟩:=f i y b;have g:=(cR.1 b).1;refine aL (fC.2 ⟨by rw[ea];rfl,kN.2 ⟨by omega,by omega⟩⟩) ?_;rw[hO,eX,cS,ea];exact bC (a.add (i*1)) y.1 rfl (by have:=aI.1 c 0 _ rfl;rw[add_zero']at this;exact this) d
end
section
variable{P:Program}{S:cH}{h:aG}{Q:Nat->bG->aG->Prop}{n k:Nat}{rho:Nat->Nat}{X:Bk}
structure Sv where
 n:Nat
 h0:aG
 b:Addr
 p:Addr
 enc:Int
 limit:Int
 K:(Nat->Nat)->aG->Prop
 ks:∀rho h rho' h',cW 0 h rho h' rho'->K rho h->K rho' h'
def Sv.one(n:Nat)(h0:aG)(b p:Addr)(enc limit:Int):Sv:=⟨n,h0,b,p,enc,limit,λ_ _=>True,λ_ _ _ _ _ _=>trivial⟩
def Sv.add(w:Sv)(K:(Nat->Nat)->aG->Prop)(ks:∀rho h rho' h',cW 0 h rho h' rho'->K rho h->K rho' h'):Sv:={w with K:=λrho h=>w.K rho h/\K rho h,ks:=λrho h rho' h' st k=>⟨w.ks _ _ _ _ st k.1,ks _ _ _ _ st k.2⟩}
variable{w:Sv}{M:Mo}{N:Nat}
def yc(enc:Int)(W:Nat):List El->List GM->Prop
 |E,[]=>lE enc E<=W
 |E,g::l=>lE enc E<=W/\yc enc W (lL E g.lI) l
end
section
variable{P:Program}{S:cH}{h:aG}{Q:Nat->bG->aG->Prop}{w:Sv}{M:Mo}{N:Nat}
structure Und(full:List GM)(gone:Nat)(M:Mo):Prop where
 now:M.now=none
 lost:M.lost=[]
 done:M.done=full.take (full.length-gone)
 next:M.next=full.drop (full.length-gone)
 sv:M.saved=Ul 0 (full.take (full.length-1))
 le:gone<=full.length
structure aao(w:Sv)(i W:Nat)(M:Mo):Prop where
 now:M.now=none
 saved:M.saved=0
 lost:M.lost=[]
 next:M.next=[]
 len:M.done.length<=i
 wt:yc w.enc W M.E0 M.all
end
section
def ym(E:List El):Prop:=((E.filter tg).map (·.2)).Nodup
structure Fol(t:Int)(E:List El)(m v:Int):Prop where
 u:ym E
 ml:0<=m/\m<=E.length
 at_:(∃(j:Nat) (x:El),E[j]?=some x/\x.2=t/\v=j/\m=j)\/((∀x∈E,x.2≠t)/\v = -1)
structure aan(t:Int)(E:List El)(ms:iO)(ws:bB):Prop where
 ex:∃m v,Fol t E m v/\ms=[(60,m)]/\ws=[v,(E.length:Int)]
end
section
variable{P:Program}{S:cH}{h:aG}{Q:Nat->bG->aG->Prop}{w:Sv}{M:Mo}{N:Nat}
theorem SS(E:List El):OP E 0 E.length=E:=by
 unfold OP;rw[show(min (E.length:Int) E.length).toNat=E.length by omega,fF];rfl
end
section
variable{P:Program}{S:cH}{h:aG}{Q:Nat->bG->aG->Prop}{w:Sv}{M:Mo}{N:Nat}
theorem E2{a b:Sl}{l m:bB}(ha:kW .i64 h a l)(hb:kW .i64 h b m):aS P (jJ S a b) [tB] h λ(x:Bool×Unit) _=>x.1=decide (l=m):=by
 have d:=ha.len;have g:=hb.len;have p:=ha.bound;unfold jJ aS;refine aE (λc=>?_) λc=>?_
 .rw[kH,aN,aN,d,g]at c
  refine aC ⟨rfl,Ext.refl h,(_,()),rfl,?_⟩;have:l≠m:=λe=>c (by rw[e]);show Bool.false=_;simp[this]
 rw[lQ,aN,aN,d,g]at c;refine bL (λ(s:Int×Unit) h'=>h'=h/\0<=s.1/\s.1<=l.length/\l.take s.1.toNat=m.take s.1.toNat) (λs _=>l.length-s.1.toNat)
  (λt vs h'=>h'=h/\(t=2/\vs=[]/\l=m\/t=1/\vs=[.bool Bool.false]/\l≠m)) ⟨rfl,by simp,by simp,by simp⟩ ?_ ?_
 .rintro⟨(i:Int),u⟩ h' ⟨rfl,h0,o,ht⟩
  dsimp only at h0 o ht⊢;refine aE (λc=>?_) λc=>?_
  .rw[aU,aN,d]at c
   refine qW ha h0 (by omega) λ_=>qW hb h0 (by omega) λ_=>aE (λf=>?_) λf=>?_
   .rw[kH]at f
    exact aC ⟨λh=>absurd h (by decide),λ_=>⟨rfl, .inr ⟨rfl,rfl,λe=>f (by rw[e])⟩⟩⟩
   .rw[lQ]at f
    rw[aX (by omega) (by omega)];refine aC ⟨λ_=>⟨(i+1,()),rfl,⟨rfl,by dsimp only;omega,by dsimp only;omega,?_⟩,by dsimp only;omega⟩,λh=>absurd rfl h⟩;dsimp only;rw[show(i+1).toNat=i.toNat+1 by omega];exact Jx (by omega) (by omega) ht f
  .rw[aY,aN,d]at c
   refine aC ⟨λh=>absurd h (by decide),λ_=>⟨rfl, .inl ⟨rfl,rfl,?_⟩⟩⟩
   rwa [iW (by omega),iW (by omega)]at ht
 .rintro t vs h' ⟨rfl,⟨ht,j,e⟩|⟨ht,j,e⟩⟩
  .exact pL ht () j ⟨rfl,Ext.refl _,(_,()),rfl,by show Bool.true=_;simp[e]⟩
  .exact nP (by omega) (pL ht (Bool.false,()) j ⟨rfl,Ext.refl _,(_,()),rfl,by show Bool.false=_;simp[e]⟩)
abbrev Cy(e:Int×Int):bG:=[aH e.1,aH e.2]
abbrev iV(n:Nat)(h:aG)(s:Sl)(l:iO):Prop:=cA n 2 h s (l.flatMap Cy)
theorem L4(l:iO):(l.flatMap Cy).length=l.length*2:=by
 induction l with
 |nil=>rfl
 |cons e l b=>rw[gB,bP,b,fK];simp only[fK,Mn];omega
theorem iV.len{n:Nat}{s:Sl}{l:iO}(o:iV n h s l):s.len=l.length:=by have:=o.1;rw[L4]at this;omega
abbrev z8:=Sl×Sl×Sl×Sl×Int×Int×Bool×Bool×Unit
structure yl where
 E:List El
 ws:bB
 ms:iO
 un:Nat
 re:Nat
 di:Bool
 op:Bool
def Mo.look(M:Mo):yl:=⟨M.E,M.watched,M.marks,M.done.length,M.next.length,M.Ep,M.now.isSome⟩
structure aaa(m:Nat)(h:aG)(y:z8)(k:yl):Prop where
 ato:bU m .i64 h y.1 (k.E.map (·.1))
 tag:bU m .i64 h y.2.1 (k.E.map (·.2))
 wat:bU m .i64 h y.2.2.1 k.ws
 mar:iV m h y.2.2.2.1 k.ms
 und:y.2.2.2.2.1=k.un
 red:y.2.2.2.2.2.1=k.re
 dir:y.2.2.2.2.2.2.1=k.di
 ope:y.2.2.2.2.2.2.2.1=k.op
theorem Cj{bs:List B}{a:Addr}{n m c:Nat}{vs:bG}(x:Bs.den bs){K:Bs.den bs->aK}(o:cA n 1 h ⟨some a,m,c⟩ vs)(d:Bs.inj bs x=vs)(b:wp P (K x) h Q):wp P (.load (.agg bs) (some a) K) h Q:=
 ⟨a,rfl,x,by show Cells h a (Bs.inj bs x);rw[d];exact o.cells,b⟩
end
section
variable{P:Program}{S:cH}{h:aG}{Q:Nat->bG->aG->Prop}
variable{l l':iO}{i q a:Nat}{s:Sl}{x y:Int}
structure Sf(P:Program)(S:cH):Prop where
 cmp:∀(x y:Int×Int×Unit),dw P (.func (.func S.wG) #[] #[]) [.agg #[aH x.1,aH x.2.1], .agg #[aH y.1,aH y.2.1]] (uZ S x y)
abbrev Iq(S:cH):Value:=.func (.func S.wG) #[] #[]
def Kb(l:iO):Prop:=∀e∈l, -1152921504606846976<=e.1/\e.1<=1152921504606846976
abbrev fY(s:Sl)(i:Nat):Prop:=∃a,s.aD=some a/\a.block=i
abbrev el(l:iO)(i:Nat):Int×Int:=l.getD i (0,0)
abbrev ky(l:iO)(i:Nat):Int:=(el l i).1
theorem EC(hi:i<l.length):l[i]?=some (el l i):=by simp[List.getD,cL hi]
theorem Z9{j:Nat}(hi:i<l.length)(c:j<2):(l.flatMap Cy)[i*2+j]?=(Cy (el l i))[j]? := by
 have f:l=l.take i++(el l i::l.drop (i+1)):=by
  have b:el l i=l[i]:=by simp[List.getD,cL hi]
  rw[b,<-gY hi,eY]
 have d:((l.take i).flatMap Cy).length=i*2:=by rw[L4,dJ];omega
 conv=>lhs;rw[f]
 rw[gX,gB,jZ (by omega),d,show i*2+j-i*2=j by omega,mL (by simpa using c)]
theorem iV.aD{n:Nat}{s:Sl}{l:iO}(o:iV n h s l)(f:0<l.length):aJ s.aD=true:=by
 cases hb:s.aD with
 |none=>
  have b:=o.2.2.2;rw[hb]at b;have c:=o.2.1;have d:=iV.len o;dsimp only at b;omega
 |some a=>rfl
theorem PW{n:Nat}{K:Int×Int×Unit->aK}(o:iV n h s l)(m:x=(i:Int))(hi:i<l.length)(g:wp P (K ((el l i).1,(el l i).2,())) h Q) :
  wp P (bF (bN (aJ s.aD) (eV x s.len))<|.load (.agg [.int .i64, .int .i64]) (aB s.aD (aZ (bQ x) 2)) K) h Q:=by
 subst m;have hlen:=iV.len o;refine aL (fC.2 ⟨iV.aD o (by omega),kN.2 ⟨by omega,by omega⟩⟩) ?_;obtain⟨a,ea,_⟩:=o.rd.2 (i*2+0) (aH (el l i).1) (by rw[Z9 hi (by decide)];rfl);refine⟨a.add (i*2),by rw[ea,hO,eX,cS];rfl,((el l i).1,(el l i).2,()),aI.2 λj v c=>?_,g⟩;have d:j<2:=(cR.1 c).1;obtain⟨b,eb,f⟩:=o.rd.2 (i*2+j) v (by rw[Z9 hi d];exact c);rw[ea]at eb;cases eb;rw[add_add];exact f
theorem m_{n:Nat}(e:Int×Int){K:aK}(o:iV n h s l)(r:x=(i:Int))(hi:i<l.length)
  (m:∀h',iV n h' s (l.set i e)->aV (fY s) h h'->wp P K h' Q):wp P (bF (bN (aJ s.aD) (eV x s.len)) (.store (aB s.aD (aZ (bQ x) 2)) [aH e.1,aH e.2] K)) h Q:=by
 subst r;have hlen:=iV.len o;have g:l=l.take i++(l[i]::l.drop (i+1)):=by rw[<-gY hi,eY]
 have c:l.set i e=l.take i++(e::l.drop (i+1)):=by
  conv=>lhs;rw[g]
  have f:(l.take i).length=i:=by rw[dJ];omega
  rw[Ar (h:=by omega),f,sY,wU]
 have p:cA n 2 h s ((l.take i).flatMap Cy++Cy l[i]++(l.drop (i+1)).flatMap Cy):=by
  have d:cA n 2 h s (l.flatMap Cy):=o;rw[g,gX,gB]at d;rw[dW];exact d
 refine aL (fC.2 ⟨iV.aD o (by omega),kN.2 ⟨by omega,by omega⟩⟩) ?_;have b:aZ (bQ (i:Int)) 2=((l.take i).flatMap Cy).length:=by rw[L4,dJ];simp[aZ,bQ];omega
 rw[b];refine qC (mid:=Cy l[i]) [aH e.1,aH e.2] p rfl rfl (by simp) (by intro v j;simp only[eH,lG,or_false]at j;rcases j with rfl|rfl<;>rfl) λh' t u A=>m h' ?_ (aV.dK u λa ha _=>⟨a,ha,rfl⟩);show cA n 2 h' s ((l.set i e).flatMap Cy);rw[c,gX,gB,<-dW];exact t
def Lp(l:iO)(p q:Nat):iO:=(l.set q (el l p)).set p (el l q)
theorem cp{p:Nat}(d:p<l.length)(f:q<l.length)(i:Nat):el (Lp l p q) i=if i=p then el l q else if i=q then el l p else el l i:=by
 unfold Lp;simp only[el,gI,RW,CJ];by_cases b:i=p
 .subst b;simp[d]
 .rw[if_neg (Ne.symm b),if_neg b]
  by_cases c:i=q
  .subst c;simp[f]
  .rw[if_neg (Ne.symm c),if_neg c]
theorem cq{p:Nat}(b:p<l.length)(c:q<l.length):(Lp l p q).Perm l:=by
 have d:el l p=l[p]:=by simp[List.getD,cL b]
 have f:el l q=l[q]:=by simp[List.getD,cL c]
 unfold Lp;rw[d,f];exact List.set_set_perm c b
theorem CA{n:Nat}{p:Nat}{K:aK}(o:iV n h s l)(d:x=(p:Int))(f:y=(q:Int))(b:p<l.length)(c:q<l.length)
  (r:∀h',iV n h' s (Lp l p q)->aV (fY s) h h'->wp P K h' Q) :
  wp P (bF (bN (aJ s.aD) (eV x s.len))<|.load (.agg [.int .i64, .int .i64]) (aB s.aD (aZ (bQ x) 2)) λ(g:Int×Int×Unit)=>
   bF (bN (aJ s.aD) (eV y s.len))<|.load (.agg [.int .i64, .int .i64]) (aB s.aD (aZ (bQ y) 2)) λ(j:Int×Int×Unit)=>
   bF (bN (aJ s.aD) (eV y s.len))<|.store (aB s.aD (aZ (bQ y) 2)) [aH g.1,aH g.2.1]<|
   bF (bN (aJ s.aD) (eV x s.len))<|.store (aB s.aD (aZ (bQ x) 2)) [aH j.1,aH j.2.1] K) h Q:=
 PW o d b (PW o f c (m_ (el l p) o f c λt o1 c1=>m_ (el l q) o1 d (by rw[CJ];exact b) λm o2 c2=>r m o2 (c1.trans c2 λ_ _ x=>x)))
theorem vu{x y:Int×Int×Unit}(p : -1152921504606846976<=x.1/\x.1<=1152921504606846976)(r : -1152921504606846976<=y.1/\y.1<=1152921504606846976) :
  aS P (uZ S x y) [tI] h λ(z:Int×Unit) _=>z.1=x.1-y.1:=by
 unfold uZ aS;refine λd=>?_;have j:Ext h (h.push (.cells [aH x.1,aH x.2.1].toArray d)):=Ext.push ..;have o1:cA h.size 1 (h.push (.cells [aH x.1,aH x.2.1].toArray d)) ⟨some ⟨h.size,0,none⟩,2,2⟩ [aH x.1,aH x.2.1]:=bR rfl (by decide) (by decide);generalize h.push (.cells [aH x.1,aH x.2.1].toArray d)=c at j o1⊢;refine λf=>?_;have g:Ext c (c.push (.cells [aH y.1,aH y.2.1].toArray f)):=Ext.push ..;have o2:cA c.size 1 (c.push (.cells [aH y.1,aH y.2.1].toArray f)) ⟨some ⟨c.size,0,none⟩,2,2⟩ [aH y.1,aH y.2.1]:=bR rfl (by decide) (by decide);generalize c.push (.cells [aH y.1,aH y.2.1].toArray f)=o at g o2⊢;have m:=(aV.bD (F:=λ_=>False) g).own o1 λ_ _ x=>x;refine bX (b:=bI) x.1 rfl m.cells rfl (bX (b:=bI) y.1 rfl o2.cells rfl ?_);rw[bY (by omega) (by omega)];exact aC ⟨rfl,j.trans g,(_,()),rfl,rfl⟩
theorem Kb.at(k:Kb l)(hi:i<l.length) : -1152921504606846976<=ky l i/\ky l i<=1152921504606846976:=k _ (eM (EC hi))
theorem FO(C:Sf P S){n:Nat}{j:Nat}{K:Int×Unit->aK}(o:iV n h s l)(kb:Kb l)(t:x=(i:Int))(v:y=(j:Int))(hi:i<l.length)(d:j<l.length)
  (r:∀h',Ext h h'->iV n h' s l->wp P (K (ky l i-ky l j,())) h' Q) :
  wp P (bF (bN (aJ s.aD) (eV x s.len))<|.load (.agg [.int .i64, .int .i64]) (aB s.aD (aZ (bQ x) 2)) λ(f:Int×Int×Unit)=>
   bF (bN (aJ s.aD) (eV y s.len))<|.load (.agg [.int .i64, .int .i64]) (aB s.aD (aZ (bQ y) 2)) λ(g:Int×Int×Unit)=>
   .kC (Iq S) [.agg #[aH f.1,aH f.2.1], .agg #[aH g.1,aH g.2.1]] [tI] K) h Q:=by
 refine PW o t hi (PW o v d (Ky (C.cmp ((el l i).1,(el l i).2,()) ((el l j).1,(el l j).2,())) ?_));refine cM _ (λtg vs h' ⟨m,c,⟨z,u⟩,p,b⟩=>⟨m,(z,()),p,?_⟩) (vu (P:=P) (S:=S) (h:=h) (x:=((el l i).1,(el l i).2,())) (y:=((el l j).1,(el l j).2,())) (kb.at hi) (kb.at d));have b:z=ky l i-ky l j:=b;rw[b];exact r h' c ((aV.bD (F:=λ_=>False) c).own o λ_ _ x=>x)
structure Sg(a b:Nat)(l l':iO):Prop where
 perm:l'.Perm l
 out:∀i,i<a\/b<=i->el l' i=el l i
theorem Sg.refl(a b:Nat)(l:iO):Sg a b l l:=⟨List.Perm.refl _,λ_ _=>rfl⟩
theorem Sg.trans{a b:Nat}{l l' c:iO}(x:Sg a b l l')(y:Sg a b l' c):Sg a b l c:=⟨y.perm.trans x.perm,λi hi=>(y.out i hi).trans (x.out i hi)⟩
theorem Sg.mono{b a' b':Nat}(x:Sg a b l l')(ha:a'<=a)(hb:b<=b'):Sg a' b' l l':=⟨x.perm,λi hi=>x.out i (by omega)⟩
theorem Sg.len{b:Nat}(x:Sg a b l l'):l'.length=l.length:=x.perm.length_eq
theorem Sg.kb{b:Nat}(x:Sg a b l l')(k:Kb l):Kb l':=λe he=>k e (x.perm.mem_iff.1 he)
theorem CB{p b:Nat}(c:p<l.length)(d:q<l.length)(h1:a<=p/\p<b)(f:a<=q/\q<b):Sg a b l (Lp l p q):=
 ⟨cq c d,λi hi=>by rw[cp c d,if_neg (by omega),if_neg (by omega)]⟩
theorem Zl(b:l'.length=l.length)(h:∀i,i<l.length->el l' i=el l i):l'=l:=by
 refine Sd λi=>?_;by_cases hi:i<l.length
 .rw[EC hi,EC (by omega),h i hi]
 .rw[JM (by omega),JM (by omega)]
theorem V3(l:iO)(a i:Nat):el (l.drop a) i=el l (a+i):=by simp[gI,Ao]
theorem V4(hi:i<a):el (l.take a) i=el l i:=by simp[gI,F3,hi]
theorem Sg.all{b:Nat}(x:Sg a b l l')(DN:a<=b)(hb:b<=l.length){p:Int×Int->Prop}(h:∀i,a<=i->i<b->p (el l i)):∀i,a<=i->i<b->p (el l' i):=by
 have hlen:=x.len;have g:l'.take a=l.take a:=Zl (by rw[dJ,dJ,hlen]) λi hi=>by
  rw[dJ]at hi;rw[V4 (by omega),V4 (by omega),x.out i (by omega)]
 have o:l'.drop b=l.drop b:=Zl (by rw[cV,cV,hlen]) λi hi=>by
  rw[V3,V3,x.out _ (by omega)]
 have dec:∀m:iO,m=m.take a++((m.drop a).take (b-a)++m.drop b):=λm=>by
  have f:(m.drop a).drop (b-a)=m.drop b:=by rw[Eh];congr 1;omega
  rw[<-f,eY,eY]
 have r:((l'.drop a).take (b-a)).Perm ((l.drop a).take (b-a)):=by
  have:=x.perm;rw[dec l',dec l,g,o,List.perm_append_left_iff,List.perm_append_right_iff]at this;exact this
 intro i t u;have hm:el l' i∈(l'.drop a).take (b-a):=by
  have:((l'.drop a).take (b-a))[i-a]?=some (el l' i):=by
   rw[List.getElem?_take_of_lt (by omega),Ao,show a+(i-a)=i by omega,EC (by omega)]
  exact eM this
 obtain⟨j,c⟩:=List.mem_iff_getElem?.1 (r.mem_iff.1 hm);have d:=(cR.1 c).1;rw[dJ,cV]at d;rw[List.getElem?_take_of_lt (by omega),Ao,EC (by omega)]at c;have:=h (a+j) (by omega) (by omega);rw[dU c]at this;exact this
def KL(a b:Nat)(l:iO):Prop:=∀i j,a<=i->i<j->j<b->ky l i<=ky l j
theorem Ks{p:Nat}(b:p<l.length)(c:q<l.length)(i:Nat):ky (Lp l p q) i=if i=p then ky l q else if i=q then ky l p else ky l i:=by
 show(el (Lp l p q) i).1=_;rw[cp b c];split
 .rfl
 .split<;>rfl
def tL(P:Program)(m:aK)(tys:List Ty)(n:Nat)(s:Sl)(a b:Nat)(l:iO)(h:aG)(R:Ts.den tys->iO->Prop):Prop:=
 wp P m h λt vs h'=>t=0/\aV (fY s) h h'/\∃x l',vs=Ts.inj tys x/\iV n h' s l'/\Sg a b l l'/\R x l'
theorem qD{m:aK}{tys:List Ty}{n:Nat}{b:Nat}{R:Ts.den tys->iO->Prop}{K:Ts.den tys->aK}(g:tL P m tys n s a b l h R)
  (j:∀x l' h',aV (fY s) h h'->iV n h' s l'->Sg a b l l'->R x l'->wp P (K x) h' Q):wp P (.call m tys K) h Q:=
 cM m (λ_ _ _ ⟨a,b,x,l',c,d,e,f⟩=>⟨a,x,c,j x l' _ b d e f⟩) g
end
section
variable{P:Program}{S:cH}{h:aG}{Q:Nat->bG->aG->Prop}
variable{a:Nat}{s:Sl}{l:iO}
theorem SJ(C:Sf P S){n b:Nat}(o:iV n h s l)(kb:Kb l)(DN:a<=b)(hb:b<=l.length)(hl:l.length<=1073741824) :
  tL P (fM S s (a:Int) (b:Int) (Iq S)) [] n s a b l h λ_ l'=>KL a b l':=by
 unfold fM tL;rw[aX (by omega) (by omega)];refine bL (λ(q:Int×Unit) h'=>∃(i:Nat) (v:iO),q.1=(i:Int)/\a+1<=i/\(i<=b\/i=a+1)/\iV n h' s v/\Sg a b l v/\KL a i v/\aV (fY s) h h') (λq _=>((b:Int)+1-q.1).toNat)
  (λt vs h'=>t=2/\vs=[]/\∃v,iV n h' s v/\Sg a b l v/\KL a b v/\aV (fY s) h h') ⟨a+1,l,by push_cast;rfl,bM _, .inr rfl,o,Sg.refl _ _ _,λi j g f B=>by omega,aV.refl _ _⟩ ?_ ?_
 .rintro⟨(q:Int),u⟩ g ⟨i,v,H,ao,aw,o1,G,t1,c1⟩
  dsimp only at H⊢;subst H;have ab:=G.len;refine aE (λU=>?_) λU=>?_
  .rw[aU]at U
   have a0:i<b:=by omega
   refine bL (λ(q:Int×Unit) h'=>∃(j:Nat) (c:iO),q.1=(j:Int)/\a<=j/\j<=i/\iV n h' s c/\Sg a b l c/\aV (fY s) h h'/\(∀p r,a<=p->p<r->r<=i->p≠j->r≠j->ky c p<=ky c r)/\∀r,j<r->r<=i->ky c j<=ky c r) (λq _=>q.1.toNat)
    (λt vs h'=>t=4/\vs=[]/\∃c,iV n h' s c/\Sg a b l c/\KL a (i+1) c/\aV (fY s) h h') ⟨i,v,rfl,by omega,bM _,o1,G,c1,λp r g f B T V=>t1 p r g f (by omega),λr g f=>by omega⟩ ?_ ?_
   .rintro⟨(q:Int),u⟩ f ⟨j,c,H,a1,a2,o2,E,c2,I,Z⟩
    dsimp only at H⊢;subst H;have al:=E.len;have done:(j=a\/ky c (j-1)<=ky c j)->KL a (i+1) c:=λd p r g f B=>by
     by_cases F:p=j
     .subst F;exact Z r f (by omega)
     .by_cases A:r=j
      .subst A
       rcases d with d|d
       .omega
       .by_cases Y:p=r-1
        .subst Y;exact d
        .exact GF (I p (r-1) g (by omega) (by omega) (by omega) (by omega)) d
      .exact I p r g f (by omega) F A
    refine dB (λt vs h'=>t=0/\∃R:Bool,vs=[.bool R]/\Ext f h'/\iV n h' s c/\(R=true↔a<j/\ky c j<ky c (j-1))) (aE (λd=>?_) λd=>?_) ?_
    .rw[dL]at d
     refine FO C (i:=j) (j:=j-1) o2 (E.kb kb) rfl (by rw[bY (by omega) (by omega)];omega) (by omega) (by omega) λB J K=>aC ⟨rfl,_,rfl,J,K,?_⟩;rw[aU];dsimp only;omega
    .rw[gD]at d
     exact aC ⟨rfl,false,rfl,Ext.refl _,o2,⟨λm=>(by cases m),λm=>by omega⟩⟩
    .rintro t vs B ⟨rfl,R,rfl,J,K,O⟩
     refine bE (gF (aE (λd=>?_) λd=>?_))
     .dsimp only at d
      have d:=O.1 d;have W:bJ .i64 (j:Int) 1=((j-1:Nat):Int):=by rw[bY (by omega) (by omega)];omega
      rw[W];refine CA (p:=j-1) (q:=j) K rfl rfl (by omega) (by omega) λT o4 c4=>?_;have D:=Ks (l:=c) (p:=j-1) (q:=j) (by omega) (by omega);refine aC ⟨λ_=>⟨(((j-1:Nat):Int),()),rfl,⟨j-1,Lp c (j-1) j,rfl,by omega,by omega,o4,E.trans (CB (by omega) (by omega) (by omega) (by omega)),(c2.ext J).trans c4 λ_ _ x=>x,λp r g f B T V=>?_,λr g f=>?_⟩,by dsimp only;omega⟩,λm=>absurd rfl m⟩
      .rw[D,D,if_neg T,if_neg V]
       by_cases F:p=j
       .subst F
        rw[if_pos rfl,if_neg (by omega)];exact I (p-1) r (by omega) (by omega) B (by omega) (by omega)
       .rw[if_neg F]
        by_cases A:r=j
        .subst A;rw[if_pos rfl];exact I p (r-1) g (by omega) (by omega) (by omega) (by omega)
        .rw[if_neg A];exact I p r g f B F A
      .rw[D,D,if_pos rfl,if_neg (by omega)]
       by_cases A:r=j
       .rw[if_pos A];omega
       .rw[if_neg A];exact Z r (by omega) f
     .have hn:¬(a<j/\ky c j<ky c (j-1)):=λm=>by dsimp only at d;rw[O.2 m]at d;cases d
      exact aC ⟨λm=>absurd m (by decide),λ_=>⟨rfl,rfl,c,K,E,done (by omega),c2.ext J⟩⟩
   .rintro t vs f ⟨rfl,rfl,c,o2,E,t2,c2⟩
    refine bE (bO ?_);rw[aX (by omega) (by omega)];exact aC ⟨λ_=>⟨((i:Int)+1,()),rfl,⟨i+1,c,by push_cast;rfl,by omega,by omega,o2,E,t2,c2⟩,by dsimp only;omega⟩,λm=>absurd rfl m⟩
  .rw[aY]at U
   exact aC ⟨λm=>absurd m (by decide),λ_=>⟨rfl,rfl,v,o1,G,λp r g f B=>t1 p r g f (by omega),c1⟩⟩
 .rintro t vs g ⟨rfl,rfl,v,o1,G,t1,c1⟩
  exact bE (bO (aC ⟨rfl,c1,(),v,rfl,o1,G,t1⟩))
def Hp(f:Nat->Int)(hi m:Nat):Prop:=∀i c,m<=i->(c=2*i+1\/c=2*i+2)->c<hi->f c<=f i
theorem Hp.top{f:Nat->Int}{hi:Nat}(H:Hp f hi 0):∀i,i<hi->f i<=f 0:=by
 intro i
 induction i using Nat.strongRecOn with
 |_ i c=>
  intro b;by_cases h0:i=0
  .rw[h0];exact kR _
  .obtain⟨p,d⟩:∃p,p=(i-1) / 2:=⟨_,rfl⟩
   exact GF (H p i (cN _) (by omega) b) (c p (by omega) (by omega))
theorem MV(C:Sf P S){n lo hi first:Nat}(o:iV n h s l)(kb:Kb l)(a1:lo<=hi)(hb:first+hi<=l.length)(hl:l.length<=1073741824)(hH:∀i c,lo<i->(c=2*i+1\/c=2*i+2)->c<hi->ky l (first+c)<=ky l (first+i)) :
  tL P (fJ S s (lo:Int) (hi:Int) (first:Int) (Iq S)) [] n s (first+lo) (first+hi) l h λ_ l'=>Hp (λi=>ky l' (first+i)) hi lo:=by
 unfold fJ tL;refine bL (λ(q:Int×Unit) h'=>∃(r:Nat) (b:iO),q.1=(r:Int)/\lo<=r/\(r<hi\/r=lo)/\iV n h' s b/\Sg (first+lo) (first+hi) l b/\aV (fY s) h h'/\(∀i c,lo<=i->i≠r->(c=2*i+1\/c=2*i+2)->c<hi->ky b (first+c)<=ky b (first+i)) /\
   ∀p c,lo<=p->(r=2*p+1\/r=2*p+2)->(c=2*r+1\/c=2*r+2)->c<hi->ky b (first+c)<=ky b (first+p)) (λq _=>((hi:Int)-q.1).toNat)
  (λt vs h'=>(t=2\/t=1)/\vs=[]/\∃b,iV n h' s b/\Sg (first+lo) (first+hi) l b/\aV (fY s) h h'/\Hp (λi=>ky b (first+i)) hi lo)
  ⟨lo,l,rfl,bM _, .inr rfl,o,Sg.refl _ _ _,aV.refl _ _,λi c d g m E=>hH i c (by omega) m E,λp c d g _ _=>by omega⟩ ?_ ?_
 .rintro⟨(q:Int),u⟩ d ⟨r,b,hq,a2,a3,o1,B,c1,H1,H2⟩
  dsimp only at hq⊢;subst hq;have a0:=B.len;have hm:aT .i64 (qV .i64 2 (r:Int)) 1=((2*r+1:Nat):Int):=by
   rw[DU (by omega) (by omega),aX (by omega) (by omega)];push_cast;rfl
  rw[hm];refine aE (λR=>?_) λR=>?_
  .rw[dD]at R
   refine aC ⟨λv=>absurd v (by decide),λ_=>⟨.inl rfl,rfl,b,o1,B,c1,λi c d g m=>?_⟩⟩;by_cases hi:i=r
   .omega
   .exact H1 i c d hi g m
  rw[eR]at R;have U:2*r+1<hi:=by omega
  have al:aT .i64 ((2*r+1:Nat):Int) 1=((2*r+2:Nat):Int):=by rw[aX (by omega) (by omega)];push_cast;rfl
  have W:aT .i64 (first:Int) ((2*r+1:Nat):Int)=((first+(2*r+1):Nat):Int):=by rw[aX (by omega) (by omega)];push_cast;rfl
  have Y:aT .i64 ((first+(2*r+1):Nat):Int) 1=((first+(2*r+2):Nat):Int):=by rw[aX (by omega) (by omega)];push_cast;omega
  rw[al,W,Y];refine dB (λt vs h'=>t=0/\∃c:Nat,vs=[aH c]/\(c=2*r+1\/c=2*r+2)/\c<hi/\Ext d h'/\iV n h' s b/\∀f,(f=2*r+1\/f=2*r+2)->f<hi->ky b (first+f)<=ky b (first+c)) ?_ ?_
  .refine dB (λt vs h'=>t=0/\∃O:Bool,vs=[.bool O]/\Ext d h'/\iV n h' s b/\(O=true↔2*r+2<hi/\ky b (first+(2*r+1))<ky b (first+(2*r+2)))) (aE (λj=>?_) λj=>?_) ?_
   .rw[aU]at j
    refine FO C o1 (B.kb kb) rfl rfl (by omega) (by omega) λg D o2=>aC ⟨rfl,_,rfl,D,o2,?_⟩;rw[aU];dsimp only;omega
   .rw[aY]at j
    exact aC ⟨rfl,false,rfl,Ext.refl _,o1,⟨λv=>(by cases v),λv=>by omega⟩⟩
   .rintro t vs g ⟨rfl,O,rfl,D,o2,I⟩
    refine bE (gF (aE (λj=>?_) λj=>?_))
    .dsimp only at j
     have j:=I.1 j;refine aC ⟨rfl,2*r+2,rfl, .inr rfl,j.1,D,o2,λf d g=>?_⟩;rcases d with rfl|rfl
     .omega
     .exact kR _
    .have hn:¬(2*r+2<hi/\ky b (first+(2*r+1))<ky b (first+(2*r+2))):=λv=>by dsimp only at j;rw[I.2 v]at j;cases j
     refine aC ⟨rfl,2*r+1,rfl, .inl rfl,U,D,o2,λf d g=>?_⟩;rcases d with rfl|rfl
     .exact kR _
     .omega
  rintro t vs g ⟨rfl,c,rfl,V,J,D,o2,H⟩;refine bE (fI ?_);dsimp only;have ab:aT .i64 (first:Int) (r:Int)=((first+r:Nat):Int):=by rw[aX (by omega) (by omega)];push_cast;rfl
  have Z:aT .i64 (first:Int) (c:Int)=((first+c:Nat):Int):=by rw[aX (by omega) (by omega)];push_cast;rfl
  rw[ab,Z];refine FO C o2 (B.kb kb) rfl rfl (by omega) (by omega) λm T o3=>?_;dsimp only;refine aE (λj=>?_) λj=>?_
  .rw[dF,aY]at j
   refine aC ⟨λv=>absurd v (by decide),λ_=>⟨.inr rfl,rfl,b,o3,B,(c1.ext D).ext T,λi f d g m=>?_⟩⟩;by_cases K:i=r
   .subst K
    have:=H f g m;dsimp only;omega
   .exact H1 i f d K g m
  .rw[eC,aU]at j
   refine CA (p:=first+c) (q:=first+r) o3 rfl rfl (by omega) (by omega) λE o4 c4=>?_;have aw:=Ks (l:=b) (p:=first+c) (q:=first+r) (by omega) (by omega);have F:∀i,ky (Lp b (first+c) (first+r)) (first+i)=if i=c then ky b (first+r) else if i=r then ky b (first+c) else ky b (first+i):=λi=>by
    rw[aw];by_cases d:i=c
    .rw[if_pos d,if_pos (by omega)]
    .rw[if_neg d,if_neg (by omega)]
     by_cases g:i=r
     .rw[if_pos g,if_pos (by omega)]
     .rw[if_neg g,if_neg (by omega)]
   refine aC ⟨λ_=>⟨((c:Int),()),rfl,⟨c,_,rfl,by omega, .inl J,o4,B.trans (CB (by omega) (by omega) (by omega) (by omega)),((c1.ext D).ext T).trans c4 λ_ _ x=>x,λi f d g m E=>?_,λp f d g m E=>?_⟩,by dsimp only;omega⟩,λv=>absurd rfl v⟩
   .rw[F,F,if_neg g]
    by_cases G:i=r
    .subst G
     rw[if_pos rfl];by_cases A:f=c
     .rw[if_pos A];omega
     .rw[if_neg A,if_neg (by omega)];exact H f m E
    .rw[if_neg G,if_neg (show ¬f=c by omega)]
     by_cases A:f=r
     .rw[if_pos A]
      subst A;exact H2 i c d m V J
     .rw[if_neg A];exact H1 i f d G m E
   .have ao:p=r:=by omega
    subst ao;rw[F,F,if_neg (show ¬f=c by omega),if_neg (show ¬f=p by omega),if_neg (show ¬p=c by omega),if_pos rfl];exact H1 c f (by omega) (by omega) m E
 .rintro t vs d ⟨ht,rfl,b,o1,B,c1,H1⟩
  rcases ht with rfl|rfl
  .exact bE (bO (aC ⟨rfl,c1,(),b,rfl,o1,B,H1⟩))
  .exact nP (by decide) (bE (bO (aC ⟨rfl,c1,(),b,rfl,o1,B,H1⟩)))
theorem UL(C:Sf P S){n b:Nat}(o:iV n h s l)(kb:Kb l)(DN:a<b)(hb:b<=l.length)(hl:l.length<=1073741824) :
  tL P (gS S s (a:Int) (b:Int) (Iq S)) [] n s a b l h λ_ l'=>KL a b l':=by
 unfold gS tL;obtain⟨hi,rfl⟩:∃hi,b=a+hi:=⟨b-a,by omega⟩;have al:bJ .i64 ((a+hi:Nat):Int) (a:Int)=(hi:Int):=by rw[bY (by omega) (by omega)];push_cast;omega
 have a0:bJ .i64 (hi:Int) 1=((hi-1:Nat):Int):=by rw[bY (by omega) (by omega)];omega
 have H:kP .i64 ((hi-1:Nat):Int) 2=(((hi-1) / 2:Nat):Int):=by rw[Rl (by omega) (by omega) (by omega)];push_cast;rfl
 rw[al,a0,H];refine pE ?_;refine bL (λ(q:Int×Unit) h'=>∃(m:Nat) (A:iO),q.1=(m:Int)-1/\m<=(hi-1) / 2+1/\iV n h' s A/\Sg a (a+hi) l A/\aV (fY s) h h'/\Hp (λi=>ky A (a+i)) hi m) (λq _=>(q.1+1).toNat)
  (λt vs h'=>t=2/\vs=[]/\∃A,iV n h' s A/\Sg a (a+hi) l A/\aV (fY s) h h'/\Hp (λi=>ky A (a+i)) hi 0)
  ⟨(hi-1) / 2+1,l,by push_cast;omega,bM _,o,Sg.refl _ _ _,aV.refl _ _,λi c r g D=>by omega⟩ ?_ ?_
 .rintro⟨(q:Int),u⟩ r ⟨m,A,H,hm,o1,J,c1,H1⟩
  dsimp only at H⊢;subst H;have a2:=J.len;refine aE (λF=>?_) λF=>?_
  .rw[dD]at F
   obtain⟨d,rfl⟩:∃d,m=d+1:=⟨m-1,by omega⟩;have O:((d+1:Nat):Int)-1=(d:Int):=by omega
   rw[O];refine qD (MV C (lo:=d) (hi:=hi) (first:=a) o1 (J.kb kb) (by omega) (by omega) (by omega) λi c r g D=>H1 i c (by omega) g D) λ_ f g c2 o2 E T=>?_;rw[bY (by omega) (by omega)];exact aC ⟨λ_=>⟨((d:Int)-1,()),rfl,⟨d,f,rfl,by omega,o2,J.trans (E.mono (by omega) (by omega)),c1.trans c2 λ_ _ x=>x,T⟩,by dsimp only;omega⟩,λG=>absurd rfl G⟩
  .rw[eR]at F
   have:m=0:=by omega
   subst this;exact aC ⟨λG=>absurd G (by decide),λ_=>⟨rfl,rfl,A,o1,J,c1,H1⟩⟩
 rintro t vs r ⟨rfl,rfl,A,o1,J,c1,H1⟩;refine bE (bO ?_);refine bL (λ(q:Int×Unit) h'=>∃(m:Nat) (f:iO),q.1=(m:Int)-1/\m<=hi/\iV n h' s f/\Sg a (a+hi) l f/\aV (fY s) h h'/\Hp (λi=>ky f (a+i)) m 0/\KL (a+m) (a+hi) f/\∀i j,i<m->m<=j->j<hi->ky f (a+i)<=ky f (a+j)) (λq _=>(q.1+1).toNat)
  (λt vs h'=>t=4/\vs=[]/\∃f,iV n h' s f/\Sg a (a+hi) l f/\aV (fY s) h h'/\KL a (a+hi) f)
  ⟨hi,A,by omega,bM _,o1,J,c1,H1,λi j r g D=>by omega,λi j r g D=>by omega⟩ ?_ ?_
 .rintro⟨(q:Int),u⟩ g ⟨m,f,H,hm,o2,E,c2,T,t2,b2⟩
  dsimp only at H⊢;subst H;have a3:=E.len;refine aE (λF=>?_) λF=>?_
  .rw[dD]at F
   obtain⟨d,rfl⟩:∃d,m=d+1:=⟨m-1,by omega⟩;have O:((d+1:Nat):Int)-1=(d:Int):=by omega
   rw[O];have ao:aT .i64 (a:Int) (d:Int)=((a+d:Nat):Int):=by rw[aX (by omega) (by omega)];push_cast;rfl
   rw[ao];refine CA (p:=a+d) (q:=a) o2 rfl rfl (by omega) (by omega) λD o3 c3=>?_;have a1:=Ks (l:=f) (p:=a+d) (q:=a) (by omega) (by omega);have B:∀i,ky (Lp f (a+d) a) (a+i)=if i=d then ky f (a+0) else if i=0 then ky f (a+d) else ky f (a+i):=λi=>by
    rw[a1];by_cases r:i=d
    .rw[if_pos r,if_pos (by omega)];rfl
    .rw[if_neg r,if_neg (by omega)]
     by_cases g:i=0
     .rw[if_pos g,if_pos (by omega)]
     .rw[if_neg g,if_neg (by omega)]
   have R:Sg a (a+hi) f (Lp f (a+d) a):=CB (by omega) (by omega) (by omega) (by omega);have a4:=R.len;refine qD (MV C (lo:=0) (hi:=d) (first:=a) o3 (R.kb (E.kb kb)) (by omega) (by omega) (by omega) λi c r g D=>?_) λ_ V h4 c4 o4 Z H4=>?_
   .rw[B,B,if_neg (by omega),if_neg (by omega),if_neg (by omega),if_neg (by omega)]
    exact T i c (cN _) g (by omega)
   .rw[bY (by omega) (by omega)]
    have top:=Hp.top T;have I:∀i,d<=i->ky V (a+i)=ky (Lp f (a+d) a) (a+i):=λi aw=>by
     show(el V (a+i)).1=(el _ (a+i)).1;rw[Z.out _ (by omega)]
    have ab:∀i,i<d->ky V (a+i)<=ky f (a+0):=λi aw=>by
     refine Z.all (p:=λe=>e.1<=ky f (a+0)) (by omega) (by omega) (λj r g=>?_) (a+i) (by omega) (by omega);obtain⟨v,rfl⟩:∃v,j=a+v:=⟨j-a,by omega⟩;show ky (Lp f (a+d) a) (a+v)<=_;rw[B,if_neg (by omega)];by_cases h0:v=0
     .rw[if_pos h0];exact top d (by omega)
     .rw[if_neg h0];exact top v (by omega)
    have K:∀i j,i<d+1->d+1<=j->j<hi->ky f (a+i)<=ky f (a+j):=b2;refine aC ⟨λ_=>⟨((d:Int)-1,()),rfl,⟨d,V,rfl,by omega,o4,(E.trans R).trans (Z.mono (by omega) (by omega)),(c2.trans c3 λ_ _ x=>x).trans c4 λ_ _ x=>x,H4,λi j r g D=>?_,λi j r g D=>?_⟩,by dsimp only;omega⟩,λG=>absurd rfl G⟩
    .obtain⟨U,rfl⟩:∃U,i=a+U:=⟨i-a,by omega⟩
     obtain⟨v,rfl⟩:∃v,j=a+v:=⟨j-a,by omega⟩;rw[I U (by omega),I v (by omega),B,B,if_neg (show ¬v=d by omega),if_neg (show ¬v=0 by omega)];by_cases W:U=d
     .rw[if_pos W];exact K 0 v (by omega) (by omega) (by omega)
     .rw[if_neg W,if_neg (by omega)];exact t2 _ _ (by omega) (by omega) (by omega)
    .rw[I j (by omega),B]
     have:=ab i r;by_cases Y:j=d
     .rw[if_pos Y];exact this
     .rw[if_neg Y,if_neg (by omega)]
      exact GF this (K 0 j (by omega) (by omega) D)
  .rw[eR]at F
   have:m=0:=by omega
   subst this;exact aC ⟨λG=>absurd G (by decide),λ_=>⟨rfl,rfl,f,o2,E,c2,t2⟩⟩
 rintro t vs g ⟨rfl,rfl,f,o2,E,c2,t2⟩;exact bE (bO (aC ⟨rfl,c2,(),f,rfl,o2,E,t2⟩))
end
section
variable{P:Program}{S:cH}{h:aG}{Q:Nat->bG->aG->Prop}
variable{a x:Nat}{s:Sl}{l:iO}{z y:Int}
theorem MR(C:Sf P S){n m b:Nat}{w:Addr}(o:iV n h s l)(kb:Kb l)(ha:a<l.length)(hb:b<l.length)(ow:cA m 1 h ⟨some w,1,1⟩ [aH z])(ne:¬fY s w.block) :
  wp P (fB S s (a:Int) (b:Int) (some w) (Iq S)) h λt vs h'=>t=0/\aV (λi=>i=w.block) h h'/\∃(p q:Nat) (A:Int),vs=[aH p,aH q]/\((p=a/\q=b)\/(p=b/\q=a))/\iV n h' s l/\cA m 1 h' ⟨some w,1,1⟩ [aH A]:=by
 unfold fB;refine FO C o kb rfl rfl hb ha λg d o1=>?_;have c:=(aV.bD (F:=λ_=>False) d).own ow λ_ _ x=>x;dsimp only;refine aE (λ_=>aL rfl ?_) λ_=>aC ⟨rfl,aV.bD d,a,b,z,rfl, .inl ⟨rfl,rfl⟩,o1,c⟩;refine bC (b:=bI) w z rfl (by have:=aI.1 c.cells 0 _ rfl;rw[add_zero']at this;exact this) (aL rfl ?_);refine Ak [aH (aT .i64 z 1)] c rfl (by intro v r;rw[dE.1 r];rfl) λj o2 u B=>?_;have c2:aV (λi=>i=w.block) g j:=aV.dK u λx f _=>by cases f;rfl
 exact aC ⟨rfl,aV.pre d c2,b,a,_,rfl, .inr ⟨rfl,rfl⟩,c2.own o1 λx f e=>ne ⟨x,f,e⟩,o2⟩
theorem YX(C:Sf P S){n m b c:Nat}{w:Addr}(o:iV n h s l)(kb:Kb l)(ha:a<l.length)(hb:b<l.length)(r:c<l.length)(ow:cA m 1 h ⟨some w,1,1⟩ [aH z])(ne:¬fY s w.block) :
  wp P (fT S s (a:Int) (b:Int) (c:Int) (some w) (Iq S)) h λt vs h'=>t=0/\aV (λi=>i=w.block) h h'/\∃(p:Nat) (E:Int),vs=[aH p]/\(p=a\/p=b\/p=c)/\iV n h' s l/\cA m 1 h' ⟨some w,1,1⟩ [aH E]:=by
 unfold fT;refine eG (MR C o kb ha hb ow ne) λt vs G d=>?_;obtain⟨rfl,c1,v,B,O,rfl,d1,o1,f⟩:=d;refine⟨rfl,(_,_,()),rfl,?_⟩;refine eG (MR (a:=B) (b:=c) C o1 kb (by omega) r f ne) λt vs H d=>?_;obtain⟨rfl,c2,A,K,R,rfl,d2,o2,g⟩:=d;refine⟨rfl,(_,_,()),rfl,?_⟩;refine eG (MR (a:=v) (b:=A) C o2 kb (by omega) (by omega) g ne) λt vs I d=>?_;obtain⟨rfl,c3,J,D,F,rfl,d3,u,j⟩:=d;exact⟨rfl,(_,_,()),rfl,aC ⟨rfl,(c1.trans c2 λ_ _ x=>x).trans c3 λ_ _ x=>x,D,F,rfl,by omega,u,j⟩⟩
theorem OK(C:Sf P S){n b:Nat}(o:iV n h s l)(kb:Kb l)(U:a+8<=b)(R:b<a+50)(hb:b<=l.length)(V:l.length<=1073741824) :
  aS P (fX S s (a:Int) (b:Int) (Iq S)) [tI, tI] h λ(y:Int×Int×Unit) _=>∃p:Nat,y.1=p/\a<=p/\p<b:=by
 unfold fX aS;refine jG (k:=.i64) [0] (by intro x d;rw[dE.1 d];exact qF _) (by decide) λr g o1=>pE (pE (pE ?_));have G:iV n r s l:=(aV.bD (F:=λ_=>False) g).own o λ_ _ x=>x;have ow:cA h.size 1 r ⟨some ⟨h.size,0,none⟩,1,1⟩ [aH 0]:=o1.own;have ne:¬fY s h.size:=λ⟨x,d,e⟩=>by have:=(o.lt d).2;omega
 have u:bJ .i64 (b:Int) (a:Int)=((b-a:Nat):Int):=by rw[bY (by omega) (by omega)];omega
 have K:kP .i64 ((b-a:Nat):Int) 4=(((b-a) / 4:Nat):Int):=by rw[Rl (by omega) (by omega) (by omega)];push_cast;rfl
 rw[u,K];have hm:∀k:Nat,k<=3->aT .i64 (a:Int) (qV .i64 (((b-a) / 4:Nat):Int) (k:Int))=((a+(b-a) / 4*k:Nat):Int):=λk J=>by
  have r:(b-a) / 4*k<=(b-a) / 4*3:=Nat.mul_le_mul_left _ J;have f:((((b-a) / 4:Nat):Int))*(k:Int)=(((b-a) / 4*k:Nat):Int):=by push_cast;rfl
  rw[DU (by rw[f];omega) (by rw[f];omega),f,aX (by omega) (by omega)];push_cast;rfl
 have B:=hm 1 (by omega);have D:=hm 2 (by omega);have E:=hm 3 (by omega);refine dB (λt vs h'=>t=0/\∃(p:Nat) (z:Int),vs=[aH p]/\a<=p/\p<b/\aV (λi=>i=h.size) r h'/\cA h.size 1 h' ⟨some ⟨h.size,0,none⟩,1,1⟩ [aH z]) ?_ ?_
 .refine aE (λv=>?_) λv=>?_
  .refine gA (tys:=[tI, tI, tI]) (λ(y:Int×Int×Int×Unit) _=>y=(((a+(b-a) / 4*1:Nat):Int),((a+(b-a) / 4*2:Nat):Int),((a+(b-a) / 4*3:Nat):Int),())) (aE (λA=>?_) λA=>aC ⟨rfl,Ext.refl _,(_,_,_,()),rfl,?_⟩) λy f c O=>?_
   .rw[dD]at A;omega
   .exact Prod.ext B (Prod.ext D (Prod.ext E rfl))
   .subst O
    dsimp only;refine eG (YX C ((aV.bD (F:=λ_=>False) c).own G λ_ _ x=>x) kb (by omega) (by omega) (by omega) ((aV.bD (F:=λ_=>False) c).own ow λ_ _ x=>x) ne) λt vs T d=>?_;obtain⟨rfl,c3,p,z,rfl,W,Y,I⟩:=d;exact⟨rfl,(_,()),rfl,aC ⟨rfl,p,z,rfl,by omega,by omega,aV.pre c c3,I⟩⟩
  .rw[eR]at v;omega
 .rintro t vs f ⟨rfl,p,z,rfl,j,m,c2,H⟩
  have c:Ext h f:=⟨dI g.1 c2.1,λi hi=>by rw[c2.2.1 i (mK hi g.1) (by omega)];exact g.2.1 i hi,λx d=>c2.2.2 x (g.2.2 x d)⟩;refine bE (fI (bC (b:=bI) ⟨h.size,0,none⟩ z rfl (by have:=aI.1 H.cells 0 _ rfl;rw[add_zero']at this;exact this) ?_));exact aE (λ_=>aC ⟨rfl,c,(_,_,()),rfl,p,rfl,j,m⟩) λ_=>aE (λ_=>aC ⟨rfl,c,(_,_,()),rfl,p,rfl,j,m⟩) λ_=>aC ⟨rfl,c,(_,_,()),rfl,p,rfl,j,m⟩
theorem Xj{n b:Nat}{cmp:Value}(o:iV n h s l)(DN:a<=b)(D:1<=b)(hb:b<=l.length)(H:l.length<=1073741824) :
  tL P (fQ S s (a:Int) (b:Int) cmp) [] n s a b l h λ_ _=>True:=by
 unfold fQ tL;have r:bJ .i64 (b:Int) 1=((b-1:Nat):Int):=by rw[bY (by omega) (by omega)];omega
 rw[r];refine bL (λ(q:Int×Int×Unit) h'=>∃(i j:Nat) (c:iO),q.1=(i:Int)/\q.2.1=(j:Int)/\a<=i/\j<b/\iV n h' s c/\Sg a b l c/\aV (fY s) h h') (λq _=>q.2.1.toNat)
  (λt vs h'=>t=2/\vs=[]/\∃c,iV n h' s c/\Sg a b l c/\aV (fY s) h h') ⟨a,b-1,l,rfl,rfl,bM _,by omega,o,Sg.refl _ _ _,aV.refl _ _⟩ ?_ ?_
 .rintro⟨(I:Int),(J:Int),u⟩ B ⟨i,j,c,hi,m,E,F,o1,d,c1⟩
  dsimp only at hi m⊢;subst hi;subst m;have C:=d.len;refine aE (λg=>?_) λg=>?_
  .rw[aU]at g
   refine CA (p:=j) (q:=i) o1 rfl rfl (by omega) (by omega) λG o2 c2=>?_;have v:aT .i64 (i:Int) 1=((i+1:Nat):Int):=by rw[aX (by omega) (by omega)];push_cast;rfl
   have A:bJ .i64 (j:Int) 1=((j-1:Nat):Int):=by rw[bY (by omega) (by omega)];omega
   rw[v,A];exact aC ⟨λ_=>⟨(((i+1:Nat):Int),((j-1:Nat):Int),()),rfl,⟨i+1,j-1,_,rfl,rfl,by omega,by omega,o2,d.trans (CB (by omega) (by omega) (by omega) (by omega)),c1.trans c2 λ_ _ x=>x⟩,by dsimp only;omega⟩,λf=>absurd rfl f⟩
  .exact aC ⟨λf=>absurd f (by decide),λ_=>⟨rfl,rfl,c,o1,d,c1⟩⟩
 .rintro t vs B ⟨rfl,rfl,c,o1,d,c1⟩
  exact bE (bO (aC ⟨rfl,c1,(),c,rfl,o1,d,trivial⟩))
def La(x:Nat)(y:Int):Bool:=decide (0<=y) && decide (y<=7) && decide (x<2^y.toNat) && (decide (x=0) || decide (2^y.toNat<=2*x))
theorem uq{T:ByteArray}(b:∀x:Fin 64,La x.val (DC T (x.val:Int))=true)(c:x<64):La x (DC T (x:Int))=true:=b ⟨x,c⟩
theorem Pz(h:La x y=true):0<=y/\y<=7/\x<2^y.toNat/\(x=0\/2^y.toNat<=2*x):=by
 unfold La at h;simp only[iL,KE,decide_eq_true_iff]at h;exact⟨h.1.1.1,h.1.1.2,h.1.2,h.2⟩
theorem YG(p:x<64):aS P (pS S (x:Int)) [tI] h λ(y:Int×Unit) _=>La x y.1=true:=by
 unfold pS aS;refine aM (R:=λ(y:Int×Unit) _=>La x y.1=true) ?_ λ⟨(y:Int),_⟩ d f c=>aC ⟨rfl,f,(y,()),rfl,c⟩;unfold vM aS;refine gA (tys:=[.one (.int .u64), tI]) (λ(y:Int×Int×Unit) _=>y=((x:Int),0,())) (aE (λb=>?_) λb=>aC ⟨rfl,Ext.refl _,((x:Int),0,()),rfl,rfl⟩) λy d f c=>?_
 .rw[dD]at b;omega
 subst c;dsimp only;refine gA (tys:=[.one (.int .u64), tI]) (λ(y:Int×Int×Unit) _=>y=((x:Int),0,())) (aE (λb=>?_) λb=>aC ⟨rfl,Ext.refl _,((x:Int),0,()),rfl,rfl⟩) λy m g c=>?_
 .rw[dD]at b;omega
 subst c;dsimp only;refine gA (tys:=[.one (.int .u64), tI]) (λ(y:Int×Int×Unit) _=>y=((x:Int),0,())) (aE (λb=>?_) λb=>aC ⟨rfl,Ext.refl _,((x:Int),0,()),rfl,rfl⟩) λy r j c=>?_
 .rw[dD]at b;omega
 subst c;dsimp only;rw[BX (a:=(x:Int)) (by omega) (by omega)];refine aL (kN.2 ⟨by omega,by omega⟩) ?_;have key:∀{T:ByteArray},(∀x:Fin 64,La x.val (DC T (x.val:Int))=true)->La x (aT .i64 0 (dC .i64 (DC T (x:Int))))=true:=λo=>by
  have d:=uq o p;have m:=Pz d;rw[mQ (by omega) (by omega),aX (by omega) (by omega),Int.zero_add];exact d
 exact aC ⟨rfl,(f.trans g).trans j,(_,()),rfl,key (by decide +kernel)⟩
theorem jq(h0:0<=y)(h1:y<=7):GO .u64 1 y=((2^y.toNat:Nat):Int):=by
 obtain⟨k,rfl⟩:=CI h0;have b:k<=7:=by omega
 match k,b with
 |0,_=>decide
 |1,_=>decide
 |2,_=>decide
 |3,_=>decide
 |4,_=>decide
 |5,_=>decide
 |6,_=>decide
 |7,_=>decide
theorem d_(b:x<64):dC .u64 (x:Int)=(x:Int):=by
 have:∀y:Fin 64,dC .u64 (y.val:Int)=(y.val:Int):=by decide +kernel
 exact this ⟨x,b⟩
theorem Xc(c:x<64):aS P (kU S (x:Int)) [.one (.int .u64)] h λ(y:Int×Unit) _=>∃k:Nat,k<=7/\y.1=((2^k:Nat):Int)/\x<2^k/\(x=0\/2^k<=2*x):=by
 unfold kU aS;rw[d_ c];refine aM (YG c) λ⟨(y:Int),_⟩ f d b=>?_;have b:=Pz b;have b:0<=y/\y<=7/\x<2^y.toNat/\(x=0\/2^y.toNat<=2*x):=b;dsimp only;refine aL (by rw[dF,aY];exact b.1) ?_;exact aC ⟨rfl,d,(_,()),rfl,y.toNat,by omega,jq b.1 b.2.1,b.2.2⟩
theorem v5{m:Nat}{w:Addr}(ow:cA m 1 h ⟨some w,1,1⟩ [.int .u64 z]):wp P (uC S (some w)) h λt vs h'=>t=0/\aV (λi=>i=w.block) h h'/\∃j:Int,vs=[.int .u64 j]/\cA m 1 h' ⟨some w,1,1⟩ [.int .u64 j]:=by
 unfold uC;have c:∀{g:aG} {z:Int} {K:Int->aK} {Q:Nat->bG->aG->Prop},cA m 1 g ⟨some w,1,1⟩ [.int .u64 z]->wp P (K z) g Q->wp P (bF (aJ (some w))<|.load (.one (.int .u64)) (some w) K) g Q:=λo p=>
  aL rfl (bC (b:=.int .u64) w _ rfl (by have:=aI.1 o.cells 0 _ rfl;rw[add_zero']at this;exact this) p)
 have f:∀{g:aG} {z j:Int} {K:aK} {Q:Nat->bG->aG->Prop},cA m 1 g ⟨some w,1,1⟩ [.int .u64 z]->(∀d,cA m 1 d ⟨some w,1,1⟩ [.int .u64 j]->aV (λi=>i=w.block) g d->wp P K d Q)->wp P (bF (aJ (some w))<|.store (some w) [.int .u64 j] K) g Q:=λo p=>
  aL rfl (Ak [.int .u64 _] o rfl (by intro v u;rw[dE.1 u];rfl) λd B C _=>p d B (aV.dK C λx A _=>by cases A;rfl))
 refine c ow (c ow (pE (f ow λD o1 c1=>c o1 (c o1 (pE (f o1 λE o2 c2=>c o2 (c o2 (pE (f o2 λF r c3=>c r ?_)))))))));exact aC ⟨rfl,(c1.trans c2 λ_ _ x=>x).trans c3 λ_ _ x=>x,_,rfl,r⟩
theorem ff(a:Int){k:Nat}(b:k<=7):0<=uU .u64 a (bJ .u64 ((2^k:Nat):Int) 1)/\uU .u64 a (bJ .u64 ((2^k:Nat):Int) 1)<((2^k:Nat):Int):=by
 have d:bJ .u64 ((2^k:Nat):Int) 1=((2^k-1:Nat):Int):=by
  match k,b with
  |0,_=>decide
  |1,_=>decide
  |2,_=>decide
  |3,_=>decide
  |4,_=>decide
  |5,_=>decide
  |6,_=>decide
  |7,_=>decide
 have c:0<2^k:=Nat.two_pow_pos k;have g:2^k<=2^7:=KH (by decide) b;have f:(2:Nat) ^ 7=128:=rfl;rw[d];unfold uU;have hle:(BitVec.ofInt 64 a &&& BitVec.ofInt 64 ((2^k-1:Nat):Int)).toNat<=2^k-1:=by
  rw[BitVec.toNat_and,zT (2^k-1) (by omega)];exact Nat.and_le_right
 have hw:IntKind.u64.wrap (((BitVec.ofInt 64 a &&& BitVec.ofInt 64 ((2^k-1:Nat):Int)).toNat:Nat):Int)=(((BitVec.ofInt 64 a &&& BitVec.ofInt 64 ((2^k-1:Nat):Int)).toNat:Nat):Int):=by
  generalize(BitVec.ofInt 64 a &&& BitVec.ofInt 64 ((2^k-1:Nat):Int)).toNat=r at hle;have:∀y:Fin 128,IntKind.u64.wrap (y.val:Int)=(y.val:Int):=by decide +kernel
  exact this ⟨r,by omega⟩
 show 0<=IntKind.u64.wrap _/\IntKind.u64.wrap _<_;rw[show IntKind.u64.wrap ((BitVec.ofInt IntKind.u64.bits a &&& BitVec.ofInt IntKind.u64.bits ((2^k-1:Nat):Int)).toNat:Int)=_ from hw];omega
theorem gi{n b:Nat}{cmp:Value}(o:iV n h s l)(h8:a+8<=b)(a6:b<a+50)(hb:b<=l.length)(hl:l.length<=1073741824) :
  tL P (fL S s (a:Int) (b:Int) cmp) [] n s a b l h λ_ _=>True:=by
 unfold fL tL;have R:bJ .i64 (b:Int) (a:Int)=((b-a:Nat):Int):=by rw[bY (by omega) (by omega)];omega
 have hq:kP .i64 ((b-a:Nat):Int) 4=(((b-a) / 4:Nat):Int):=by rw[Rl (by omega) (by omega) (by omega)];push_cast;rfl
 rw[R];refine aE (λhc=>?_) λhc=>by rw[eR]at hc;omega
 refine λel=>?_;have H:Ext h (h.push (.cells [.int .u64 0].toArray el)):=Ext.push ..;have ow:cA h.size 1 (h.push (.cells [.int .u64 0].toArray el)) ⟨some ⟨h.size,0,none⟩,1,1⟩ [.int .u64 0]:=bR rfl (by decide) (by decide);generalize h.push (.cells [.int .u64 0].toArray el)=h1 at H ow⊢;have ne:¬fY s h.size:=λ⟨x,d,e⟩=>by have:=(o.lt d).2;omega
 refine Ak [.int .u64 (dC .u64 ((b-a:Nat):Int))] ow rfl (by intro v hv;rw[dE.1 hv];rfl) λh2 a0 u2 z2=>?_;have c2:aV (λi=>i=h.size) h1 h2:=aV.dK u2 λx d _=>by cases d;rfl
 refine aM (Xc (x:=b-a) (by omega)) λ⟨(pw:Int),_⟩ Z I m=>?_;obtain⟨k,hk,m,a8,a9⟩:=m;have m:pw=((2^k:Nat):Int):=m;subst m;dsimp only;refine pE ?_;rw[hq];have O:aT .i64 (a:Int) (qV .i64 (((b-a) / 4:Nat):Int) 2)=((a+(b-a) / 4*2:Nat):Int):=by
  rw[DU (by omega) (by omega),aX (by omega) (by omega)];push_cast;rfl
 rw[O];obtain⟨j,aw⟩:∃j,j=a+(b-a) / 4*2:=⟨_,rfl⟩;rw[<-aw];have al:bJ .i64 (j:Int) 1=((j-1:Nat):Int):=by rw[bY (by omega) (by omega)];omega
 have ao:aT .i64 (j:Int) 1=((j+1:Nat):Int):=by rw[aX (by omega) (by omega)];push_cast;rfl
 rw[al,ao];have o3:iV n Z s l:=(aV.bD (F:=λ_=>False) I).own (c2.own ((aV.bD (F:=λ_=>False) H).own o λ_ _ x=>x) λx d e=>ne ⟨x,d,e⟩) λ_ _ x=>x;have a1:=(aV.bD (F:=λ_=>False) I).own a0 λ_ _ x=>x
 let F:Nat->Prop:=λi=>fY s i\/i=h.size
 have c3:aV F h Z:=(aV.pre H (c2.mono (G:=F) λi _ e=>.inr e)).ext I;have fin:∀{g:aG},aV F h g->aV (fY s) h g:=λc=>c.mono λi hi A=>by rcases A with A|A;exact A;omega
 refine bL (λ(q:Int×Unit) h'=>∃(i:Nat) (f:iO) (z:Int),q.1=(i:Int)/\j-1<=i/\iV n h' s f/\Sg a b l f/\aV F h h'/\cA h.size 1 h' ⟨some ⟨h.size,0,none⟩,1,1⟩ [.int .u64 z]) (λq _=>((j:Int)+2-q.1).toNat)
  (λt vs h'=>t=2/\vs=[]/\∃f,iV n h' s f/\Sg a b l f/\aV F h h') ⟨j-1,l,_,rfl,bM _,o3,Sg.refl _ _ _,c3,a1⟩ ?_ ?_
 .rintro⟨(q:Int),u⟩ h4 ⟨i,f,z,hi,a7,D,B,C,a2⟩
  dsimp only at hi⊢;subst hi;have a5:=B.len;refine pE (aE (λhd=>?_) λhd=>?_)
  .rw[gE]at hd
   refine eG (v5 a2) λt vs h5 d=>?_;obtain⟨rfl,V,T,rfl,a3⟩:=d;refine⟨rfl,(T,()),rfl,?_⟩;dsimp only;have ha:=ff T hk;generalize uU .u64 T (bJ .u64 ((2^k:Nat):Int) 1)=rr at ha;have hp:(2:Nat) ^ k<=2^7:=KH (by decide) hk;have ba:(2:Nat) ^ 7=128:=rfl;rw[mQ (a:=rr) (by omega) (by omega)];refine gA (tys:=[tI]) (λ(y:Int×Unit) _=>0<=y.1/\y.1<((b-a:Nat):Int)) (aE (λhe=>?_) λhe=>?_) λ⟨(E:Int),_⟩ h6 J r=>?_
   .rw[dD]at he
    rw[bY (by omega) (by omega)];exact aC ⟨rfl,Ext.refl _,(_,()),rfl,by dsimp only;omega,by dsimp only;omega⟩
   .rw[eR]at he
    exact aC ⟨rfl,Ext.refl _,(rr,()),rfl,by dsimp only;omega,by dsimp only;omega⟩
   .have r:0<=E/\E<((b-a:Nat):Int):=r
    obtain⟨ot,rfl⟩:=CI r.1;dsimp only;have ab:aT .i64 (a:Int) (ot:Int)=((a+ot:Nat):Int):=by rw[aX (by omega) (by omega)];push_cast;rfl
    rw[ab];have o6:iV n h6 s f:=(aV.bD (F:=λ_=>False) J).own (V.own D λx d e=>ne ⟨x,d,e⟩) λ_ _ x=>x;have a4:=(aV.bD (F:=λ_=>False) J).own a3 λ_ _ x=>x;refine CA (p:=a+ot) (q:=i) o6 rfl rfl (by omega) (by omega) λh7 o7 W=>?_;have Y:aT .i64 (i:Int) 1=((i+1:Nat):Int):=by rw[aX (by omega) (by omega)];push_cast;rfl
    rw[Y];have U:aV F h4 h7:=((V.mono (G:=F) λi _ e=>.inr e).ext J).trans (W.mono (G:=F) λi _ e=>.inl e) λ_ _ x=>x;exact aC ⟨λ_=>⟨(((i+1:Nat):Int),()),rfl,⟨i+1,_,_,rfl,by omega,o7,B.trans (CB (by omega) (by omega) (by omega) (by omega)),C.trans U λ_ _ x=>x,W.own a4 λx d A=>by cases d;exact ne A⟩,by dsimp only;omega⟩,λK=>absurd rfl K⟩
  .exact aC ⟨λK=>absurd K (by decide),λ_=>⟨rfl,rfl,f,D,B,C⟩⟩
 .rintro t vs h4 ⟨rfl,rfl,f,D,B,C⟩
  exact bE (bO (aC ⟨rfl,fin C,(),f,rfl,D,B,trivial⟩))
end
section
variable{P:Program}{S:cH}{h:aG}{Q:Nat->bG->aG->Prop}
variable{a i0:Nat}{s:Sl}{l:iO}
theorem xw(C:Sf P S){n b:Nat}{jx:Nat}{tg:Nat}{K:Nat->bG->aK}(o:iV n h s l)(kb:Kb l)(ht:tg≠0)(ha:a<l.length)(hj:jx<l.length)(hl:l.length<=1073741824)(D:i0<=jx+1){test:Int->Bool}(f:∀i:Nat,test (i:Int)=true↔i<=jx)
  (Z:∀(i:Nat) (h':aG),Ext h h'->iV n h' s l->i0<=i->i<=jx+1->(∀p,i0<=p->p<i->ky l p<ky l a)->(i<=jx->ky l a<=ky l i)->wp P (K tg [aH i]) h' Q) :
  wp P (.bind (.loop [tI] ((i0:Int),()) λ(r:Int×Unit)=>
   .bind (aR (test r.1) (bF (bN (aJ s.aD) (eV r.1 s.len))<|.load (.agg [.int .i64, .int .i64]) (aB s.aD (aZ (bQ r.1) 2)) λ(I:Int×Int×Unit)=>
     bF (bN (aJ s.aD) (eV (a:Int) s.len))<|.load (.agg [.int .i64, .int .i64]) (aB s.aD (aZ (bQ (a:Int)) 2)) λ(J:Int×Int×Unit)=>
     .kC (Iq S) [.agg #[aH I.1,aH I.2.1], .agg #[aH J.1,aH J.2.1]] [tI] λ(z:Int×Unit)=>.ret 0 [.bool (fH z.1 0)])<|
    .ret 0 [.bool false]) λk vs=>aR (jL k 0) (.cast [tB] vs λ(q:Bool×Unit)=>aR q.1 (.ret 0 [aH (aT .i64 r.1 1)])<|.ret tg [aH r.1]) .fail) K) h Q:=by
 refine bL (λ(q:Int×Unit) h'=>∃i:Nat,q.1=(i:Int)/\i0<=i/\i<=jx+1/\Ext h h'/\iV n h' s l/\∀p,i0<=p->p<i->ky l p<ky l a) (λq _=>((jx:Int)+1-q.1).toNat)
  (λt vs h'=>t=tg/\∃i:Nat,vs=[aH i]/\i0<=i/\i<=jx+1/\Ext h h'/\iV n h' s l/\(∀p,i0<=p->p<i->ky l p<ky l a)/\(i<=jx->ky l a<=ky l i)) ⟨i0,rfl,bM _,D,Ext.refl _,o,λp g A=>by omega⟩ ?_ ?_
 .rintro⟨(q:Int),u⟩ g ⟨i,hi,E,F,B,o1,G⟩
  dsimp only at hi⊢;subst hi;refine dB (λt vs h'=>t=0/\∃v:Bool,vs=[.bool v]/\Ext g h'/\iV n h' s l/\(v=true↔i<=jx/\ky l i<ky l a)) (aE (λc=>?_) λc=>?_) ?_
  .have c:=(f i).1 c
   refine FO C o1 kb rfl rfl (by omega) ha λA j o2=>aC ⟨rfl,_,rfl,j,o2,?_⟩;rw[aU];dsimp only;omega
  .have c:¬i<=jx:=λd=>by rw[(f i).2 d]at c;cases c
   exact aC ⟨rfl,false,rfl,Ext.refl _,o1,⟨λd=>(by cases d),λd=>by omega⟩⟩
  .rintro t vs A ⟨rfl,v,rfl,j,o2,m⟩
   refine bE (gF (aE (λc=>?_) λc=>?_))
   .dsimp only at c
    have c:=m.1 c;have Y:aT .i64 (i:Int) 1=((i+1:Nat):Int):=by rw[aX (by omega) (by omega)];push_cast;rfl
    rw[Y];exact aC ⟨λ_=>⟨(((i+1:Nat):Int),()),rfl,⟨i+1,rfl,by omega,by omega,B.trans j,o2,λp g A=>by
     by_cases H:p=i
     .rw[H];exact c.2
     .exact G p g (by omega)⟩,by dsimp only;omega⟩,λd=>absurd rfl d⟩
   .have hn:¬(i<=jx/\ky l i<ky l a):=λd=>by dsimp only at c;rw[m.2 d]at c;cases c
    exact aC ⟨λd=>absurd d ht,λ_=>⟨rfl,i,rfl,E,F,B.trans j,o2,G,λd=>by omega⟩⟩
 .rintro t vs g ⟨rfl,i,rfl,O,R,T,U,V,W⟩
  exact Z i g T U O R V W
theorem xt(C:Sf P S){n b j0:Nat}{tg:Nat}{K:Nat->bG->aK}(o:iV n h s l)(kb:Kb l)(ht:tg≠0)(ha:a<l.length)(hj:j0<l.length)(hl:l.length<=1073741824)(E:i0<=j0+1)(ab:1<=i0)
  (hk:∀(j:Nat) (h':aG),Ext h h'->iV n h' s l->i0<=j+1->j<=j0->(∀p,j<p->p<=j0->ky l a<=ky l p)->(i0<=j->ky l j<ky l a)->wp P (K tg [aH j]) h' Q) :
  wp P (.bind (.loop [tI] ((j0:Int),()) λ(r:Int×Unit)=>
   .bind (aR (xY (i0:Int) r.1) (bF (bN (aJ s.aD) (eV r.1 s.len))<|.load (.agg [.int .i64, .int .i64]) (aB s.aD (aZ (bQ r.1) 2)) λ(J:Int×Int×Unit)=>
     bF (bN (aJ s.aD) (eV (a:Int) s.len))<|.load (.agg [.int .i64, .int .i64]) (aB s.aD (aZ (bQ (a:Int)) 2)) λ(O:Int×Int×Unit)=>
     .kC (Iq S) [.agg #[aH J.1,aH J.2.1], .agg #[aH O.1,aH O.2.1]] [tI] λ(z:Int×Unit)=>.ret 0 [.bool (cU (fH z.1 0))])<|
    .ret 0 [.bool false]) λk vs=>aR (jL k 0) (.cast [tB] vs λ(q:Bool×Unit)=>aR q.1 (.ret 0 [aH (bJ .i64 r.1 1)])<|.ret tg [aH r.1]) .fail) K) h Q:=by
 refine bL (λ(q:Int×Unit) h'=>∃j:Nat,q.1=(j:Int)/\i0<=j+1/\j<=j0/\Ext h h'/\iV n h' s l/\∀p,j<p->p<=j0->ky l a<=ky l p) (λq _=>q.1.toNat)
  (λt vs h'=>t=tg/\∃j:Nat,vs=[aH j]/\i0<=j+1/\j<=j0/\Ext h h'/\iV n h' s l/\(∀p,j<p->p<=j0->ky l a<=ky l p)/\(i0<=j->ky l j<ky l a)) ⟨j0,rfl,E,bM _,Ext.refl _,o,λp f m=>by omega⟩ ?_ ?_
 .rintro⟨(q:Int),u⟩ f ⟨j,A,F,G,D,o1,H⟩
  dsimp only at A⊢;subst A;refine dB (λt vs h'=>t=0/\∃B:Bool,vs=[.bool B]/\Ext f h'/\iV n h' s l/\(B=true↔i0<=j/\ky l a<=ky l j)) (aE (λc=>?_) λc=>?_) ?_
  .rw[gE]at c
   refine FO C o1 kb rfl rfl (by omega) ha λm g o2=>aC ⟨rfl,_,rfl,g,o2,?_⟩;rw[dF,aY];dsimp only;omega
  .rw[mN]at c
   exact aC ⟨rfl,false,rfl,Ext.refl _,o1,⟨λd=>(by cases d),λd=>by omega⟩⟩
  .rintro t vs m ⟨rfl,B,rfl,g,o2,v⟩
   refine bE (gF (aE (λc=>?_) λc=>?_))
   .dsimp only at c
    have c:=v.1 c;have Z:bJ .i64 (j:Int) 1=((j-1:Nat):Int):=by rw[bY (by omega) (by omega)];omega
    rw[Z];exact aC ⟨λ_=>⟨(((j-1:Nat):Int),()),rfl,⟨j-1,rfl,by omega,by omega,D.trans g,o2,λp f m=>by
     by_cases I:p=j
     .rw[I];exact c.2
     .exact H p (by omega) m⟩,by dsimp only;omega⟩,λd=>absurd rfl d⟩
   .have hn:¬(i0<=j/\ky l a<=ky l j):=λd=>by dsimp only at c;rw[v.2 d]at c;cases c
    exact aC ⟨λd=>absurd d ht,λ_=>⟨rfl,j,rfl,F,G,D.trans g,o2,H,λd=>by omega⟩⟩
 .rintro t vs f ⟨rfl,j,rfl,R,T,U,V,W,Y⟩
  exact hk j f U V R T W Y
def J1(a b m:Nat)(l:iO):Prop:=a<=m/\m<b/\(∀i,a<=i->i<m->ky l i<=ky l m)/\∀i,m<i->i<b->ky l m<=ky l i
theorem NZ{b i j:Nat}(DN:a<b)(hb:b<=l.length)(u:i=j+1)(t:a+1<=i)(o:j<b)(h1:∀p,a+1<=p->p<i->ky l p<ky l a)(r:∀p,j<p->p<b->ky l a<=ky l p):J1 a b j (Lp l a j):=by
 have c:=Ks (l:=l) (p:=a) (q:=j) (by omega) (by omega);refine⟨by omega,o,λp f g=>?_,λp f g=>?_⟩
 .rw[c,c,if_neg (show ¬j=a by omega),if_pos rfl]
  by_cases m:p=a
  .rw[if_pos m];exact Int.le_of_lt (h1 j (by omega) (by omega))
  .rw[if_neg m,if_neg (by omega)];exact Int.le_of_lt (h1 p (by omega) (by omega))
 .rw[c p,if_neg (by omega),if_neg (by omega)]
  have:ky (Lp l a j) j=ky l a:=by
   rw[c];by_cases d:j=a
   .rw[if_pos d,d]
   .rw[if_neg d,if_pos rfl]
  rw[this];exact r p f g
theorem SM(C:Sf P S){n b pv:Nat}(o:iV n h s l)(kb:Kb l)(bt:a<=pv)(b0:pv<b)(hb:b<=l.length)(hl:l.length<=1073741824) :
  tL P (gK S s (a:Int) (b:Int) (pv:Int) (Iq S)) [tI, tB] n s a b l h λ(y:Int×Bool×Unit) l'=>∃m:Nat,y.1=m/\J1 a b m l':=by
 unfold gK tL;refine CA (p:=pv) (q:=a) o rfl rfl (by omega) (by omega) λd o1 c1=>?_;have R:Sg a b l (Lp l pv a):=CB (by omega) (by omega) (by omega) (by omega);generalize Lp l pv a=D at o1 R;have bd:=R.len;have a1:=R.kb kb;have ea:aT .i64 (a:Int) 1=((a+1:Nat):Int):=by rw[aX (by omega) (by omega)];push_cast;rfl
 have eb:bJ .i64 (b:Int) 1=((b-1:Nat):Int):=by rw[bY (by omega) (by omega)];omega
 rw[ea,eb];have a4:∀jx i:Nat,xY (i:Int) (jx:Int)=true↔i<=jx:=λjx i=>by rw[gE];omega
 refine xw C (b:=b) (i0:=a+1) (jx:=b-1) (tg:=2) o1 a1 (by decide) (by omega) (by omega) (by omega) (by omega) (test:=λx=>xY x ((b-1:Nat):Int)) (a4 (b-1)) λi f e2 o2 ab a7 O E=>?_;refine bE (fI ?_);dsimp only;refine xt C (b:=b) (i0:=i) (j0:=b-1) (tg:=4) o2 a1 (by decide) (by omega) (by omega) (by omega) (by omega) (by omega) λj h3 e3 o3 a9 ba J F=>?_;refine bE (fI ?_);dsimp only;have W:aV (fY s) h h3:=(c1.ext e2).ext e3;refine aE (λH=>?_) λH=>?_
 .rw[dL]at H
  refine CA (p:=a) (q:=j) o3 rfl rfl (by omega) (by omega) λh4 V c4=>?_;refine aC ⟨rfl,W.trans c4 λ_ _ x=>x,((j:Int),true,()),_,rfl,V,R.trans (CB (by omega) (by omega) (by omega) (by omega)),j,rfl,?_⟩;exact NZ (by omega) (by omega) (i:=i) (by omega) ab (by omega) O λp d f=>J p d (by omega)
 rw[gD]at H;have a8:i<j:=by
  have d:=E (by omega);have f:=F (by omega);by_cases he:i=j
  .subst he;omega
  .omega
 refine CA (p:=j) (q:=i) o3 rfl rfl (by omega) (by omega) λh4 V c4=>?_;have B:=Ks (l:=D) (p:=j) (q:=i) (by omega) (by omega);have g4:Sg a b D (Lp D j i):=CB (by omega) (by omega) (by omega) (by omega);have ei:aT .i64 (i:Int) 1=((i+1:Nat):Int):=by rw[aX (by omega) (by omega)];push_cast;rfl
 have ej:bJ .i64 (j:Int) 1=((j-1:Nat):Int):=by rw[bY (by omega) (by omega)];omega
 rw[ei,ej];have a6:aV (fY s) h h4:=W.trans c4 λ_ _ x=>x;have I:(∀p,a+1<=p->p<i+1->ky (Lp D j i) p<ky (Lp D j i) a)/\∀p,j-1<p->p<b->ky (Lp D j i) a<=ky (Lp D j i) p:=by
  have K:ky (Lp D j i) a=ky D a:=by rw[B,if_neg (by omega),if_neg (by omega)]
  rw[K];refine⟨λp d f=>?_,λp d f=>?_⟩
  .rw[B,if_neg (by omega)]
   by_cases v:p=i
   .rw[if_pos v];exact F (by omega)
   .rw[if_neg v];exact O p d (by omega)
  .rw[B]
   by_cases A:p=j
   .rw[if_pos A];exact E (by omega)
   .rw[if_neg A,if_neg (by omega)];exact J p (by omega) (by omega)
 generalize Lp D j i=l4 at V g4 I;have Z:=R.trans g4;have bo:=Z.len;refine bL (λ(q:Int×Int×Unit) h'=>∃(i j:Nat) (c:iO),q.1=(i:Int)/\q.2.1=(j:Int)/\a+2<=i/\i<=j+1/\j<b/\iV n h' s c/\Sg a b l c/\aV (fY s) h h'/\(∀p,a+1<=p->p<i->ky c p<ky c a)/\∀p,j<p->p<b->ky c a<=ky c p) (λq _=>(q.2.1+2-q.1).toNat)
  (λt vs h'=>t=6/\∃(j:Nat) (c:iO),vs=[aH j]/\a+1<=j/\j<b/\iV n h' s c/\Sg a b l c/\aV (fY s) h h'/\(∀p,a+1<=p->p<j+1->ky c p<ky c a)/\∀p,j<p->p<b->ky c a<=ky c p)
  ⟨i+1,j-1,l4,rfl,rfl,by omega,by omega,by omega,V,Z,a6,I.1,λp d f=>I.2 p (by omega) f⟩ ?_ ?_
 .rintro⟨(qi:Int),(qj:Int),u⟩ h5 ⟨i,j,c,aw,a0,bp,a8,ao,o5,G,c5,U,T⟩
  dsimp only at aw a0⊢;subst aw;subst a0;have a5:=G.len;have a2:=G.kb kb;refine xw C (b:=b) (i0:=i) (jx:=j) (tg:=8) o5 a2 (by decide) (by omega) (by omega) (by omega) (by omega) (test:=λx=>xY x (j:Int)) (a4 j) λg h6 e6 o6 ab a7 O E=>?_;refine bE (fI ?_);dsimp only;refine xt C (b:=b) (i0:=g) (j0:=j) (tg:=10) o6 a2 (by decide) (by omega) (by omega) (by omega) (by omega) (by omega) λr h7 e7 o7 a9 ba J F=>?_;refine bE (fI ?_);dsimp only;have Y:aV (fY s) h h7:=(c5.ext e6).ext e7;have a3:∀p,a+1<=p->p<g->ky c p<ky c a:=λp d f=>by
   by_cases v:p<i
   .exact U p d v
   .exact O p (by omega) f
  have al:∀p,r<p->p<b->ky c a<=ky c p:=λp d f=>by
   by_cases A:j<p
   .exact T p A f
   .exact J p d (by omega)
  refine aE (λH=>?_) λH=>?_
  .rw[dL]at H
   exact aC ⟨λhh=>absurd hh (by decide),λ_=>⟨rfl,r,c,rfl,by omega,by omega,o7,G,Y,λp d f=>a3 p d (by omega),al⟩⟩
  .rw[gD]at H
   have bb:g<r:=by
    have d:=E (by omega);have f:=F (by omega);by_cases he:g=r
    .subst he;omega
    .omega
   refine CA (p:=r) (q:=g) o7 rfl rfl (by omega) (by omega) λh8 o8 c8=>?_;have B:=Ks (l:=c) (p:=r) (q:=g) (by omega) (by omega);have ei:aT .i64 (g:Int) 1=((g+1:Nat):Int):=by rw[aX (by omega) (by omega)];push_cast;rfl
   have ej:bJ .i64 (r:Int) 1=((r-1:Nat):Int):=by rw[bY (by omega) (by omega)];omega
   rw[ei,ej];have K:ky (Lp c r g) a=ky c a:=by rw[B,if_neg (by omega),if_neg (by omega)]
   refine aC ⟨λ_=>⟨(((g+1:Nat):Int),((r-1:Nat):Int),()),rfl,⟨g+1,r-1,_,rfl,rfl,by omega,by omega,by omega,o8,G.trans (CB (by omega) (by omega) (by omega) (by omega)),Y.trans c8 λ_ _ x=>x,λp d f=>?_,λp d f=>?_⟩,by dsimp only;omega⟩,λhh=>absurd rfl hh⟩
   .rw[K,B,if_neg (by omega)]
    by_cases v:p=g
    .rw[if_pos v];exact F (by omega)
    .rw[if_neg v];exact a3 p d (by omega)
   .rw[K,B]
    by_cases A:p=r
    .rw[if_pos A];exact E (by omega)
    .rw[if_neg A,if_neg (by omega)];exact al p (by omega) f
 .rintro t vs h5 ⟨rfl,j,c,rfl,bs,ao,o5,G,c5,U,T⟩
  have a5:=G.len;refine bE (fI ?_);dsimp only;refine CA (p:=a) (q:=j) o5 rfl rfl (by omega) (by omega) λh6 o6 c6=>?_;refine aC ⟨rfl,c5.trans c6 λ_ _ x=>x,((j:Int),false,()),_,rfl,o6,G.trans (CB (by omega) (by omega) (by omega) (by omega)),j,rfl,?_⟩;exact NZ (by omega) (by omega) (i:=j+1) rfl (by omega) ao U T
theorem Xd(C:Sf P S){n b:Nat}(o:iV n h s l)(kb:Kb l)(DN:a<b)(U:b<a+50)(hb:b<=l.length)(Y:l.length<=1073741824) :
  tL P (eQ S s (a:Int) (b:Int) (Iq S)) [tB] n s a b l h λ(y:Bool×Unit) l'=>y.1=true->KL a b l':=by
 unfold eQ tL;have ea:aT .i64 (a:Int) 1=((a+1:Nat):Int):=by rw[aX (by omega) (by omega)];push_cast;rfl
 have G:bJ .i64 (b:Int) (a:Int)=((b-a:Nat):Int):=by rw[bY (by omega) (by omega)];omega
 rw[ea,G];refine bL (λ(q:Int×Int×Unit) h'=>q=(((a+1:Nat):Int),0,())/\h'=h) (λq _=>0)
  (λt vs h'=>t=1/\Ext h h'/\∃f:Bool,vs=[.bool f]/\iV n h' s l/\(f=true->KL a b l)) ⟨rfl,rfl⟩ ?_ ?_
 .rintro q h' ⟨rfl,rfl⟩
  dsimp only;refine aE (λ_=>?_) λO=>by cases O
  refine dB (λt vs c=>t=1/\Ext h' c/\∃f:Bool,vs=[.bool f]/\iV n c s l/\(f=true->KL a b l)) ?_ ?_
  .refine bL (λ(q:Int×Unit) c=>∃i:Nat,q.1=(i:Int)/\a+1<=i/\i<=b/\Ext h' c/\iV n c s l/\∀p,a<p->p<i->ky l (p-1)<=ky l p) (λq _=>((b:Int)-q.1).toNat)
    (λt vs c=>t=4/\∃i:Nat,vs=[aH i]/\Ext h' c/\iV n c s l/\∀p,a<p->p<i->ky l (p-1)<=ky l p) ⟨a+1,rfl,bM _,by omega,Ext.refl _,o,λp E c=>by omega⟩ ?_ ?_
   .rintro⟨(q:Int),u⟩ c ⟨i,hi,V,W,m,o2,B⟩
    dsimp only at hi⊢;subst hi;have em:bJ .i64 (i:Int) 1=((i-1:Nat):Int):=by rw[bY (by omega) (by omega)];omega
    rw[em];refine dB (λt vs v=>t=0/\∃f:Bool,vs=[.bool f]/\Ext c v/\iV n v s l/\(f=true↔i<b/\ky l (i-1)<=ky l i)) (aE (λg=>?_) λg=>?_) ?_
    .rw[aU]at g
     refine FO C o2 kb rfl rfl (by omega) (by omega) λv A D=>aC ⟨rfl,_,rfl,A,D,?_⟩;rw[dF,aY];dsimp only;omega
    .rw[aY]at g
     exact aC ⟨rfl,false,rfl,Ext.refl _,o2,⟨λj=>(by cases j),λj=>by omega⟩⟩
    .rintro t vs v ⟨rfl,f,rfl,A,D,H⟩
     refine bE (gF (aE (λg=>?_) λg=>?_))
     .dsimp only at g
      have g:=H.1 g;have K:aT .i64 (i:Int) 1=((i+1:Nat):Int):=by rw[aX (by omega) (by omega)];push_cast;rfl
      rw[K];exact aC ⟨λ_=>⟨(((i+1:Nat):Int),()),rfl,⟨i+1,rfl,by omega,by omega,m.trans A,D,λp E c=>by
       by_cases J:p=i
       .rw[J];exact g.2
       .exact B p E (by omega)⟩,by dsimp only;omega⟩,λj=>absurd rfl j⟩
     .exact aC ⟨λj=>absurd j (by decide),λ_=>⟨rfl,i,rfl,m.trans A,D,B⟩⟩
   .rintro t vs c ⟨rfl,i,rfl,m,o2,B⟩
    refine bE (fI ?_);dsimp only;refine aE (λg=>?_) λg=>?_
    .rw[cK]at g
     have I:i=b:=by omega
     subst I;refine aC ⟨rfl,m,true,rfl,o2,λ_ p r E c v=>?_⟩;have key:∀d,p+d<i->ky l p<=ky l (p+d):=λd=>by
      induction d with
      |zero=>intro _;exact kR _
      |succ d T=>
       intro g;have:=B (p+d+1) (by omega) (by omega);rw[Mq]at this;exact GF (T (by omega)) this
     obtain⟨d,rfl⟩:∃d,r=p+d:=⟨r-p,by omega⟩;exact key d v
    .refine aE (λ_=>aC ⟨rfl,m,false,rfl,o2,λj=>by cases j⟩) λR=>?_
     rw[aY]at R;omega
  .rintro t vs c ⟨rfl,m,f,rfl,o2,F⟩
   exact bE (gF (aC ⟨λj=>absurd j (by decide),λ_=>⟨rfl,m,f,rfl,o2,F⟩⟩))
 .rintro t vs c ⟨rfl,m,f,rfl,o2,F⟩
  exact nP (by decide) (bE (gF (aC ⟨rfl,aV.bD m,(f,()),l,rfl,o2,Sg.refl _ _ _,F⟩)))
end
section
variable{P:Program}{S:cH}{h:aG}{Q:Nat->bG->aG->Prop}
variable{a a' b':Nat}{l l':iO}
def Dk(l:iO):Prop:=(l.map (·.1)).Nodup
theorem Sg.dk{b:Nat}(x:Sg a b l l')(d:Dk l):Dk l':=((x.perm.map (λe:Int×Int=>e.1)).nodup_iff).2 d
theorem Dk.ne(d:Dk l){i j:Nat}(hi:i<l.length)(b:j<l.length)(g:i≠j):ky l i≠ky l j:=by
 intro e;have c:l[i]=el l i:=by simp[List.getD,cL hi]
 have f:l[j]=el l j:=by simp[List.getD,cL b]
 have:=Mv.1 d;rw[Se]at this;rcases Nat.lt_or_gt_of_ne g with h|h
 .exact this i j hi b h (by rw[c,f];exact e)
 .exact this j i b hi h (by rw[c,f];exact e.symm)
def Pre(a b:Nat)(l:iO):Prop:=a=0\/∀i,a<=i->i<b->ky l (a-1)<ky l i
structure Rest(a b a' b':Nat)(l:iO):Prop where
 ha:a<=a'
 DN:a'<=b'
 hb:b'<=b
 s1:KL a a' l
 s2:KL b' b l
 lo:∀i j,a<=i->i<a'->a'<=j->j<b->ky l i<=ky l j
 hi:∀i j,a<=i->i<b'->b'<=j->j<b->ky l i<=ky l j
 pre:Pre a' b' l
theorem Rest.sg{b:Nat}(r:Rest a b a' b' l)(g:Sg a' b' l l')(hb:b<=l.length):Rest a b a' b' l':=by
 have out:∀i,i<a'\/b'<=i->ky l' i=ky l i:=λi hi=>by show(el l' i).1=(el l i).1;rw[g.out i hi]
 have t:=r.DN;have C:=r.hb;refine⟨r.ha,r.DN,r.hb,λi j f c d=>?_,λi j f c d=>?_,λi j f c d m=>?_,λi j f c d m=>?_,?_⟩
 .rw[out i (by omega),out j (by omega)];exact r.s1 i j f c d
 .rw[out i (by omega),out j (by omega)];exact r.s2 i j f c d
 .rw[out i (by omega)]
  by_cases u:j<b'
  .exact g.all (p:=λe=>ky l i<=e.1) t (by omega) (λB w1 o=>r.lo i B f c w1 (by omega)) j d u
  .rw[out j (by omega)];exact r.lo i j f c d m
 .rw[out j (by omega)]
  by_cases hi:a'<=i
  .exact g.all (p:=λe=>e.1<=ky l j) t (by omega) (λA w1 o=>r.hi A j (by have:=r.ha;omega) o d m) i hi c
  .rw[out i (by omega)];exact r.hi i j f c d m
 .rcases r.pre with h0|v
  .exact .inl h0
  .by_cases h0:a'=0
   .exact .inl h0
   .right
    intro i w1 o;rw[out (a'-1) (by omega)];exact g.all (p:=λe=>ky l (a'-1)<e.1) t (by omega) v i w1 o
theorem Rest.fin{b:Nat}(r:Rest a b a' b' l)(s:KL a' b' l):KL a b l:=λi j c d f=>by
 by_cases hi:i<a'
 .by_cases g:j<a'
  .exact r.s1 i j c d g
  .exact r.lo i j c hi (by omega) f
 .by_cases m:i<b'
  .by_cases g:j<b'
   .exact s i j (by omega) d g
   .exact r.hi i j c m (by omega) f
  .exact r.s2 i j (by omega) d f
theorem J1.lt{b m:Nat}(p:J1 a b m l)(d:Dk l)(hb:b<=l.length):∀i,m<i->i<b->ky l m<ky l i:=λi c f=>by
 have:=p.2.2.2 i c f;have:=d.ne (i:=m) (j:=i) (by omega) (by omega) (by omega);omega
theorem Rest.left{b m:Nat}(r:Rest a b a' b' l)(p:J1 a' b' m l)(d:Dk l)(hb:b<=l.length)(g:Sg a' m l l')(s:KL a' m l'):Rest a b (m+1) b' l':=by
 have E:=p.1;have I:=p.2.1;have J:=r.ha;have K:=r.hb;have f:=r.sg (g.mono (bM _) (by omega)) hb;have out:∀i,i<a'\/m<=i->ky l' i=ky l i:=λi hi=>by show(el l' i).1=(el l i).1;rw[g.out i hi]
 have o:∀i,a'<=i->i<m->ky l' i<=ky l m:=λi w1 v=>g.all (p:=λe=>e.1<=ky l m) E (by omega) (λG c t=>p.2.2.1 G c t) i w1 v;refine⟨by omega,by omega,r.hb,λi j c t H=>?_,f.s2,λi j c t H D=>?_,f.hi, .inr λi w1 v=>?_⟩
 .by_cases F:j<a'
  .exact f.s1 i j c t F
  .by_cases hi:i<a'
   .exact f.lo i j c hi (by omega) (by omega)
   .by_cases C:j=m
    .rw[C,out m (by omega)];exact o i (by omega) (by omega)
    .exact s i j (by omega) t (by omega)
 .by_cases hi:i<a'
  .exact f.lo i j c hi (by omega) D
  .by_cases B:j<b'
   .rw[out j (by omega)]
    have u:=p.2.2.2 j (by omega) B;by_cases A:i=m
    .rw[A,out m (by omega)];exact u
    .exact GF (o i (by omega) (by omega)) u
   .exact f.hi i j c (by omega) (by omega) D
 .rw[Mq,out m (by omega),out i (by omega)]
  exact p.lt d (by omega) i (by omega) v
theorem Rest.right{b m:Nat}(r:Rest a b a' b' l)(p:J1 a' b' m l)(d:Dk l)(hb:b<=l.length)(g:Sg (m+1) b' l l')(s:KL (m+1) b' l'):Rest a b a' m l':=by
 have G:=p.1;have H:=p.2.1;have I:=r.ha;have J:=r.hb;have f:=r.sg (g.mono (by omega) (bM _)) hb;have out:∀i,i<m+1\/b'<=i->ky l' i=ky l i:=λi hi=>by show(el l' i).1=(el l i).1;rw[g.out i hi]
 have v:∀j,m<j->j<b'->ky l m<=ky l' j:=λj w1 C=>g.all (p:=λe=>ky l m<=e.1) (by omega) (by omega) (λF t c=>p.2.2.2 F (by omega) c) j (by omega) C;refine⟨r.ha,by omega,by omega,f.s1,λi j t c u=>?_,λi j t c u A=>f.lo i j t c u A,λi j t c u A=>?_,?_⟩
 .by_cases o:j<b'
  .by_cases hi:i=m
   .rw[hi,out m (by omega)];exact v j (by omega) o
   .exact s i j (by omega) c o
  .by_cases B:i<b'
   .exact f.hi i j (by omega) B (by omega) u
   .exact f.s2 i j (by omega) c u
 .by_cases o:j<b'
  .by_cases hi:i<a'
   .exact f.lo i j t hi (by omega) (by omega)
   .rw[out i (by omega)]
    have w1:=p.2.2.1 i (by omega) c;by_cases D:j=m
    .rw[D,out m (by omega)];exact w1
    .exact GF w1 (v j (by omega) o)
  .exact f.hi i j t (by omega) (by omega) A
 .rcases f.pre with h0|E
  .exact .inl h0
  .exact .inr λi w1 C=>E i w1 (by omega)
abbrev xj:List Ty:=[tI, tI, tI, tB, tB]
theorem YY(C:Sf P S){n:Nat}{s:Sl}:∀(fuel a b:Nat) (l:iO) (limit:Int) (h:aG),b-a<fuel->iV n h s l->Kb l->Dk l->a<=b->b<=l.length->l.length<50->Pre a b l ->
  tL P (dZ fuel S s (a:Int) (b:Int) limit (Iq S)) [] n s a b l h λ_ l'=>KL a b l'
 |0,_,_,_,_,_,hf,_,_,_,_,_,_,_=>by omega
 |fuel+1,a,b,l,limit,h,hf,o,kb,dk,DN,hb,b6,a3=>by
  unfold dZ tL;refine bL (tys:=xj) (λ(q:Int×Int×Int×Bool×Bool×Unit) h'=>∃(a' b':Nat) (c:iO),q.1=(a':Int)/\q.2.1=(b':Int)/\iV n h' s c/\Sg a b l c/\aV (fY s) h h'/\Rest a b a' b' c) (λq _=>(q.2.1-q.1).toNat)
   (λt vs h'=>t=1/\vs=[]/\∃c,iV n h' s c/\Sg a b l c/\aV (fY s) h h'/\KL a b c)
   ⟨a,b,l,rfl,rfl,o,Sg.refl _ _ _,aV.refl _ _,bM _,DN,bM _,λi j B A U=>by omega,λi j B A U=>by omega,λi j B A U=>by omega,λi j B A U=>by omega,a3⟩ ?_ ?_
  .rintro⟨(qa:Int),(qb:Int),(Bq:Int),(wb:Bool),(cc:Bool),u⟩ B ⟨a',b',c,ea,eb,o1,v,c1,r1⟩
   dsimp only at ea eb⊢;subst ea;subst eb;have b0:=v.len;have R:=r1.ha;have a1:=r1.DN;have T:=r1.hb;have a4:bJ .i64 (b':Int) (a':Int)=((b'-a':Nat):Int):=by rw[bY (by omega) (by omega)];omega
   rw[a4];have done:∀{f:iO} {A:aG},aV (fY s) B A->iV n A s f->Sg a' b' c f->KL a' b' f->wp P (.ret 1 []) A λtag vs h'=>
     (tag=0->∃s':Int×Int×Int×Bool×Bool×Unit,vs=Ts.inj xj s'/\(∃(a' b':Nat) (c:iO),s'.1=(a':Int)/\s'.2.1=(b':Int)/\iV n h' s c/\Sg a b l c/\aV (fY s) h h'/\Rest a b a' b' c)/\(s'.2.1-s'.1).toNat<((b':Int)-(a':Int)).toNat) /\
     (tag≠0->tag=1/\vs=[]/\∃c,iV n h' s c/\Sg a b l c/\aV (fY s) h h'/\KL a b c):=λc2 o2 d s2=>
    aC ⟨λV=>absurd V (by decide),λ_=>⟨rfl,rfl,_,o2,v.trans (d.mono R T),c1.trans c2 λ_ _ x=>x,(r1.sg d (by omega)).fin s2⟩⟩
   refine aE (λ_=>qD (SJ C o1 (v.kb kb) a1 (by omega) (by omega)) λ_ f A c2 o2 d s2=>done c2 o2 d s2) λhc=>?_;rw[mN]at hc;refine aE (λ_=>qD (UL C o1 (v.kb kb) (by omega) (by omega) (by omega)) λ_ f A c2 o2 d s2=>done c2 o2 d s2) λ_=>?_;refine dB (λt vs h'=>t=0/\∃(r:Int) (f:iO),vs=[aH r]/\iV n h' s f/\Sg a' b' c f/\aV (fY s) B h') (aE (λ_=>qD (gi o1 (by omega) (by omega) (by omega) (by omega)) λ_ f A c2 o2 d _=>aC ⟨rfl,_,f,rfl,o2,d,c2⟩) λ_=>aC ⟨rfl,Bq,c,rfl,o1,Sg.refl _ _ _,aV.refl _ _⟩) ?_;rintro t vs A ⟨rfl,r,f,rfl,o2,d,c2⟩;refine bE (fI ?_);have b1:=d.len;have bs:=d.kb (v.kb kb);refine aM (OK C o2 bs (by omega) (by omega) (by omega) (by omega)) λ⟨(pz:Int),(hint:Int),_⟩ U e3 Y=>?_;obtain⟨p,al,a9,ba⟩:=Y;have al:pz=(p:Int):=al;subst al;dsimp only;have o3:iV n U s f:=(aV.bD (F:=λ_=>False) e3).own o2 λ_ _ x=>x;have bp:bJ .i64 (b':Int) 1=((b'-1:Nat):Int):=by rw[bY (by omega) (by omega)];omega
   have bd:bJ .i64 (p:Int) (a':Int)=((p-a':Nat):Int):=by rw[bY (by omega) (by omega)];omega
   have bo:bJ .i64 ((b'-1:Nat):Int) ((p-a':Nat):Int)=((b'-1-(p-a'):Nat):Int):=by rw[bY (by omega) (by omega)];omega
   rw[bp,bd,bo];refine dB (λt vs h'=>t=0/\∃(H:Nat) (hint':Int) (I:iO),vs=[aH H,aH hint']/\a'<=H/\H<b'/\iV n h' s I/\Sg a' b' c I/\aV (fY s) B h')
    (aE (λ_=>qD (Xj o3 a1 (by omega) (by omega) (by omega)) λ_ I h4 J o4 E _=>aC ⟨rfl,b'-1-(p-a'),1,I,rfl,by omega,by omega,o4,d.trans E,(c2.ext e3).trans J λ_ _ x=>x⟩) λ_=>aC ⟨rfl,p,hint,f,rfl,a9,ba,o3,d,c2.ext e3⟩) ?_
   rintro t vs h4 ⟨rfl,H,hint',I,rfl,Z,ab,o4,K,J⟩;refine bE (tV ?_);dsimp only;have b2:=K.len;have bt:=K.kb (v.kb kb);refine dB (λt vs h'=>vs=[]/\∃g,iV n h' s g/\Sg a' b' c g/\aV (fY s) B h'/\((t=1/\KL a' b' g)\/t=0)) ?_ ?_
   .refine dB (λt vs h'=>t=0/\∃bb:Bool,vs=[.bool bb]/\h'=h4) (aE (λ_=>aE (λ_=>aC ⟨rfl,_,rfl,rfl⟩) λ_=>aC ⟨rfl,_,rfl,rfl⟩) λ_=>aC ⟨rfl,_,rfl,rfl⟩) ?_
    rintro t vs h5 ⟨rfl,bb,rfl,rfl⟩;refine bE (gF (aE (λ_=>?_) λ_=>aC ⟨rfl,I,o4,K,J, .inr rfl⟩));refine qD (Xd C o4 bt (by omega) (by omega) (by omega) (by omega)) λ⟨(y:Bool),_⟩ g h6 c6 o6 G hs=>?_;have hs:y=true->KL a' b' g:=hs;dsimp only;exact aE (λhy=>aC ⟨rfl,g,o6,K.trans G,J.trans c6 λ_ _ x=>x, .inl ⟨rfl,hs hy⟩⟩) λ_=>aC ⟨rfl,g,o6,K.trans G,J.trans c6 λ_ _ x=>x, .inr rfl⟩
   rintro t vs h5 ⟨rfl,g,o5,E,c5,⟨rfl,hs⟩|rfl⟩
   .exact bE (bO (done c5 o5 E hs))
   refine nP (by decide) (bE (bO ?_));have b3:=E.len;have ao:=E.kb (v.kb kb);have r4:=r1.sg E (by omega);have a5:=E.dk (v.dk dk);refine dB (λt vs h'=>t=0/\vs=[.bool false]/\Ext h5 h'/\iV n h' s g) (aE (λhd=>?_) λ_=>aC ⟨rfl,rfl,Ext.refl _,o5⟩) ?_
   .rw[dL]at hd
    have a6:bJ .i64 (a':Int) 1=((a'-1:Nat):Int):=by rw[bY (by omega) (by omega)];omega
    rw[a6];refine FO C o5 ao rfl rfl (by omega) (by omega) λh6 e6 o6=>aC ⟨rfl,?_,e6,o6⟩;have b8:ky g (a'-1)<ky g H:=by
     rcases r4.pre with h0|Y
     .omega
     .exact Y H Z ab
    have:cU (fH (ky g (a'-1)-ky g H) 0)=false:=by rw[eC,aU];omega
    dsimp only;rw[this]
   rintro t vs h6 ⟨rfl,rfl,e6,o6⟩;refine bE (gF (aE (λhc=>by cases hc) λ_=>?_));refine qD (SM C o6 ao Z ab (by omega) (by omega)) λ⟨(mz:Int),(ap:Bool),_⟩ l5 h7 c7 o7 O hm=>?_;obtain⟨m,W,pt⟩:=hm;have W:mz=(m:Int):=W;subst W;dsimp only;have b4:=O.len;have a2:=O.kb ao;have D:=O.dk a5;have r5:=r4.sg O (by omega);have a7:=pt.1;have b9:=pt.2.1;have aw:aV (fY s) B h7:=(c5.ext e6).trans c7 λ_ _ x=>x;have a0:Sg a b l l5:=(v.trans (E.mono R T)).trans (O.mono R T);have a8:aT .i64 (m:Int) 1=((m+1:Nat):Int):=by rw[aX (by omega) (by omega)];push_cast;rfl
   rw[a8];refine pE (aE (λ_=>?_) λ_=>?_)
   .refine qD (YY C fuel a' m l5 r h7 (by omega) o7 a2 D a7 (by omega) (by omega) ?_) λ_ l6 h8 c8 o8 G s6=>?_
    .rcases r5.pre with h0|Y
     .exact .inl h0
     .exact .inr λi w1 w2=>Y i w1 (by omega)
    .exact aC ⟨λ_=>⟨(((m+1:Nat):Int),(b':Int),r,_,ap,()),rfl,⟨m+1,b',l6,rfl,rfl,o8,a0.trans (G.mono (by omega) (by omega)),(c1.trans aw λ_ _ x=>x).trans c8 λ_ _ x=>x,r5.left pt D (by omega) G s6⟩,by dsimp only;omega⟩,λV=>absurd rfl V⟩
   .refine qD (YY C fuel (m+1) b' l5 r h7 (by omega) o7 a2 D (by omega) (by omega) (by omega) (.inr λi w1 w2=>?_)) λ_ l6 h8 c8 o8 G s6=>?_
    .rw[Mq];exact pt.lt D (by omega) i (by omega) w2
    .exact aC ⟨λ_=>⟨((a':Int),(m:Int),r,_,ap,()),rfl,⟨a',m,l6,rfl,rfl,o8,a0.trans (G.mono (by omega) (by omega)),(c1.trans aw λ_ _ x=>x).trans c8 λ_ _ x=>x,r5.right pt D (by omega) G s6⟩,by dsimp only;omega⟩,λV=>absurd rfl V⟩
  .rintro t vs B ⟨rfl,rfl,c,o1,v,c1,s1⟩
   exact bE (bO (aC ⟨rfl,c1,(),c,rfl,o1,v,s1⟩))
theorem ph(C:Sf P S){n:Nat}{s:Sl}(o:iV n h s l)(kb:Kb l)(dk:Dk l)(d:l.length<50) :
  tL P (gC S s (Iq S)) [] n s 0 l.length l h λ_ l'=>KL 0 l.length l':=by
 unfold gC tL;have hlen:=iV.len o;have f:aQ s.len=(l.length:Int):=by rw[aN,hlen]
 rw[f,d_ (by omega)];refine aM (YG (by omega)) λ⟨(y:Int),_⟩ b c r=>?_;dsimp only;have o1:iV n b s l:=(aV.bD (F:=λ_=>False) c).own o λ_ _ x=>x;have j:tL P (gU S s (Int.ofNat 0) (l.length:Int) y (Iq S)) [] n s 0 l.length l b λ_ l'=>KL 0 l.length l':=by
  unfold gU tL;exact⟨l.length+1,YY C (l.length+1) 0 l.length l y b (by omega) o1 kb dk (cN _) (bM _) d (.inl rfl)⟩
 refine qD j λ_ m p c2 o2 g s2=>aC ⟨rfl,aV.pre c c2,(),m,rfl,o2,g,s2⟩
end
section
variable{P:Program}{S:cH}{h:aG}{Q:Nat->bG->aG->Prop}
variable{l:iO}
theorem VC{tys:List Ty}{s0:Ts.den tys}{m:Nat}{l:fW}{body:Ts.den tys->Int->Int->aK}{fin:Ts.den tys->aK}{K:Nat->bG->aK}(r:sG h m l)(J:fW->Ts.den tys->aG->Prop)(R:Nat->bG->aG->Prop)
  (hJ:∀told s d,J told s d->∃c l',d[m]?=some (lP l' c)/\h[m]?=some (lP l c)/\l'.map (λe=>(e.1,e.2.2))=l.map (λe=>(e.1,e.2.2))/\∀e∈l,e∉told->e∈l')
  (bb:∀told s d p,J told s d->aV (λi=>i=h.size) d p->J told s p)
  (h0:∀d,Ext h d->d.size=h.size+1->J [] s0 d)
  (hs:∀told s e d,J told s d->h.size<d.size->e∈l->e∉told->told.length<l.length->wp P (body s e.1 e.2.1) d λtag vs p=>tag=0/\∃Z,vs=Ts.inj tys Z/\p[h.size]?=d[h.size]? /\ J (told++[e]) Z p)
  (hf:∀told s d,told.Perm l->J told s d->wp P (fin s) d λtag vs p=>tag≠0/\R tag vs p)
  (hk:∀tag vs d,R tag vs d->wp P (K tag vs) d Q) :
  wp P (.Ja (some m) λa=>.bind (.loop tys s0 λs=>.Jc (some a) (λ_ _=>.DT (some a) λk v=>body s k v) (fin s)) K) h Q:=by
 obtain⟨c,d,o⟩:=r;have bp:=(wT.1 d).1;refine⟨m,l,c,rfl,d,?_⟩;have e0:Ext h (h.push (.mapIter (some m) c #[] c)):=C3 _ _ yX;refine Tree.dQ (G:=fW) (λtold s g=>J told s g/\told.Nodup/\(∀e∈told,e∈l)/\g[h.size]?=some (.mapIter (some m) c (told.map (·.2.2)).toArray c)) (λtold=>l.length-told.length)
  R [] ⟨h0 _ e0 (by simp),KF,by simp,by simp⟩ (λtold s g ⟨hj,ao,B,D⟩=>?_) hk
 obtain⟨t,l',g1,g2,g3,g4⟩:=hJ told s g hj;have al:lP l t=lP l c:=dU (g2.symm.trans d);have a0:t=c:=by unfold lP at al;injection al
 subst a0;obtain⟨f1,f2⟩:=map_fst g3;have bo:(l'.map (·.2.2)).Nodup:=by rw[f2];exact o.Ii
 have U:=Dg (f:=λe:Int×Int×Nat=>e.2.2) bo;have inj:=Dg (f:=λe:Int×Int×Nat=>e.2.2) o.Ii;have u:∀b:Nat,((told.map (·.2.2)).toArray.contains b=false)↔b∉told.map (·.2.2):=by
  intro b;rw[<-RE,Array.contains_iff_mem];simp
 have left:∀e∈l',(told.map (·.2.2)).toArray.contains e.2.2=false->e∈l/\e∉told:=by
  intro e he E;rw[u]at E;have:e.2.2∈l.map (·.2.2):=by rw[<-f2];exact rT (f:=(·.2.2)) he
  obtain⟨e0,C,hb⟩:=dA.1 this;have A:e0∉told:=λj=>E (by rw[<-hb];exact rT (f:=(·.2.2)) j);have:=g4 e0 C A;have:=U _ this _ he hb;subst this;exact⟨C,A⟩
 refine⟨h.size,m,t,_,t,l',t,rfl,D,g1,?_,λe he E=>?_,λaw=>?_⟩
 .cases a5:l' with
  |nil=>exact .inr (.inl rfl)
  |cons e l2=>
   have he:e∈l':=by rw[a5];exact eO ..
   have:e.2.2∈l.map (·.2.2):=by rw[<-f2];exact rT (f:=(·.2.2)) he
   obtain⟨e0,C,hb⟩:=dA.1 this;exact .inr (.inr ⟨e,eO .., by have:=o.old _ C;omega⟩)
 .obtain⟨ab,A⟩:=left e he E
  have a8:m≠h.size:=by omega
  have cg:aV (λi=>i=h.size) g (g.setIfInBounds h.size (.mapIter (some m) t ((told.map (·.2.2)).toArray.push e.2.2) t)):=(BZ D yX).mono λi _ hi=>by unfold own at hi;omega
  have I:=By (o':=.mapIter (some m) t ((told.map (·.2.2)).toArray.push e.2.2) t) D;have V:l'.find? (λx=>x.2.2 == e.2.2)=some e:=by
   have Y:(l'.find? (λx=>x.2.2 == e.2.2)).isSome:=by rw[List.find?_isSome];exact⟨e,he,by simp⟩
   obtain⟨y,H⟩:=BB.1 Y;have d:=List.find?_some H;have p:=WR H;rw[H,U _ p _ he (by simpa using d)]
  refine⟨h.size,m,t,_,e.2.2,l',t,rfl,I,?_,e,V,?_⟩
  .rw[yH a8.symm];exact g1
  .have a7:h.size<g.size:=(wT.1 D).1
   have O:(told++[e]).Nodup:=by
    rw[JL];exact⟨ao,by simp,λa ha b hb e'=>by simp at hb;subst hb;subst e';exact A ha⟩
   have F:∀x∈told++[e],x∈l:=λx j=>by
    rcases dH.1 j with h|h
    .exact B _ h
    .simp at h;subst h;exact ab
   have a6:=NS O F;rw[bP,As]at a6;refine cM _ (λtg vs g2 ⟨a1,Z,a2,a3,a4⟩=>⟨λ_=>?_,λj=>absurd a1 j⟩) (hs told s e _ (bb _ _ _ _ hj cg) (by rw[rR];exact a7) ab A (by omega));refine⟨told++[e],Z,a2,⟨a4,O,F,by rw[a3,I];simp⟩,?_⟩;rw[bP,As];omega
 .have W:told.Perm l:=by
   have a9:l.Nodup:=List.Pairwise.of_map (λe:Int×Int×Nat=>e.2.2) (λa b DN e=>DN (by rw[e])) o.Ii;refine(RO ao a9).2 λx=>⟨λj=>B x j,λj=>?_⟩;by_cases T:x∈told
   .exact T
   .exfalso
    have bd:=g4 x j T;have ba:(told.map (·.2.2)).toArray.contains x.2.2=false:=by
     rw[u];intro hm;obtain⟨y,H,hb⟩:=dA.1 hm;exact T (by rw[<-inj _ (B y H) _ j hb];exact H)
    have:=aw x bd ba;have:=o.old x j;omega
  exact cM _ (λtg vs p ⟨d,p⟩=>⟨λj=>absurd j d,λ_=>p⟩) (hf told s g W hj)
theorem bz(s:KL 0 l.length l)(d:Dk l):l.Pairwise λa b=>a.1<b.1:=by
 rw[Se];intro i j hi c f;have g:l[i]=el l i:=by simp[List.getD,cL hi]
 have m:l[j]=el l j:=by simp[List.getD,cL c]
 rw[g,m];have:=s i j (cN _) f c;have:=d.ne hi c (by omega);show ky l i<ky l j;omega
theorem mh:∀{a b:iO},(a.Pairwise λx y=>x.1<y.1)->(b.Pairwise λx y=>x.1<y.1)->a.Perm b->a=b
 |[],b,_,_,p=>(List.nil_perm.1 p).symm
 |x::a,[],_,_,p=>absurd p.length_eq (by simp)
 |x::a,y::b,ha,hb,p=>by
  obtain⟨d,f⟩:=yI.1 ha;obtain⟨g,j⟩:=yI.1 hb;have c:x=y:=by
   rcases eH.1 (p.mem_iff.1 (eO ..))with h|h
   .exact h
   .rcases eH.1 (p.mem_iff.2 (eO ..))with h'|h'
    .exact h'.symm
    .have m:=d y h';have o:=g x h;omega
  subst c;rw[mh f j ((RL x).1 p)]
def names:bB:=[39,60,62,97,98,99,100,101,102,103,104,105,106,107,108,109,110,111,112,113,114,115,116,117,118,119,120,121,122]
theorem ie{a:Int}(h:OB a):a∈names:=by
 unfold OB at h;have b:a=39\/a=60\/a=62\/∃k:Fin 26,a=97+(k.val:Int):=by
  rcases h with h|h|h|h
  .exact .inr (.inr (.inr ⟨⟨(a-97).toNat,by omega⟩,by dsimp only;omega⟩))
  .exact .inl h
  .exact .inr (.inl h)
  .exact .inr (.inr (.inl h))
 rcases b with rfl|rfl|rfl|⟨k,rfl⟩
 .decide
 .decide
 .decide
 .revert k;decide
theorem x8(h:l.Pairwise λa b=>a.1<b.1):Dk l:=Mv.2 (h.imp λDN=>by omega)
theorem YH(C:Sf P S){n k:Nat}{rho:Nat->Nat}{X:Bk}{M:Mo}{N:Nat}(r:cO S n h rho k X)(i:Inv X M N) :
  aS P (Az S (some X.b)) [tS] h λ(y:Sl×Unit) h'=>iV h.size h' y.1 M.marks:=by
 unfold Az aS;have K:=x8 i.ok.so;have hlen:X.ms.length=M.marks.length:=by have:=i.lk.ms.length_eq;simpa using this
 have T:M.marks.length<=29:=by
  have u:=NS (l:=M.marks.map (λe:Int×Int=>e.1)) (m:=names) K λx hx=>ie (i.ok.nm.1 x hx);rw[cE]at u;exact u
 refine r.rd (b:=.map) (some X.m) rfl (u_ r.mp ?_);rw[aN];refine⟨⟨kR _,by omega,by omega,by omega⟩,λelem=>?_⟩;have R:Ext h (h.push (.cells (jP [aH 0,aH 0] (X.ms.length:Int).toNat).toArray elem)):=Ext.push ..;have o1:iV h.size (h.push (.cells (jP [aH 0,aH 0] (X.ms.length:Int).toNat).toArray elem)) ⟨some ⟨h.size,0,none⟩,0,(X.ms.length:Int).toNat⟩ []:=by
  refine⟨rfl,cN _,by dsimp only;omega,rfl,rfl,bM _,(jP [aH 0,aH 0] (X.ms.length:Int).toNat).toArray,elem,Ee,?_,λj v o=>by simp at o⟩;rw[Mh,Kz (size:=2) rfl]
 have z1:(h.push (.cells (jP [aH 0,aH 0] (X.ms.length:Int).toNat).toArray elem)).size=h.size+1:=by simp
 generalize h.push (.cells (jP [aH 0,aH 0] (X.ms.length:Int).toNat).toArray elem)=u at R o1 z1⊢;have V:=r.ext R;refine V.rd (b:=.map) (some X.m) rfl ?_;have ao:=r.mp.lt;obtain⟨c,Z,mo⟩:=V.mp;refine VC (tys:=[tS]) (m:=X.m) (l:=X.ms) (body:=λ(q:Sl×Unit) x y=>.alloc [aH x,aH y] λa=>.append 2 16 [aH 0,aH 0] q.1 ⟨some a,1,1⟩ λa0=>.ret 0 [dN a0]) (fin:=λ(q:Sl×Unit)=>.ret 2 [dN q.1]) V.mp
  (λtold q g=>Ext h g/\g[X.m]?=u[X.m]? /\ iV h.size g q.1 (told.map kv)/\(∀a,q.1.aD=some a->a.block≠u.size))
  (λt vs g=>t=2/\∃q:Sl,vs=[dN q]/\∃told:fW,told.Perm X.ms/\Ext h g/\iV h.size g q (told.map kv))
  (λtold q g ⟨e,B,_⟩=>⟨c,X.ms,by rw[B];exact Z,Z,rfl,λe he _=>he⟩)
  (λtold q g G ⟨e,B,f,hb⟩ v=>⟨⟨dI e.1 v.1,λj o=>by rw[v.2.1 j (mK o e.1) (by omega)];exact e.2.1 j o,λa ha=>v.2.2 a (e.2.2 a ha)⟩,by rw[v.2.1 X.m (mK ao e.1) (by omega)];exact B,v.own f hb,hb⟩)
  (λg e z=>⟨R.trans e,e.2.1 X.m (by omega),(aV.bD (F:=λ_=>False) e).own o1 λ_ _ x=>x,λa ha=>by cases ha;dsimp only;omega⟩)
  (λtold q e g ⟨d,B,f,hb⟩ al he a3 hl=>?_) (λtold q g U ⟨d,B,f,hb⟩=>aC ⟨by decide,rfl,q.1,rfl,told,U,d,f⟩) ?_
 .refine λD=>?_
  have p:Ext g (g.push (.cells [aH e.1,aH e.2.1].toArray D)):=Ext.push ..;have O:Rd 2 (g.push (.cells [aH e.1,aH e.2.1].toArray D)) ⟨some ⟨g.size,0,none⟩,1,1⟩ [aH e.1,aH e.2.1]:=mI rfl;generalize g.push (.cells [aH e.1,aH e.2.1].toArray D)=G at p O⊢;have a5:=p.1;have a1:cA h.size 2 G q.1 ((told.map kv).flatMap Cy):=(aV.bD (F:=λ_=>False) p).own f λ_ _ x=>x;have a4:q.1.len=told.length:=by have:=iV.len f;simpa using this
  refine iQ a1 (by have:=d.1;omega) O (by intro v hv;simp only[eH,lG,or_false]at hv;rcases hv with rfl|rfl<;>rfl) rfl (by dsimp only;omega) (by dsimp only;omega) λq' Y o3 l3 u3 b3 _=>?_;have c3:aV (λj=>∃a,q.1.aD=some a/\a.block=j) G Y:=aV.dK u3 λa ha _=>⟨a,ha,rfl⟩;have J:∀a,q.1.aD=some a->h.size<=a.block:=λa ha=>(f.lt ha).1;have W:=d.1;refine aC ⟨rfl,(q',()),rfl,?_,⟨dI W (dI p.1 c3.1),λj o=>?_,λa ha=>c3.2.2 a (p.2.2 a (d.2.2 a ha))⟩,?_,?_,λa ha=>?_⟩
  .rw[c3.2.1 u.size (by omega) λ⟨a,ha,e⟩=>hb a ha e,p.2.1 u.size al]
  .rw[c3.2.1 j (by omega) λ⟨a,ha,e⟩=>by have:=J a ha;omega,p.2.1 j (by omega)];exact d.2.1 j o
  .rw[c3.2.1 X.m (by omega) λ⟨a,ha,e⟩=>by have:=J a ha;omega,p.2.1 X.m (by omega)];exact B
  .show cA h.size 2 Y q' (((told++[e]).map kv).flatMap Cy)
   rw[dP,gX];simpa using o3
  .rcases b3 a ha with I|I
   .exact hb a I
   .omega
 .rintro t vs g ⟨rfl,q,rfl,told,U,d,f⟩
  refine pL rfl (q,()) rfl ?_;have A:(told.map kv).Perm M.marks:=(U.map kv).trans i.lk.ms;have H:Dk (told.map kv):=((A.map (λe:Int×Int=>e.1)).nodup_iff).2 K;have aw:Kb (told.map kv):=λe he=>by
   have:=i.ok.nm.1 e.1 (dA.2 ⟨e,A.mem_iff.1 he,rfl⟩);unfold OB at this;omega
  have a2:(told.map kv).length<=29:=by rw[A.length_eq];exact T
  refine qD (ph C f aw H (by omega)) λ_ l' G c2 o2 E s2=>aC ⟨rfl,?_,(q,()),rfl,?_⟩
  .exact⟨dI d.1 c2.1,λj o=>by rw[c2.2.1 j (mK o d.1) λ⟨a,ha,e⟩=>by have:=(f.lt ha).1;omega];exact d.2.1 j o,λa ha=>c2.2.2 a (d.2.2 a ha)⟩
  .have ab:=E.len
   rw[<-ab]at s2;have:=mh (bz s2 (E.dk H)) i.ok.so (E.perm.trans A);dsimp only;rw[<-this];exact o2
end
section
variable{P:Program}{S:cH}{h:aG}{Q:Nat->bG->aG->Prop}{w:Sv}{M:Mo}{N:Nat}
end
section
variable{P:Program}{S:cH}{h:aG}{Q:Nat->bG->aG->Prop}{w:Sv}{M:Mo}{N:Nat}
variable{l:bB}
theorem CT(l:List UInt8):(ByteArray.mk l.toArray).toList=l:=by rw[ByteArray.toList_eq]
def ep(l:bB):List UInt8:=l.map λx=>UInt8.ofNat x.toNat
theorem Oo(h:∀x,x∈l->cX .u8 x):(ep l).map (λb=>Value.int .u8 b.toNat)=l.map (.int .u8):=by
 induction l with
 |nil=>rfl
 |cons x l d=>
  have f:=wJ.1 (h x (eO ..));have:=d λy c=>h y (eK _ c);simp only[ep,fS,sX]at this⊢;rw[this]
  congr 2
  simp only[UInt8.toNat_ofNat'];omega
theorem jr{m:bB}(h:∀x,x∈l->cX .u8 x)(h':∀x,x∈m->cX .u8 x)(e:ep l=ep m):l=m:=by
 have:=congrArg (List.map λb:UInt8=>Value.int .u8 b.toNat) e;rw[Oo h,Oo h']at this;exact List.map_inj_right (f:=Value.int .u8) (λx y e=>by injection e) |>.1 this
theorem Ww{x:Sl}{K:ByteArray->aK}(b:kW .u8 h x l)(c:wp P (K ⟨(ep l).toArray⟩) h Q):wp P (.bytes x K) h Q:=by
 refine⟨ep l,?_,c⟩;rw[Oo b.wf];have:=Rd.Hs b.rd;simpa using this
theorem qv{m:bB}(h:∀x,x∈l->cX .u8 x)(h':∀x,x∈m->cX .u8 x):Xt ⟨(ep l).toArray⟩ ⟨(ep m).toArray⟩=decide (l=m):=by
 unfold Xt;rw[CT,CT];by_cases e:l=m
 .subst e;simp
 .have:ep l≠ep m:=λb=>e (jr h h' b)
  simp[e,this]
structure Gw(w:Sv)(E0:List El)(i W:Nat)(l:List (z8×yl))(M:Mo):Prop where
 now:M.now=none
 saved:M.saved=0
 lost:M.lost=[]
 next:M.next=[]
 dep:M.depth=200
 len:M.done.length<=i
 pos:1<=i->1<=M.done.length
 wt:yc w.enc W M.E0 M.all
 e0:M.E0=E0
 ll:l.length=M.done.length+1
 lk:∀j y,l[j]?=some y->y.2.E=iT E0 (M.done.take j)
structure zy(E0:List El)(full:List GM)(gone:Nat)(M:Mo):Prop where
 now:M.now=none
 lost:M.lost=[]
 saved:M.saved=0
 e0:M.E0=E0
 done:M.done=full.take (full.length-gone)
 next:M.next=full.drop (full.length-gone)
 le:gone<=full.length
theorem zy.E{E0:List El}{full:List GM}{gone:Nat}(u:zy E0 full gone M):M.E=iT E0 (full.take (full.length-gone)):=by
 rw[Mo.xI u.now];unfold Mo.C;rw[u.lost,u.e0,u.done];rfl
theorem PJ{m:Nat}{xs:Ys}(o:cA m 1 h xs.1 (xs.2.map λy=>dN y.1))(he:∀y∈xs.2,(Sh.list jT).ok h y):A4.ok h xs:=by
 have d:=o.1;rw[cE]at d;refine⟨by omega,o.2.1,o.2.2.1,λi y hi=>?_⟩;obtain⟨a,ea,c⟩:=o.rd.2 i (dN y.1) (by rw[gP,hi];rfl);refine⟨a,ea,aI.2 λj v b=>?_,he y (eM hi)⟩;cases j with
 |zero=>
  simp[Sh.cells]at b;subst b;simpa[Sh.size,add_zero'] using c
 |succ j=>simp[Sh.cells]at b
end
section
variable{P:Program}{S:cH}{h:aG}{Q:Nat->bG->aG->Prop}{w:Sv}{M:Mo}{N:Nat}
end
section
variable{P:Program}{S:cH}{h:aG}{Q:Nat->bG->aG->Prop}{w:Sv}{M:Mo}{N:Nat}
structure Dr(w:Sv)(W:Nat)(M:Mo):Prop where
 now:M.now=none
 wt:yc w.enc W M.E0 M.all
end
section
variable{P:Program}{S:cH}{h:aG}{Q:Nat->bG->aG->Prop}{w:Sv}{M:Mo}{N:Nat}
end
end Go.Sw.Hist
namespace Go.Sw.Piece
open Go.Sw.Any Go.Sw.Codec
open Go.Sw.Tree (iv fP jR jX mW oR kM rL kK dQ lB)
section
variable{P:Program}{S:cH}{h:aG}{Q:Nat->bG->aG->Prop}
variable{x:Sl}{h':aG}
abbrev Cq(b:Nat):Addr:=⟨b,0,none⟩
structure RI(h0:aG)(n a:Nat)(enc limit:Int)(h:aG)(sA sT:Sl)(LA LT:bB):Prop where
 k:Ext h0 h
 o:cA h0.size 1 h ⟨some (Cq a),5,5⟩ [aH enc,aH limit,dN sA,dN sT, .slice none 0 0]
 la:bU n .i64 h sA LA
 lt:bU n .i64 h sT LT
 ne:∀a b,sA.aD=some a->sT.aD=some b->a.block≠b.block
 an:a<n
 nh:n<=h.size
variable{h0:aG}{n a:Nat}{enc limit:Int}{sA sT:Sl}{LA LT:bB}
theorem RI.ext{h':aG}(g:RI h0 n a enc limit h sA sT LA LT)(e:Ext h h'):RI h0 n a enc limit h' sA sT LA LT:=
 ⟨g.k.trans e,g.o.ext e,g.la.ext e,g.lt.ext e,g.ne,g.an,dI g.nh e.size⟩
theorem uc{m:bB}{K:aK}(g:RI h0 n a enc limit h sA sT LA LT)(H:kW .i64 h x m)(W:LA.length+m.length<=1099511627776)
  (G:∀h' O,RI h0 n a enc limit h' O sT (LA++m) LT->wp P K h' Q):wp P (.append 1 8 [.int .i64 0] sA x λr=>.store (aB (some (Cq a)) 2) [dN r] K) h Q:=by
 have C:=λb (ha:sA.aD=some b)=>g.la.own.lt ha;have t:=λb (ha:sT.aD=some b)=>g.lt.own.lt ha;have an:=g.an;have nh:=g.nh;have T:h0.size<=a:=(g.o.lt rfl).1;refine uT g.la g.nh H (by omega) (by omega) λr U k1 o1 R B _=>?_;have J:=g.o.aP λb hb=>by cases hb;exact k1.2.1 _ an
 refine fA (dN r) J (by simp) rfl λu o2 A=>?_;have v:∀b,r.aD=some b->n<=b.block/\((∃c,sA.aD=some c/\c.block=b.block)\/h.size<=b.block):=λb hb=>⟨(o1.own.lt hb).1,(B b hb).imp (λh=>⟨b,h,rfl⟩) id⟩;have p:aV (λi=>i=a\/∃b,sA.aD=some b/\b.block=i) h u:=((aV.dK (F:=λi=>∃b,sA.aD=some b/\b.block=i) R λy I _=>⟨y,I,rfl⟩).mono λi _ x=>.inr x).trans ((pP A).mono λi _ (x:i=a)=>.inl x) λi _ x=>x;refine G u r ⟨gZ.trans g.k (p.aP g.k.size λi hi f=>?_),o2,o1.Hg A λb c hb j=>by cases j;have:=(v b hb).1;show a≠_;omega,p.qH g.lt λb hb f=>?_,λb c hb j=>?_,an,dI nh p.1⟩
 .rcases f with f|⟨b,hb,f⟩
  .omega
  .have:=(C b hb).1;omega
 .rcases f with f|⟨c,j,f⟩
  .have:=(t b hb).1;omega
  .exact g.ne c b j hb f
 .rcases(v b hb).2 with⟨d,E,D⟩|V
  .rw[<-D];exact g.ne d c E j
  .have:=(t c j).2;omega
theorem ud{m:bB}{K:aK}(g:RI h0 n a enc limit h sA sT LA LT)(H:kW .i64 h x m)(W:LT.length+m.length<=1099511627776)
  (G:∀h' O,RI h0 n a enc limit h' sA O LA (LT++m)->wp P K h' Q):wp P (.append 1 8 [.int .i64 0] sT x λr=>.store (aB (some (Cq a)) 3) [dN r] K) h Q:=by
 have t:=λb (ha:sA.aD=some b)=>g.la.own.lt ha;have C:=λb (ha:sT.aD=some b)=>g.lt.own.lt ha;have an:=g.an;have nh:=g.nh;have T:h0.size<=a:=(g.o.lt rfl).1;refine uT g.lt g.nh H (by omega) (by omega) λr U k1 o1 R B _=>?_;have J:=g.o.aP λb hb=>by cases hb;exact k1.2.1 _ an
 refine fA (dN r) J (by simp) rfl λu o2 A=>?_;have v:∀b,r.aD=some b->n<=b.block/\((∃c,sT.aD=some c/\c.block=b.block)\/h.size<=b.block):=λb hb=>⟨(o1.own.lt hb).1,(B b hb).imp (λh=>⟨b,h,rfl⟩) id⟩;have j:aV (λi=>i=a\/∃b,sT.aD=some b/\b.block=i) h u:=((aV.dK (F:=λi=>∃b,sT.aD=some b/\b.block=i) R λy I _=>⟨y,I,rfl⟩).mono λi _ x=>.inr x).trans ((pP A).mono λi _ (x:i=a)=>.inl x) λi _ x=>x;refine G u r ⟨gZ.trans g.k (j.aP g.k.size λi hi f=>?_),o2,j.qH g.la λb hb f=>?_,o1.Hg A λb c hb p=>by cases p;have:=(v b hb).1;show a≠_;omega,λb c hb p=>?_,an,dI nh j.1⟩
 .rcases f with f|⟨b,hb,f⟩
  .omega
  .have:=(C b hb).1;omega
 .rcases f with f|⟨c,p,f⟩
  .have:=(t b hb).1;omega
  .exact g.ne b c hb p f.symm
 .rcases(v c p).2 with⟨d,E,D⟩|V
  .rw[<-D];exact g.ne b d hb E
  .have:=(t b hb).2;omega
structure RX where
 b:Nat
 enc:Int
 limit:Int
 sa:Sl
 st:Sl
 sk:Sl
 E:List El
 K:List (Sl×Sl×List El)
 Z:Nat->Prop
def ME(n:Nat)(h:aG)(k:Sl×Sl×List El):Prop:=bU n .i64 h k.1 (k.2.2.map (·.1))/\bU n .i64 h k.2.1 (k.2.2.map (·.2))
def ZC(k:Sl×Sl×List El)(i:Nat):Prop:=(∃a,k.1.aD=some a/\a.block=i)\/∃a,k.2.1.aD=some a/\a.block=i
structure A9(n:Nat)(h:aG)(R:RX):Prop where
 enc:eL R.enc
 Bq:0<=R.limit/\R.limit<=65536
 ob:cA n 1 h ⟨some (Cq R.b),5,5⟩ [aH R.enc,aH R.limit,dN R.sa,dN R.st,dN R.sk]
 cur:ME n h (R.sa,R.st,R.E)
 sk:cA n 2 h R.sk (R.K.flatMap λk=>[dN k.1,dN k.2.1])
 kept:∀k,k∈R.K->ME n h k
 zb:R.Z R.b
 zc:∀i,ZC (R.sa,R.st,R.E) i->R.Z i/\i≠R.b/\∀a,R.sk.aD=some a->a.block≠i
 zk:∀k,k∈R.K->∀i,ZC k i->R.Z i/\i≠R.b/\∀a,R.sk.aD=some a->a.block≠i
 zs:∀a,R.sk.aD=some a->R.Z a.block/\a.block≠R.b
 lo:∀i,R.Z i->n<=i/\i<h.size
 fit:∀a,a∈R.E.map (·.1)->0<bW R.enc a
theorem ME.oY{F:Nat->Prop}{k:Sl×Sl×List El}(s:ME n h k)(c:aV F h h')(d:∀i,ZC k i->¬F i):ME n h' k:=
 ⟨c.qH s.1 λy b=>d _ (.inl ⟨y,b,rfl⟩),c.qH s.2 λy b=>d _ (.inr ⟨y,b,rfl⟩)⟩
theorem A9.oY{F:Nat->Prop}{h':aG}{R:RX}(r:A9 n h R)(c:aV F h h')(b:∀i,R.Z i->¬F i):A9 n h' R where
 enc:=r.enc
 Bq:=r.Bq
 ob:=c.own r.ob λy d=>by cases d;exact b _ r.zb
 cur:=r.cur.oY c λi hi=>b _ (r.zc i hi).1
 sk:=c.own r.sk λy d=>b _ (r.zs y d).1
 kept:=λk f=>(r.kept k f).oY c λi hi=>b _ (r.zk k f i hi).1
 zb:=r.zb
 zc:=r.zc
 zk:=r.zk
 zs:=r.zs
 lo:=λi hi=>⟨(r.lo i hi).1,mK (r.lo i hi).2 c.1⟩
 fit:=r.fit
theorem A9.ext{R:RX}(r:A9 n h R)(e:Ext h h'):A9 n h' R:=r.oY (aV.bD (F:=λ_=>False) e) λ_ _ x=>x
inductive EV(h0 h:aG)(enc limit:Int)(l:bB):OA->Int->Prop where
 |enc:¬eL enc->EV h0 h enc limit l none 10
 |arg:eL enc->¬(0<=limit/\limit<=65536)->EV h0 h enc limit l none 1
 |full:eL enc->0<=limit/\limit<=65536->limit<l.length->EV h0 h enc limit l none 50
 |ok (R:RX):eL enc->0<=limit/\limit<=65536->l.length<=limit->A9 h0.size h R->R.enc=enc->R.limit=limit->R.K=[]->R.sk=⟨none,0,0⟩->R.E=iH 0 0 (bH enc l)->(∀i,R.Z i->h0.size<=i)->EV h0 h enc limit l (some (Cq R.b)) 0
theorem Pv{ts:List (Int×Int)}{k:Nat}{t:Int×Int}(ht:ts[k]?=some t):(iH 0 0 ts).take (k+1)=(iH 0 0 ts).take k++[(t.1,(dM (ts.take k):Int))]:=by
 have b:=J5 0 ts 0 k;have c:=(cR.1 ht).1;have d:ts.drop k=t::ts.drop (k+1):=by
  have:=(cR.1 ht).2;rw[gY c,this]
 rw[d]at b;have f:(iH 0 0 ts)[k]?=some (t.1,(dM (ts.take k):Int)):=by
  have g:((iH 0 0 ts).drop k)[0]?=(iH 0 0 ts)[k]? := by rw[Ao];rfl
  rw[<-g,b];simp[iH]
 rw[eN,f];rfl
theorem Pr{enc limit:Int}{b:Sl}{l:bB}(hb:kW .u8 h b l)(hl:l.length<=1073741824) :
  aS P (zH S enc b limit) [tP, tI] h λ(y:OA×Int×Unit) h'=>EV h h' enc limit l y.1 y.2.1:=by
 unfold zH aS;have B:=hb.len;have d:cC l:=hb.wf;refine bZ (¬eL enc) ?_ λbb v U J=>aE (λj=>aC ⟨rfl,U,(none,10,()),rfl, .enc (J.1 j)⟩) λj=>?_
 .unfold eL
  refine aE (λf=>aC ⟨rfl,Ext.refl _,true,rfl,Iff.intro (λ_=>by rw[aU]at f;omega) λ_=>rfl⟩) λf=>aC ⟨rfl,Ext.refl _,_,rfl,?_⟩;rw[aY]at f;rw[dL];omega
 have he:eL enc:=by
  by_cases h:eL enc
  .exact h
  .rw[J.2 h]at j;cases j
 refine bZ (¬(0<=limit/\limit<=65536)) ?_ λbb c W K=>aE (λj=>aC ⟨rfl,U.trans W,(none,1,()),rfl, .arg he (K.1 j)⟩) λT=>?_
 .refine aE (λf=>aC ⟨rfl,Ext.refl _,true,rfl,Iff.intro (λ_=>by rw[aU]at f;omega) λ_=>rfl⟩) λf=>aC ⟨rfl,Ext.refl _,_,rfl,?_⟩
  rw[aY]at f;rw[dL];omega
 have E:0<=limit/\limit<=65536:=by
  by_cases h:0<=limit/\limit<=65536
  .exact h
  .rw[K.2 h]at T;cases T
 have A:=U.trans W;refine aE (λj=>aC ⟨rfl,A,(none,50,()),rfl, .full he E (by rw[dL,aN,B]at j;exact j)⟩) λj=>?_;rw[gD,aN,B]at j;refine gN (bs:=[.int .i64, .int .i64, .sl, .sl, .sl]) (enc,limit,⟨none,0,0⟩,⟨none,0,0⟩,⟨none,0,0⟩,()) (by decide) λC e3 H=>?_;have H:cA c.size 1 C ⟨some (Cq c.size),5,5⟩ [aH enc,aH limit, .slice none 0 0, .slice none 0 0, .slice none 0 0]:=H;have q3:c.size<C.size:=(H.lt rfl).2;have tl:=zY (enc:=enc) d;have a5:=Gt (enc:=enc) d;have G0:RI c C.size c.size enc limit C ⟨none,0,0⟩ ⟨none,0,0⟩ (((iH 0 0 (bH enc l)).take 0).map (·.1)) (((iH 0 0 (bH enc l)).take 0).map (·.2)):=⟨e3,H,bU.nil _ _ _,bU.nil _ _ _,λ_ _ h=>(by cases h),q3,bM _⟩;refine dQ (G:=Nat×Sl×Sl) (λg (r:Int×Unit) h'=>g.1<=(bH enc l).length/\r.1=dM ((bH enc l).take g.1)/\RI c C.size c.size enc limit h' g.2.1 g.2.2 (((iH 0 0 (bH enc l)).take g.1).map (·.1)) (((iH 0 0 (bH enc l)).take g.1).map (·.2))) (λg=>(bH enc l).length-g.1)
  (λtag vs h'=>tag=2/\vs=[]/\∃sA sT,RI c C.size c.size enc limit h' sA sT ((iH 0 0 (bH enc l)).map (·.1)) ((iH 0 0 (bH enc l)).map (·.2))) (0,⟨none,0,0⟩,⟨none,0,0⟩) ⟨cN _,rfl,G0⟩ ?_ ?_
 .rintro⟨k,sA,sT⟩ ⟨(at_:Int),u⟩ h4 ⟨D,I,g⟩
  dsimp only at D I g⊢;subst I;have O:dM (bH enc l)=dM ((bH enc l).take k)+dM ((bH enc l).drop k):=by rw[<-jO,eY]
  refine aE (λf=>?_) λf=>?_
  .rw[aU,aN,B]at f
   have p:k<(bH enc l).length:=by
    by_cases h:k<(bH enc l).length
    .exact h
    .rw[List.drop_eq_nil_of_le (by omega),FL]at O;omega
   obtain⟨t,ht⟩:∃t,(bH enc l)[k]?=some t:=⟨(bH enc l)[k]'p,cL p⟩;have R:=eM ht;have aw:=pO (enc:=enc) d k D;have ab:0<(l.drop (dM ((bH enc l).take k))).length:=by rw[cV];omega
   have al:eJ enc (l.drop (dM ((bH enc l).take k)))=t:=by
    have v:=jY (enc:=enc) (d.drop (dM ((bH enc l).take k))) ab;rw[aw.2,gY p,(cR.1 ht).2]at v;exact(KD v).1.symm
   have a0:=Kv (enc:=enc) d t R;have ao:=P2 (enc:=enc) d t R;have Y:=g.k;refine aM (UO (hb.ext (A.trans Y)) (by omega)) λ⟨(y1:Int),(y2:Int),_⟩ h5 e5 m=>?_;have m:y1=t.1/\y2=t.2:=by
    rcases m with⟨hn,_,_⟩|⟨_,_,_,m⟩
    .rcases hn with h|h|h
     .exact absurd he h
     .omega
     .omega
    .rw[cS,al]at m
     exact⟨congrArg Prod.fst m,congrArg Prod.snd m⟩
   obtain⟨rfl,rfl⟩:=m;dsimp only;refine aE (λF=>by rw[aU]at F;omega) λ_=>?_;have Z:=g.ext e5;have hlen:((iH 0 0 (bH enc l)).take k).length=k:=by rw[dJ,Fu];omega
   refine bX (b:=.sl) sA rfl Z.o.cells rfl (jG (k:=.i64) [t.1] (by intro z F;rw[dE.1 F];exact ao) (by simp) λh6 e6 o6=>uc (Z.ext e6) o6.lO (by rw[cE,hlen,As];omega) λh7 a2 g7=>?_);refine bX (b:=.sl) sT rfl g7.o.cells rfl (jG (k:=.i64) [((dM ((bH enc l).take k):Nat):Int)] (by intro z F;rw[dE.1 F];exact eS.2 (by omega)) (by simp) λh8 e8 o8=>ud (g7.ext e8) o8.lO (by rw[cE,hlen,As];omega) λh9 a3 g9=>?_);have v:((iH 0 0 (bH enc l)).take k).map (λy:El=>y.1)++[t.1]=((iH 0 0 (bH enc l)).take (k+1)).map λy:El=>y.1:=by rw[Pv ht];simp
   have c:((iH 0 0 (bH enc l)).take k).map (λy:El=>y.2)++[((dM ((bH enc l).take k):Nat):Int)]=((iH 0 0 (bH enc l)).take (k+1)).map λy:El=>y.2:=by rw[Pv ht];simp
   rw[v,c]at g9;have a4:dM ((bH enc l).take (k+1))=dM ((bH enc l).take k)+t.2.toNat:=by rw[eN,ht,jO];simp[dM]
   rw[aX (by omega) (by omega)];exact aC ⟨λ_=>⟨(k+1,a2,a3),(((dM ((bH enc l).take k):Nat):Int)+t.2,()),rfl,⟨p,by dsimp only;omega,g9⟩,by dsimp only;omega⟩,λV=>absurd rfl V⟩
  .rw[aY,aN,B]at f
   have p:k=(bH enc l).length:=by
    by_cases h:k<(bH enc l).length
    .obtain⟨t,ht⟩:∃t,(bH enc l)[k]?=some t:=⟨(bH enc l)[k]'h,cL h⟩
     have a0:=Kv (enc:=enc) d t (eM ht);rw[gY h,(cR.1 ht).2,nA]at O;omega
    .omega
   subst p;rw[iW (by rw[Fu];exact bM _)]at g;exact aC ⟨λV=>absurd V (by decide),λ_=>⟨rfl,rfl,sA,sT,g⟩⟩
 .rintro tag vs h4 ⟨rfl,rfl,sA,sT,g⟩
  refine bE (bO (aC ⟨rfl,A.trans g.k,(some (Cq c.size),0,()),rfl,?_⟩));have a1:=A.size;refine EV.ok ⟨c.size,enc,limit,sA,sT,⟨none,0,0⟩,iH 0 0 (bH enc l),[],λi=>c.size<=i/\i<h4.size⟩ he E (by omega) ⟨he,E,g.o.mono a1,⟨g.la.mono (by omega),g.lt.mono (by omega)⟩,cA.nil _ _ _,λk D=>(by cases D),⟨bM _,(g.o.lt rfl).2⟩,λi hi=>?_,λk D=>(by cases D),λa ha=>(by cases ha),λi hi=>⟨by have:=hi.1;omega,hi.2⟩,?_⟩ rfl rfl rfl rfl rfl λi hi=>by have:=hi.1;omega
  .rcases hi with⟨y,m,rfl⟩|⟨y,m,rfl⟩
   .have:=g.la.own.lt m;exact⟨⟨by omega,this.2⟩,by dsimp only;omega,λa ha=>(by cases ha)⟩
   .have:=g.lt.own.lt m;exact⟨⟨by omega,this.2⟩,by dsimp only;omega,λa ha=>(by cases ha)⟩
  .intro a ha
   dsimp only at ha⊢;have v:(iH 0 0 (bH enc l)).map (λy:El=>y.1)=(bH enc l).map (·.1):=Nc ..;rw[v]at ha;obtain⟨t,ht,rfl⟩:=dA.1 ha;exact((WG he d).1 t ht).1
theorem Xf{R:RX}(r:A9 n h R)(O:R.E.length<=1073741824):aS P (uA S (some (Cq R.b))) [tI] h λ(y:Int×Unit) _=>y.1=lE R.enc R.E:=by
 unfold uA aS;have c:=r.cur.1.len;rw[cE]at c;dsimp only at c;have f:=r.fit;refine bL (λ(q:Int×Int×Unit) h'=>∃i:Nat,i<=R.E.length/\q.2.1=i/\q.1=lE R.enc (R.E.take i)/\Ext h h') (λq _=>(R.E.length-q.2.1).toNat) (λtag vs h'=>tag=2/\vs=[aH (lE R.enc R.E)]/\Ext h h') ⟨0,cN _,rfl,rfl,Ext.refl _⟩ ?_ ?_
 .rintro⟨(s:Int),(T:Int),u⟩ F ⟨i,hi,m,C,d⟩
  dsimp only at m C⊢;subst m;subst C;have j:=r.ext d;refine aL rfl (aL rfl (bX (b:=.sl) R.sa rfl j.ob.cells rfl (aE (λo=>?_) λo=>?_)))
  .rw[aU,aN,c]at o
   obtain⟨⟨a,g⟩,t⟩:∃x,R.E[i]?=some x:=⟨R.E[i]'(by omega),cL (by omega)⟩;have A:=f a (dA.2 ⟨_,eM t,rfl⟩);have hlen:=oQ A;have K:=zW R.enc a;have B:(R.E.map (λx:El=>x.1)).getD ((i:Int)).toNat 0=a:=by rw[cS,gI,gP,t];rfl
   have I:lE R.enc (R.E.take (i+1))=lE R.enc (R.E.take i)+(cZ R.enc a).length:=by rw[eN,t,lU];simp[lE]
   have J:lE R.enc (R.E.take i)<=4*i:=by
    have:=(HJ (enc:=R.enc) (l:=(R.E.take i).map (·.1)) λb hb=>f b (by obtain⟨y,H,rfl⟩:=dA.1 hb;exact dA.2 ⟨y,rU H,rfl⟩)).2;rw[cE,dJ]at this;have G:lE R.enc (R.E.take i)<=4*min i R.E.length:=this;omega
   refine aL rfl (aL rfl (bX (b:=bI) R.enc rfl j.ob.cells rfl (aL rfl (aL rfl (bX (b:=.sl) R.sa rfl j.ob.cells rfl (qW j.cur.1.lO (by omega) (by rw[cE];dsimp only;omega) λ_=>?_))))));rw[B];refine aM (MU R.enc a) λ⟨(z:Int),_⟩ G D v=>?_;have v:z=bW R.enc a:=v;subst v;dsimp only;rw[aX (by omega) (by omega),aX (by omega) (by omega)];exact aC ⟨λ_=>⟨((lE R.enc (R.E.take i):Int)+bW R.enc a,(i:Int)+1,()),rfl,⟨i+1,by omega,by dsimp only;omega,by dsimp only;omega,d.trans D⟩,by dsimp only;omega⟩,λp=>absurd rfl p⟩
  .rw[aY,aN,c]at o
   have:i=R.E.length:=by omega
   subst this;rw[fF];exact aC ⟨λp=>absurd p (by decide),λ_=>⟨rfl,rfl,d⟩⟩
 .rintro tag vs F ⟨rfl,rfl,d⟩
  exact bE (fI (aC ⟨rfl,d,(_,()),rfl,rfl⟩))
end
section
variable{P:Program}{S:cH}{h:aG}{Q:Nat->bG->aG->Prop}
variable{x:GP}{e:iM}{i:Nat}{es:List iM}
theorem jW{f:Nat}{b:B}{z:b.den}{K:b.den->aK}(ok:(Sh.list jT).ok h x)(he:x.2[i]?=some e)(d:(jT.cells e)[f]?=some (b.inj z))(c:wp P (K z) h Q) :
  wp P (bF (bN (aJ x.1.aD) (eV (i:Int) x.1.len)) (bF (aJ (aB x.1.aD (aZ (bQ (i:Int)) 3))) (.load (.one b) (aB (aB x.1.aD (aZ (bQ (i:Int)) 3)) f) K))) h Q:=
 A0 (e:=jT) (x:=x) ok (by omega) (by rw[cS];exact he) rfl d c
theorem HG(ok:(Sh.list jT).ok h x)(he:x.2[i]?=some e):kW .i64 h e.2.2.1.1 e.2.2.1.2:=Sh.lO (ok.el he).2.2.1
def EW(enc limit:Int)(E:List El)(es:List iM)(r:Int):Prop:=
 (70000<es.length/\r=3)\/(es.length<=70000/\¬uP E.length 0 es/\r=2)\/(es.length<=70000/\uP E.length 0 es/\¬jV enc (aW es)/\r=11) \/
 (es.length<=70000/\uP E.length 0 es/\jV enc (aW es)/\limit<lE enc (iY E es)/\r=50)\/(es.length<=70000/\uP E.length 0 es/\jV enc (aW es)/\(lE enc (iY E es):Int)<=limit/\r=0)
theorem EW.fn{enc limit r m:Int}{E:List El}(h:EW enc limit E es r)(h':EW enc limit E es m):r=m:=by
 unfold EW at h h';by_cases c:es.length<=70000
 .by_cases d:uP E.length 0 es
  .by_cases f:jV enc (aW es)
   .by_cases j:(lE enc (iY E es):Int)<=limit
    .have g:¬limit<lE enc (iY E es):=by omega
     have b:¬70000<es.length:=by omega
     simp only[c,d,f,j,g,b,true_and,false_and,not_true_eq_false,false_or,or_false]at h h';rw[h,h']
    .have g:limit<lE enc (iY E es):=by omega
     have b:¬70000<es.length:=by omega
     simp only[c,d,f,j,g,b,true_and,false_and,not_true_eq_false,false_or,or_false]at h h';rw[h,h']
   .have b:¬70000<es.length:=by omega
    simp only[c,d,f,b,true_and,false_and,not_true_eq_false,not_false_eq_true,false_or,or_false]at h h';rw[h,h']
  .have b:¬70000<es.length:=by omega
   simp only[c,d,b,true_and,false_and,not_true_eq_false,not_false_eq_true,false_or,or_false]at h h';rw[h,h']
 .have b:70000<es.length:=by omega
  simp only[c,b,true_and,false_and,or_false]at h h';rw[h,h']
theorem ah{enc limit r:Int}(he:eL enc){ps:List Pc}(hb:∀q,q∈ps->cC q.2)(h:Lu enc limit (cQ enc ps) es r):EW enc limit (iG enc ps) es r:=by
 have f:(cQ enc ps).length=(iG enc ps).length:=(yU ..).symm;have ro:=TS he hb h;cases h with
 |many h=>exact .inl ⟨h,rfl⟩
 |place a b=>rw[f]at b;exact .inr (.inl ⟨a,b,rfl⟩)
 |fit a b c=>rw[f]at b;exact .inr (.inr (.inl ⟨a,b,c,rfl⟩))
 |full a b c d=>
  rw[f]at b;refine .inr (.inr (.inr (.inl ⟨a,b,c,?_,rfl⟩)));by_cases h:(lE enc (iY (iG enc ps) es):Int)<=limit
  .have:=ro.2 ⟨a,b,c,h⟩;omega
  .omega
 |ok a b c d=>
  have:=ro.1 rfl;exact .inr (.inr (.inr (.inr ⟨a,this.2.1,this.2.2.1,this.2.2.2,rfl⟩)))
theorem Kn{enc:Int}{E:List El}:∀{es:List iM} {a:Int},jV enc (aW es)->fE enc (aW es)<=(lE enc (fwd E a es):Int)
 |[],a,_=>by simp[aW,fE]
 |e::es,a,b=>by
  have d:aW (e::es)=e.2.2.1.2++aW es:=by simp[aW]
  rw[d]at b⊢;have f:=Kn (E:=E) (es:=es) (a:=e.2.1) λx c=>b x (qI _ c);have s1:=Oe (enc:=enc) (l:=e.2.2.1.2) λx c=>b x (oV _ c);rw[nJ];simp only[fwd];rw[lU,lU,SE];omega
theorem Xh{n:Nat}{R:RX}(r:A9 n h R)(ok:(Sh.list jT).ok h x)(hE:R.E.length<=65536)(hL:x.2.length<=1073741824) :
  aS P (pH S (some (Cq R.b)) x.1) [tI] h λ(y:Int×Unit) _=>(70000<x.2.length/\y.1=3)\/(x.2.length<=70000/\¬uP R.E.length 0 x.2/\y.1=2)\/(x.2.length<=70000/\uP R.E.length 0 x.2/\¬jV R.enc (aW x.2)/\y.1=11)\/(x.2.length<=70000/\uP R.E.length 0 x.2/\jV R.enc (aW x.2)/\y.1=0):=by
 unfold pH aS;have g:=ok.len;refine aE (λhc=>?_) λhc=>?_
 .rw[dL,aN,g]at hc
  exact aC ⟨rfl,Ext.refl _,(3,()),rfl, .inl ⟨by omega,rfl⟩⟩
 rw[gD,aN,g]at hc;have A:x.2.length<=70000:=by omega
 refine bL (λ(q:Int×Int×Unit) h'=>∃i:Nat,i<=x.2.length/\q.2.1=i/\q.1=dG 0 (x.2.take i)/\uP R.E.length 0 (x.2.take i)/\Ext h h') (λq _=>(x.2.length-q.2.1).toNat)
  (λtag vs h'=>Ext h h'/\((tag=2/\vs=[]/\uP R.E.length 0 x.2)\/(tag=1/\vs=[aH 2]/\¬uP R.E.length 0 x.2))) ⟨0,cN _,rfl,rfl,trivial,Ext.refl _⟩ ?_ ?_
 .rintro⟨(at_:Int),(i':Int),u⟩ h1 ⟨i,ao,C,V,d,D⟩
  dsimp only at C V⊢;subst C;refine aE (λF=>?_) λF=>?_
  .rw[aU,aN,g]at F
   obtain⟨e,f⟩:∃e,x.2[i]?=some e:=⟨x.2[i]'(by omega),cL (by omega)⟩;have ab:x.2.take (i+1)=x.2.take i++[e]:=by rw[eN,f];rfl
   refine DZ (ok.ext D) f λa h2 B ha o2=>?_;have r2:=r.ext (D.trans B);have O:=r2.cur.1.len;rw[cE]at O;dsimp only at O;refine bZ (¬(dG 0 (x.2.take i)<=e.1/\e.1<=e.2.1/\e.2.1<=R.E.length)) ?_ λbb h3 o W=>?_
   .subst V
    refine bX (b:=bI) e.1 rfl o2.cells rfl (aE (λm=>aC ⟨rfl,Ext.refl _,true,rfl,Iff.intro (λ_ h=>by rw[aU]at m;omega) λ_=>rfl⟩) λm=>bX (b:=bI) e.2.1 rfl o2.cells rfl (bX (b:=bI) e.1 rfl o2.cells rfl (aE (λhy=>aC ⟨rfl,Ext.refl _,true,rfl,Iff.intro (λ_ h=>by rw[aU]at hy;omega) λ_=>rfl⟩) λhy=>bX (b:=bI) e.2.1 rfl o2.cells rfl (aL rfl (aL rfl (bX (b:=.sl) R.sa rfl r2.ob.cells rfl (aC ⟨rfl,Ext.refl _,_,rfl,?_⟩)))))));rw[aY]at m hy;rw[dL,aN,O];omega
   have U:=(D.trans B).trans o;refine aE (λm=>aC ⟨λc=>absurd c (by decide),λ_=>⟨U, .inr ⟨rfl,rfl,λhp=>W.1 m (hp.at f)⟩⟩⟩) λm=>?_;have K:dG 0 (x.2.take i)<=e.1/\e.1<=e.2.1/\e.2.1<=R.E.length:=by
    by_cases c:dG 0 (x.2.take i)<=e.1/\e.1<=e.2.1/\e.2.1<=R.E.length
    .exact c
    .rw[W.2 c]at m;cases m
   refine bX (b:=bI) e.2.1 rfl (o2.ext o).cells rfl ?_;rw[aX (by omega) (by omega)];exact aC ⟨λ_=>⟨(e.2.1,(i:Int)+1,()),rfl,⟨i+1,by omega,by dsimp only;omega,by rw[ab,zQ],by rw[ab,uP.append];exact⟨d,K.1,K.2.1,K.2.2,trivial⟩,U⟩,by dsimp only;omega⟩,λc=>absurd rfl c⟩
  .rw[aY,aN,g]at F
   have:i=x.2.length:=by omega
   subst this;rw[fF]at d;exact aC ⟨λc=>absurd c (by decide),λ_=>⟨D, .inl ⟨rfl,rfl,d⟩⟩⟩
 rintro tag vs h1 ⟨D,⟨rfl,rfl,d⟩|⟨rfl,rfl,d⟩⟩
 .refine bE (bO ?_)
  refine bL (λ(q:Int×Unit) h'=>∃i:Nat,i<=x.2.length/\q.1=i/\jV R.enc (aW (x.2.take i))/\Ext h h') (λq _=>(x.2.length-q.1).toNat)
   (λtag vs h'=>Ext h h'/\((tag=4/\vs=[]/\jV R.enc (aW x.2))\/(tag=1/\vs=[aH 11]/\¬jV R.enc (aW x.2)))) ⟨0,cN _,rfl,λa ha=>(by simp[aW]at ha),D⟩ ?_ ?_
  .rintro⟨(i':Int),u⟩ h2 ⟨i,ao,C,G,B⟩
   dsimp only at C⊢;subst C;refine aE (λF=>?_) λF=>?_
   .rw[aU,aN,g]at F
    obtain⟨e,f⟩:∃e,x.2[i]?=some e:=⟨x.2[i]'(by omega),cL (by omega)⟩;refine bL (λ(q:Int×Unit) h'=>∃j:Nat,j<=e.2.2.1.2.length/\q.1=j/\jV R.enc (e.2.2.1.2.take j)/\Ext h h') (λq _=>(e.2.2.1.2.length-q.1).toNat)
     (λtag vs h'=>Ext h h'/\((tag=6/\vs=[]/\jV R.enc e.2.2.1.2)\/(tag=1/\vs=[aH 11]/\¬jV R.enc (aW x.2)))) ⟨0,cN _,rfl,λa ha=>(by simp at ha),B⟩ ?_ ?_
    .rintro⟨(j':Int),v⟩ h3 ⟨j,a2,Y,I,o⟩
     dsimp only at Y⊢;subst Y;have T:=ok.ext o;have ls:=HG T f;have Z:=ls.len;have a1:=ls.bound;have r3:=r.ext o;refine jW (b:=.sl) (z:=e.2.2.1.1) T f rfl (aE (λm=>?_) λm=>?_)
     .rw[aU,aN,Z]at m
      obtain⟨b,hb⟩:∃b,e.2.2.1.2[j]?=some b:=⟨e.2.2.1.2[j]'(by omega),cL (by omega)⟩;have al:e.2.2.1.2.getD ((j:Int)).toNat 0=b:=by rw[cS,gI,hb];rfl
      have a0:e.2.2.1.2.take (j+1)=e.2.2.1.2.take j++[b]:=by rw[eN,hb];rfl
      refine aL rfl (aL rfl (bX (b:=bI) R.enc rfl r3.ob.cells rfl (jW (b:=.sl) (z:=e.2.2.1.1) T f rfl (qW ls (by omega) (by omega) λ_=>?_))));rw[al];refine aM (MT R.enc b) λ⟨(ft:Bool),_⟩ h4 e4 H=>?_;have H:ft=decide (0<bW R.enc b):=H;dsimp only;refine aE (λJ=>aC ⟨λc=>absurd c (by decide),λ_=>⟨o.trans e4, .inr ⟨rfl,rfl,λt=>?_⟩⟩⟩) λJ=>?_
      .rw[dF,H]at J
       exact of_decide_eq_false J (t b (GB.2 ⟨e,eM f,eM hb⟩))
      rw[eC,H]at J;have aw:=of_decide_eq_true J;rw[aX (by omega) (by omega)];refine aC ⟨λ_=>⟨((j:Int)+1,()),rfl,⟨j+1,by omega,by dsimp only;omega,?_,o.trans e4⟩,by dsimp only;omega⟩,λc=>absurd rfl c⟩;rw[a0];intro z p;rcases dH.1 p with p|p
      .exact I z p
      .rw[dE.1 p];exact aw
     .rw[aY,aN,Z]at m
      have:j=e.2.2.1.2.length:=by omega
      subst this;rw[fF]at I;exact aC ⟨λc=>absurd c (by decide),λ_=>⟨o, .inl ⟨rfl,rfl,I⟩⟩⟩
    .rintro tag vs h3 ⟨o,⟨rfl,rfl,t⟩|⟨rfl,rfl,t⟩⟩
     .refine bE (bO ?_)
      rw[aX (by omega) (by omega)];refine aC ⟨λ_=>⟨((i:Int)+1,()),rfl,⟨i+1,by omega,by dsimp only;omega,?_,o⟩,by dsimp only;omega⟩,λc=>absurd rfl c⟩;rw[uS f];intro z p;rcases dH.1 p with p|p
      .exact G z p
      .exact t z p
     .exact nP (by decide) (bE (fI (aC ⟨λc=>absurd c (by decide),λ_=>⟨o, .inr ⟨rfl,rfl,t⟩⟩⟩)))
   .rw[aY,aN,g]at F
    have:i=x.2.length:=by omega
    subst this;rw[fF]at G;exact aC ⟨λc=>absurd c (by decide),λ_=>⟨B, .inl ⟨rfl,rfl,G⟩⟩⟩
  .rintro tag vs h2 ⟨B,⟨rfl,rfl,t⟩|⟨rfl,rfl,t⟩⟩
   .exact bE (bO (aC ⟨rfl,B,(0,()),rfl, .inr (.inr (.inr ⟨A,d,t,rfl⟩))⟩))
   .exact nP (by decide) (bE (fI (aC ⟨rfl,B,(11,()),rfl, .inr (.inr (.inl ⟨A,d,t,rfl⟩))⟩)))
 .exact nP (by decide) (bE (fI (aC ⟨rfl,D,(2,()),rfl, .inr (.inl ⟨A,d,rfl⟩)⟩)))
end
end Go.Sw.Piece
