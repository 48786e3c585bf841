
/- Steps. -/
import Derived.Test.YtncolficnfcdcaaGreatSwG3
set_option linter.unusedVariables false
set_option linter.unusedSimpArgs false
set_option maxRecDepth 100000
set_option maxHeartbeats 1000000
namespace Go.Sw.Hist
open Go.Sw.Any Go.Sw.Codec Go.Sw.Piece
section
variable{P:Program}{S:cH}{h:aG}{Q:Nat->bG->aG->Prop}{n k:Nat}{rho:Nat->Nat}{X:Bk}{D:Doc}{p:Addr}{sl sw:Sl}{vs:bG}{ls:bB}
variable{M:Mo}{N:Nat}
theorem gQ.ext'{h':aG}(q:gQ S n k rho h p X D sl sw vs ls)(e:Ext h h'):gQ S n k rho h' p X D sl sw vs ls where
 bk:=q.bk.ext e
 doc:=q.doc.ext e
 ob:=q.ob.aP (aV.bD (F:=λ_=>False) e) (λ_ _ f=>f.elim) λ_ _ h=>h
 le:=q.le.aP (aV.bD (F:=λ_=>False) e) (λ_ _ f=>f.elim) λ_ _ h=>h
 lw:=q.lw.aP (aV.bD (F:=λ_=>False) e) (λ_ _ f=>f.elim) λ_ _ h=>h
theorem Wx{m:Nat}{s:Sl}{l:iO}{i j:Nat}{v:Int}{K:Int->aK}(o:iV m h s l)(hi:i<l.length)(g:(Cy (el l i))[j]?=some (aH v))(d:wp P (K v) h Q) :
  wp P (bF (bN (aJ s.aD) (eV (i:Int) s.len))<|bF (bN (aJ (aB s.aD (aZ (bQ (i:Int)) 2))) Bool.true)<|.load (tI) (aB (aB s.aD (aZ (bQ (i:Int)) 2)) j) K) h Q:=by
 have hlen:=iV.len o;obtain⟨a,ea,c⟩:=sN (m:=2) (λ_=>rfl) (by decide) o (EC hi);refine aL (fC.2 ⟨by rw[ea];rfl,kN.2 ⟨by omega,by omega⟩⟩) ?_;have f:aB s.aD (aZ (bQ (i:Int)) 2)=some (a.add (i*2)):=by rw[ea,hO,eX,cS];rfl
 rw[f];exact aL rfl (bX (b:=bI) v rfl c g d)
theorem YZ(C:Sf P S)(q:gQ S n k rho h p X D sl sw vs ls)(b:EP X D M N):aS P (vO S (some p)) [tB] h λ(y:Bool×Unit) _=>y.1=true:=by
 unfold vO aS;refine q.rd (b:=.ptr) (some X.b) rfl ?_;refine aM (YH C q.bk b.inv) λ⟨(s:Sl),_⟩ r z os=>?_;have os:iV h.size r s M.marks:=os;have c:=q.ext' z;refine c.rd (b:=.ptr) (some D.b) rfl (c.doc.rd (b:=.sl) D.sm rfl ?_);have m:=b.dm.ms;have A:=iV.len os;have B:=iV.len c.doc.ma.1;have E:aQ s.len=(M.marks.length:Int):=by rw[aN,A]
 have G:aQ D.sm.len=(M.marks.length:Int):=by rw[aN,B,m]
 have H:=os.2.1;have I:=os.2.2.1;dsimp only;rw[E,G];refine aE (λd=>by rw[kH]at d;exact absurd rfl d) λ_=>?_;have om:=c.doc.ma.1;rw[m]at om;refine bL (λ(x:Int×Unit) h'=>h'=r/\∃i:Nat,x.1=i/\i<=M.marks.length) (λx _=>((M.marks.length:Int)-x.1).toNat)
  (λt vs h'=>h'=r/\t=2/\vs=[]) ⟨rfl,0,rfl,cN _⟩ ?_ ?_
 .rintro⟨(K:Int),u⟩ h2 ⟨rfl,i,hi,hle⟩
  dsimp only at hi⊢;subst hi;refine aE (λd=>?_) λd=>aC ⟨λw=>absurd w (by decide),λ_=>⟨rfl,rfl,rfl⟩⟩;rw[aU]at d;have f:i<M.marks.length:=by omega
  refine gA (tys:=[tB]) (λ(y:Bool×Unit) h'=>y.1=false/\h'=h2) ?_ λ⟨(y:Bool),_⟩ h3 J g=>?_
  .refine Wx (j:=0) (v:=(el M.marks i).1) os f rfl (c.rd (b:=.ptr) (some D.b) rfl (c.doc.rd (b:=.sl) D.sm rfl (Ob (j:=0) (v:=(el M.marks i).1) om f rfl (aE (λo=>by rw[kH]at o;exact absurd rfl o) λ_=>?_))))
   refine Wx (j:=1) (v:=(el M.marks i).2) os f rfl (c.rd (b:=.ptr) (some D.b) rfl (c.doc.rd (b:=.sl) D.sm rfl (Ob (j:=1) (v:=(el M.marks i).2) om f rfl (aC ⟨rfl,Ext.refl _,(_,()),rfl,?_,rfl⟩))));show HD (el M.marks i).2 (el M.marks i).2=false;rw[lQ]
  .obtain⟨g,rfl⟩:=g
   have g:y=false:=g;subst g;refine aE (λd=>by cases d) λ_=>?_;rw[aX (by omega) (by omega)];exact aC ⟨λ_=>⟨((i:Int)+1,()),rfl,⟨rfl,i+1,by push_cast;rfl,by omega⟩,by dsimp only;omega⟩,λw=>absurd rfl w⟩
 .rintro t vs h2 ⟨rfl,rfl,rfl⟩
  exact bE (bO (aC ⟨rfl,z,(true,()),rfl,rfl⟩))
def H5(P:Program)(S:cH):Prop:=∀(n k:Nat) (rho:Nat->Nat) (h:aG) (p:Addr) (X:Bk) (D:Doc) (sl sw:Sl) (vs:bG) (ls:bB) (M:Mo) (N:Nat),gQ S n k rho h p X D sl sw vs ls->EP X D M N->aS P (vO S (some p)) [tB] h λ(y:Bool×Unit) _=>y.1=true
theorem ZN(C:Sf P S):H5 P S:=λ_ _ _ _ _ _ _ _ _ _ _ _ _ q b=>YZ C q b
theorem gr(Y:kB P S)(V:Cl0 P S)(W:Ym P S)(q:gQ S n k rho h p X D sl sw vs ls)(b:EP X D M N)(hN:N<=1073741824)(o1 o2 j z:Int)(o5 o6:Sl)(C:o1=13->H5 P S) :
  aS P (AG S (some p) (o1,o2,j,z,o5,o6,())) [tB] h λ(y:Bool×Unit) _=>y.1=true:=by
 unfold AG aS;refine λel=>?_;have m:Ext h (h.push (.cells [aH o1,aH o2,aH j,aH z,dN o5,dN o6].toArray el)):=Ext.push ..;have H:cA h.size 1 (h.push (.cells [aH o1,aH o2,aH j,aH z,dN o5,dN o6].toArray el)) ⟨some ⟨h.size,0,none⟩,6,6⟩ [aH o1,aH o2,aH j,aH z,dN o5,dN o6]:=bR rfl (by decide) (by decide);show wp P _ (h.push (.cells [aH o1,aH o2,aH j,aH z,dN o5,dN o6].toArray el)) _;generalize h.push (.cells [aH o1,aH o2,aH j,aH z,dN o5,dN o6].toArray el)=h1 at m H⊢;have d:=q.ext' m;have ok:=b.ok;have hE:=b.dm.E;have I:D.E.length<=65536:=by have:=ok.len;rw[hE];omega
 have B:=ok.EY;unfold Mo.all at B;rw[bP,bP]at B;have J:iG X.T.enc X.T.cur.ps=D.E:=by rw[hE];exact b.inv.lk.E
 refine bX (b:=bI) o1 rfl H.cells rfl ?_;refine aE (λ_=>?_) λ_=>aE (λ_=>?_) λ_=>aE (λ_=>?_) λ_=>aE (λZ=>?_) λ_=>aE (λ_=>?_) λ_=>aE (λ_=>?_) λ_=>aE (λ_=>?_) λ_=>aE (λ_=>?_) λ_=>aC ⟨rfl,m,(true,()),rfl,rfl⟩
 .refine d.rd (b:=.ptr) (some X.b) rfl (d.rd (b:=.ptr) (some D.b) rfl ?_)
  refine aM (VR d.bk) λ⟨(tp:OA),_⟩ h2 f ht=>?_;have ht:tp=some X.T.p:=ht;subst ht;have g:=d.ext' f;refine g.ck rfl (aM (VZ Y V W g.bk.t g.doc J I) λ⟨(y:Bool),_⟩ h3 o c=>aC ⟨rfl,(m.trans f).trans o,(y,()),rfl,c⟩)
 .refine d.rd (b:=.ptr) (some X.T.p) rfl (d.rd (b:=.ptr) (some D.b) rfl ?_)
  exact aM (VZ Y V W d.bk.t d.doc J I) λ⟨(y:Bool),_⟩ h3 o c=>aC ⟨rfl,m.trans o,(y,()),rfl,c⟩
 .refine d.rd (b:=.ptr) (some X.b) rfl (bX (b:=bI) j rfl H.cells rfl ?_)
  refine aM (uv d.bk b.inv) λ⟨(L:Int),(O:Int),_⟩ h2 f c=>?_;obtain⟨r,u⟩:=c;have r:L=(M.EJ j).1:=r;have u:O=(M.EJ j).2:=u;have g:=d.ext' f;have ab:=(aV.bD (F:=λ_=>False) f).own H λ_ _ x=>x;refine g.rd (b:=.ptr) (some D.b) rfl (bX (b:=bI) j rfl ab.cells rfl ?_);refine aM (qg g.doc b.dm j) λ⟨(R:Int),(U:Int),_⟩ h3 o K=>?_;obtain⟨v,w⟩:=K;have v:R=(M.EJ j).1:=v;have w:U=(M.EJ j).2:=w;subst r;subst u;subst v;subst w;refine gA (tys:=[tB]) (λ(y:Bool×Unit) _=>y.1=true) ?_ λ⟨(y:Bool),_⟩ h4 A c=>aC ⟨rfl,((m.trans f).trans o).trans A,(y,()),rfl,c⟩;refine aM Hk λ⟨(a:Int),_⟩ h4 A ha=>?_;have ha:a=(M.EJ j).2:=ha;subst ha;refine aE (λ_=>aC ⟨rfl,A,(_,()),rfl,cK.2 rfl⟩) λG=>by rw[dS]at G;exact absurd rfl G
 .exact aM (C (cK.1 Z) _ _ _ _ _ _ _ _ _ _ _ _ _ d b) λ⟨(y:Bool),_⟩ h2 f c=>aC ⟨rfl,m.trans f,(y,()),rfl,c⟩
 .refine d.rd (b:=.ptr) (some X.b) rfl (d.rd (b:=.ptr) (some D.b) rfl (d.doc.rd (b:=.sl) D.sw rfl ?_))
  refine aM (Yh d.bk b.inv (by omega)) λ⟨(s:Sl),_⟩ h2 f os=>?_;have os:bU h1.size .i64 h2 s M.watched:=os;have g:=d.ext' f;refine g.doc.yg rfl (g.ck rfl ?_);have ow:=g.doc.wa.1;rw[b.dm.ws]at ow;refine aM (E2 os.lO ow.lO) λ⟨(y:Bool),_⟩ h3 o c=>aC ⟨rfl,(m.trans f).trans o,(y,()),rfl,?_⟩;have c:y=decide _:=c;rw[c];exact decide_eq_true rfl
 .refine d.rd (b:=.ptr) (some X.b) rfl ?_
  refine aM (ju d.bk b.inv) λ⟨(L:Int),(O:Int),_⟩ h2 f c=>?_;obtain⟨r,u⟩:=c;have r:L=M.done.length:=r;have u:O=M.next.length:=u
  have g:=d.ext' f;refine g.rd (b:=.ptr) (some D.b) rfl ?_;refine aM (Y9 g.doc b.dm (by omega)) λ⟨(R:Int),(U:Int),_⟩ h3 o K=>?_;obtain⟨v,w⟩:=K;have v:R=M.done.length:=v;have w:U=M.next.length:=w
  subst r;subst u;subst v;subst w;refine gA (tys:=[tB]) (λ(y:Bool×Unit) _=>y.1=true) ?_ λ⟨(y:Bool),_⟩ h4 A c=>aC ⟨rfl,((m.trans f).trans o).trans A,(y,()),rfl,c⟩;exact aE (λ_=>aC ⟨rfl,Ext.refl _,(_,()),rfl,cK.2 rfl⟩) λG=>by rw[dS]at G;exact absurd rfl G
 .refine d.rd (b:=.ptr) (some X.b) rfl (d.rd (b:=.ptr) (some D.b) rfl ?_)
  refine aM (jv d.bk b.inv) λ⟨(y:Bool),_⟩ h2 f c=>?_;have c:y=M.Ep:=c;subst c;have g:=d.ext' f;refine g.ck rfl (aM (gx g.doc b.dm) λ⟨(y:Bool),_⟩ h3 o c=>aC ⟨rfl,(m.trans f).trans o,(_,()),rfl,?_⟩);have c:y=M.Ep:=c;subst c;show Zg M.Ep M.Ep=true;simp[Zg]
 .refine d.rd (b:=.ptr) (some X.b) rfl (d.rd (b:=.ptr) (some D.b) rfl (d.doc.rd (b:=.bool) D.op rfl ?_))
  refine aM (dc d.bk b.inv) λ⟨(y:Bool),_⟩ h2 f c=>?_;have c:y=M.now.isSome:=c;subst c;have g:=d.ext' f;refine g.doc.yg rfl (g.ck rfl (aC ⟨rfl,m.trans f,(_,()),rfl,?_⟩));show Zg M.now.isSome D.op=true;rw[b.dm.op];simp[Zg]
end
section
variable{P:Program}{S:cH}{h:aG}{Q:Nat->bG->aG->Prop}{n k:Nat}{rho:Nat->Nat}{X:Bk}{D:Doc}{p:Addr}{sl sw:Sl}{vs:bG}{ls:bB}{M:Mo}{N:Nat}
variable{h2 h3:aG}{M':Mo}{N':Nat}
theorem iA.pre{h1:aG}{b:Nat->Nat}(st:qN k h rho h1 b)(d:iA S n k h1 b h2 p X D M' N'):iA S n k h rho h2 p X D M' N':=by
 obtain⟨c,j,g,s1,s2,v,l,f,o,m,sm,hb⟩:=d;exact⟨c,j,g,s1,s2,v,l,st.trans f,o,m,sm,hb⟩
theorem iA.ext{h2:aG}(q:gQ S n k rho h p X D sl sw vs ls)(b:EP X D M N)(e:Ext h h2):iA S n k h rho h2 p X D M N:=
 ⟨_,X,D,sl,sw,vs,ls,(cW.nH (k:=k) e).Vv ⟨bM _,by omega⟩,q.ext e,b,Sm.refl X,rfl⟩
theorem iA.more{f:Nat}(d:iA S n k h rho h2 p X D M' N')(o:N'<=f):iA S n k h rho h2 p X D M' f:=by
 obtain⟨c,m,j,s1,s2,v,l,g,q,b,sm,hb⟩:=d;exact⟨c,m,j,s1,s2,v,l,g,q,⟨b.inv.mono o,b.dm,b.enc,b.Bq⟩,sm,hb⟩
theorem iA.Zk(d:iA S n k h rho h2 p X D M' N')(e:Ext h2 h3):iA S n k h rho h3 p X D M' N':=by
 obtain⟨m,f,c,s1,s2,v,l,b,j,g,sm,hb⟩:=d;exact⟨_,f,c,s1,s2,v,l,b.trans ((cW.nH (k:=k) e).Vv ⟨bM _,by omega⟩),j.ext e,g,sm,hb⟩
theorem kA.Zk{k:Nat}(d:kA k h rho h2 D M')(e:Ext h2 h3):kA k h rho h3 D M':=by
 obtain⟨g,c,b,d2,f,hb⟩:=d;exact⟨_,c,b.trans (cW.nH e),d2.zr e,f,hb⟩
theorem Rp{A B:aK}{m vsB:bG}{tyA tyB:List Ty}{xA:Ts.den tyA}{xB:Ts.den tyB}{mid:aK->aK}{r:Ts.den tyA->aK}{KB:Ts.den tyB->aK}
  (q:gQ S n k rho h p X D sl sw vs ls) (b:EP X D M N)
  (w:wp P A h λtg vs h'=>tg=0/\vs=m/\lH S n k X h rho h' M' N') (v:m=Ts.inj tyA xA)
  (u:∀f c o,cW k h rho f c->gQ S n k c f p o D sl sw vs ls->(∀h2,kA (k+11) f c h2 D M'->iA S n k h rho h2 p X D M' N')->wp P (r xA) f Q):wp P (.call A tyA r) h Q:=by
 refine eG w λtg vs f z=>?_;obtain⟨rfl,rfl,c,o,g,t,i1,j⟩:=z;exact⟨rfl,xA,v,u f c o g (q.book g t j) λh2 d=>iA.of q ⟨b.enc,b.Bq⟩ g t i1 j d⟩
end
section
variable{P:Program}{S:cH}{h:aG}{Q:Nat->bG->aG->Prop}{n k:Nat}{rho:Nat->Nat}{X:Bk}{D:Doc}{p:Addr}{sl sw:Sl}{vs:bG}{ls:bB}{M M':Mo}{N N':Nat}
theorem bm{A:aK}{B:OA->aK}{u v:Int}(q:gQ S n k rho h p X D sl sw vs ls)(b:EP X D M N)
  (C:wp P A h λtg vs h'=>tg=0/\vs=[aH u,aH v]/\lH S n k X h rho h' M' N')
  (E:∀d c,eZ (k+11) c d D->wp P (B (some D.b)) d λtg vs h2=>tg=0/\vs=[aH u,aH v]/\kA (k+11) d c h2 D M') :
  wp P (.call A [tI, tI] λ(o:Int×Int×Unit)=>bF (aJ (some p))<|bF (aJ (some p))<|.load (tP) (aB (some p) 2) λ(H:OA)=>.call (B H) [tI, tI] λ(z:Int×Int×Unit)=>
   .bind (.call (hQ S o.2.1) [tI] λ(I:Int×Unit)=>aR (gM I.1 z.2.1) (.ret 0 [.bool (gM o.1 z.1)]) (.ret 0 [.bool Bool.false])) λt w=>aR (jL t 0) (.cast [tB] w λ(r:Bool×Unit)=>.ret 1 [.bool r.1]) .fail) h
   λtg vs h2=>tg=1/\vs=[.bool true]/\iA S n k h rho h2 p X D M' N':=by
 refine Rp (xA:=(u,v,())) (xB:=(u,v,())) (tyB:=[tI, tI]) (B:=.fail) (vsB:=[]) (mid:=id) (KB:=λ_=>.fail) q b C rfl λd c K J m fin=>?_;refine m.rd (b:=.ptr) (some D.b) rfl ?_;refine eG (E d c m.doc) λtg vs h2 G=>?_;obtain⟨rfl,rfl,d2⟩:=G;refine⟨rfl,(u,v,()),rfl,?_⟩;refine gA (tys:=[tB]) (λ(y:Bool×Unit) _=>y.1=true) ?_ λ⟨(y:Bool),_⟩ h3 f g=>?_
 .refine aM Hk λ⟨(a:Int),_⟩ h3 f ha=>?_
  have ha:a=v:=ha;subst ha;refine aE (λ_=>aC ⟨rfl,f,(_,()),rfl,cK.2 rfl⟩) λj=>by rw[dS]at j;exact absurd rfl j
 .have g:y=true:=g
  subst g;exact aC ⟨rfl,rfl,fin h3 (d2.Zk f)⟩
theorem lv{A:aK}{B:OA->aK}{u:Int}{m:Addr}{os:bG}{x:Int}(q:gQ S n k rho h p X D sl sw vs ls)(b:EP X D M N)(oo:tJ 0 1 rho h ⟨some m,6,6⟩ os)(Z:os[3]?=some (aH x))
  (T:wp P A h λtg vs h'=>tg=0/\vs=[aH u]/\lH S n k X h rho h' M' N')
  (U:∀v d,eZ (k+11) d v D->wp P (B (some D.b)) v λtg vs h2=>tg=0/\vs=[aH u]/\kA (k+11) v d h2 D M') :
  wp P (.call A [tI] λ(r1:Int×Unit)=>.check (aB (some m) 3) [aH x]<|.check (aB (some p) 2) [.pointer (some D.b)]<|.call (hQ S r1.1) [tI] λ(r2:Int×Unit)=>
   .check (aB (some m) 3) [aH x]<|.check (aB (some p) 2) [.pointer (some D.b)]<|.call (B (some D.b)) [tI] λ(r3:Int×Unit)=>.ret 1 [.bool (gM r2.1 r3.1)]) h
   λtg vs h2=>tg=1/\vs=[.bool true]/\iA S n k h rho h2 p X D M' N':=by
 have ck:∀{g:aG} {r:Nat->Nat} {K:aK} {Q:Nat->bG->aG->Prop},tJ 0 1 r g ⟨some m,6,6⟩ os->wp P K g Q->wp P (.check (aB (some m) 3) [aH x] K) g Q:=λo V=>by
  refine⟨⟨_,rfl,aI.2 λj w I=>?_⟩,V⟩;cases j with
  |zero=>cases I;rw[add_zero'];exact aI.1 o.1.cells 3 _ Z
  |succ j=>simp at I
 refine Rp (xA:=(u,())) (xB:=(u,())) (tyB:=[tI]) (B:=.fail) (vsB:=[]) (mid:=id) (KB:=λ_=>.fail) q b T rfl λv d X1 C E fin=>?_;have z:=oo.aP (rho':=d) C.c (λi hi hf=>by omega) λi hi Y=>by rw[C.old i hi (by omega)];exact Y
 refine ck z (E.ck rfl (aM Hk λ⟨(a:Int),_⟩ h2 t ha=>?_));have ha:a=u:=ha;subst ha;have J:=z.aP (rho':=d) (aV.bD (F:=λ_=>False) t) (λ_ _ f=>f.elim) λ_ _ h=>h;have q2:=E.ext' t;refine ck J (q2.ck rfl ?_);have L:=E.ext t;refine eG (U h2 _ L.doc) λtg vs h3 W=>?_;obtain⟨rfl,rfl,d3⟩:=W;refine⟨rfl,(a,()),rfl,aC ⟨rfl,?_,fin h3 ?_⟩⟩
 .show[Value.bool (gM a a)]=_
  rw[cK.2 rfl]
 .obtain⟨G,R,O,H,m3,hb⟩:=d3
  exact⟨G,R,(cW.nH t).trans O,H,m3,hb⟩
end
section
variable{P:Program}{S:cH}{h:aG}{Q:Nat->bG->aG->Prop}{n k:Nat}{rho:Nat->Nat}{X:Bk}{D:Doc}{p:Addr}{sl sw:Sl}{vs:bG}{ls:bB}{M M':Mo}{N N':Nat}
theorem ua{A:aK}{B:OA->aK}{u:Int}{m:Addr}{os:bG}{x z:Int}(q:gQ S n k rho h p X D sl sw vs ls)(b:EP X D M N)(oo:tJ 0 1 rho h ⟨some m,6,6⟩ os)(hx:os[3]?=some (aH x))(hz:os[2]?=some (aH z))
  (W:wp P A h λtg vs h'=>tg=0/\vs=[aH u]/\lH S n k X h rho h' M' N')
  (Y:∀E d,eZ (k+11) d E D->wp P (B (some D.b)) E λtg vs h2=>tg=0/\vs=[aH u]/\kA (k+11) E d h2 D M') :
  wp P (.call A [tI] λ(r1:Int×Unit)=>.check (aB (some m) 3) [aH x]<|.check (aB (some m) 2) [aH z]<|.check (aB (some p) 2) [.pointer (some D.b)]<|.call (hQ S r1.1) [tI] λ(r2:Int×Unit)=>
   .check (aB (some m) 3) [aH x]<|.check (aB (some m) 2) [aH z]<|.check (aB (some p) 2) [.pointer (some D.b)]<|.call (B (some D.b)) [tI] λ(r3:Int×Unit)=>.ret 1 [.bool (gM r2.1 r3.1)]) h
   λtg vs h2=>tg=1/\vs=[.bool true]/\iA S n k h rho h2 p X D M' N':=by
 have ck:∀{g:aG} {r:Nat->Nat} {K:aK} {Q:Nat->bG->aG->Prop},tJ 0 1 r g ⟨some m,6,6⟩ os->wp P K g Q->wp P (.check (aB (some m) 3) [aH x] K) g Q:=λo J=>by
  refine⟨⟨_,rfl,aI.2 λj w t=>?_⟩,J⟩;cases j with
  |zero=>cases t;rw[add_zero'];exact aI.1 o.1.cells 3 _ hx
  |succ j=>simp at t
 have G:∀{g:aG} {r:Nat->Nat} {K:aK} {Q:Nat->bG->aG->Prop},tJ 0 1 r g ⟨some m,6,6⟩ os->wp P K g Q->wp P (.check (aB (some m) 2) [aH z] K) g Q:=λo J=>by
  refine⟨⟨_,rfl,aI.2 λj w t=>?_⟩,J⟩;cases j with
  |zero=>cases t;rw[add_zero'];exact aI.1 o.1.cells 2 _ hz
  |succ j=>simp at t
 refine Rp (xA:=(u,())) (xB:=(u,())) (tyB:=[tI]) (B:=.fail) (vsB:=[]) (mid:=id) (KB:=λ_=>.fail) q b W rfl λE d X1 I L fin=>?_;have v:=oo.aP (rho':=d) I.c (λi hi hf=>by omega) λi hi hr=>by rw[I.old i hi (by omega)];exact hr
 refine ck v (G v (L.ck rfl (aM Hk λ⟨(a:Int),_⟩ h2 C ha=>?_)));have ha:a=u:=ha;subst ha;have H:=v.aP (rho':=d) (aV.bD (F:=λ_=>False) C) (λ_ _ f=>f.elim) λ_ _ h=>h;have q2:=L.ext' C;refine ck H (G H (q2.ck rfl ?_));have T:=L.ext C;refine eG (Y h2 _ T.doc) λtg vs h3 Z=>?_;obtain⟨rfl,rfl,d3⟩:=Z;refine⟨rfl,(a,()),rfl,aC ⟨rfl,?_,fin h3 ?_⟩⟩
 .show[Value.bool (gM a a)]=_
  rw[cK.2 rfl]
 .obtain⟨O,V,U,R,m3,hb⟩:=d3
  exact⟨O,V,(cW.nH C).trans U,R,m3,hb⟩
theorem UE(C:WT P S){o1 o2 u m:Int}{o5 o6:Sl}(q:gQ S n k rho h p X D sl sw vs ls)(b:EP X D M N)(hN:N<=1048576)(h2:o1≠2)(W:o1≠8)(L:cX .i64 u)(z:cX .i64 m) :
  wp P (jA S (some p) (o1,o2,u,m,o5,o6,())) h λtg vs h'=>tg=0/\vs=[.bool true]/\∃M',iA S n k h rho h' p X D M' (N+1):=by
 unfold jA;refine λel=>?_;have O:Ext h (h.push (.cells [aH o1,aH o2,aH u,aH m,dN o5,dN o6].toArray el)):=Ext.push ..;have I:cA h.size 1 (h.push (.cells [aH o1,aH o2,aH u,aH m,dN o5,dN o6].toArray el)) ⟨some ⟨h.size,0,none⟩,6,6⟩ [aH o1,aH o2,aH u,aH m,dN o5,dN o6]:=bR rfl (by decide) (by decide);show wp P _ (h.push (.cells [aH o1,aH o2,aH u,aH m,dN o5,dN o6].toArray el)) _;generalize h.push (.cells [aH o1,aH o2,aH u,aH m,dN o5,dN o6].toArray el)=o at O I⊢;have f:=q.ext O;have A:qN k h rho o (Hist.zr h rho):=(cW.nH (k:=k) O).Vv ⟨bM _,by omega⟩;have J:tJ 0 1 (Hist.zr h rho) o ⟨some ⟨h.size,0,none⟩,6,6⟩ [aH o1,aH o2,aH u,aH m,dN o5,dN o6]:=⟨cA.mono I (cN _),λa ha=>by cases ha;exact qJ (bM _)⟩;generalize Hist.zr h rho=R at f A J;have ok:=b.ok;have G:=ok.EY;unfold Mo.all at G;rw[bP,bP]at G;have E:∀{K:Int->aK} {Q},wp P (K m) o Q->wp P (.load (tI) (aB (some ⟨h.size,0,none⟩) 3) K) o Q:=λv=>bX (b:=bI) m rfl I.cells rfl v;have T:∀{K:Int->aK} {Q},wp P (K u) o Q->wp P (.load (tI) (aB (some ⟨h.size,0,none⟩) 2) K) o Q:=λv=>bX (b:=bI) u rfl I.cells rfl v;have rb:∀{K:OA->aK} {Q},wp P (K (some X.b)) o Q->wp P (bF (aJ (some p))<|bF (aJ (some p))<|.load (tP) (aB (some p) 0) K) o Q:=λv=>f.rd (b:=.ptr) (some X.b) rfl v;have rd:∀{K:OA->aK} {Q},wp P (K (some D.b)) o Q->wp P (bF (aJ (some p))<|bF (aJ (some p))<|.load (tP) (aB (some p) 2) K) o Q:=λv=>f.rd (b:=.ptr) (some D.b) rfl v;refine dB (λt w h'=>(t=1/\w=[.bool true]\/t=0/\w=[])/\∃M',iA S n k h rho h' p X D M' (N+1)) ?_ ?_
 .have t1:∀{h':aG} {w:bG} {t:Nat} {M':Mo} {N':Nat},N'<=N+1->(t=1/\w=[.bool true]/\iA S n k o R h' p X D M' N')->(t=1/\w=[.bool true]\/t=0/\w=[])/\∃M',iA S n k h rho h' p X D M' (N+1):=λY ⟨a,b,c⟩=>⟨.inl ⟨a,b⟩,_,(iA.pre A c).more Y⟩
  refine bX (b:=bI) o1 rfl I.cells rfl ?_;refine aE (λ_=>?_) λ_=>aE (λH=>by rw[cK]at H;exact absurd H h2) λ_=>aE (λ_=>?_) λ_=>aE (λ_=>?_) λ_=>aE (λ_=>?_) λ_=>aE (λ_=>?_) λ_=>aE (λ_=>?_) λ_=>aE (λH=>by rw[cK]at H;exact absurd H W) λ_=>aE (λ_=>?_) λ_=>aC ⟨.inr ⟨rfl,rfl⟩,M,(iA.pre A (iA.ext f b (Ext.refl _))).more (by omega)⟩
  .exact rb (E (rd (E (cM _ (λt w h' j=>t1 (GD _) j) (lv (B:=λb=>oF S b m) f b J rfl (jt f.bk b.inv (by omega)) λg r d=>gu d b.dm ok (by omega) (by have:=ok.mb;have:=ok.wl;omega) z)))))
  .exact rb (E (rd (E (cM _ (λt w h' j=>t1 (bM _) j) (lv (B:=λb=>rG S b m) f b J rfl (ya C f.bk b.inv (by omega)) λg r d=>we d b.dm ok (by omega) z (by omega))))))
  .exact rb (cM _ (λt w h' j=>t1 (GD _) j) (bm (B:=λb=>pT S b) f b (uu C f.bk b.inv) λg r d=>qf d b.dm ok (by omega)))
  .exact rb (cM _ (λt w h' j=>t1 (GD _) j) (bm (B:=λb=>pV S b) f b (ux f.bk b.inv (by omega)) λg r d=>qn d b.dm ok (by omega)))
  .exact rb (cM _ (λt w h' j=>t1 (GD _) j) (bm (B:=λb=>pU S b) f b (uw f.bk b.inv (by omega)) λg r d=>qk d b.dm ok (by omega)))
  .exact rb (T (E (rd (T (E (cM _ (λt w h' j=>t1 (bM _) j) (ua (B:=λb=>mD S b u m) f b J rfl rfl (Yg f.bk b.inv L z) λg r d=>Xn d b.dm ok.so (by have:=ok.mb;omega) ⟨L,z⟩)))))))
  .refine rb ?_
   refine Rp (xA:=()) (xB:=()) (tyA:=[]) (tyB:=[]) (B:=.fail) (vsB:=[]) (mid:=id) (KB:=λ_=>.fail) f b (jw f.bk b.inv) rfl λg2 Z X2 ab U fin=>?_;refine U.rd (b:=.ptr) (some D.b) rfl (eG (qm U.doc b.dm) λtg vs V j=>?_);obtain⟨rfl,rfl,d3⟩:=j;exact⟨rfl,(),rfl,aC ⟨.inr ⟨rfl,rfl⟩,_,(iA.pre A (fin V d3)).more (by omega)⟩⟩
 .rintro t w h3 ⟨⟨rfl,rfl⟩|⟨rfl,rfl⟩,M',pp⟩
  .exact bE (gF (aC ⟨rfl,rfl,M',pp⟩))
  .exact oD (by decide) (bE (bO (aC ⟨rfl,rfl,M',pp⟩)))
end
section
variable{P:Program}{S:cH}{h:aG}{Q:Nat->bG->aG->Prop}
variable{α:Type}{i:Nat}
theorem WD{T m:List α}{v:α}(b:T[i]?=some v)(f:T.length=m.length):(T.take i++m.drop i).set i v=T.take (i+1)++m.drop (i+1):=by
 have d:=(cR.1 b).1;have c:(T.take i).length=i:=by rw[dJ];omega
 rw[Ar (h:=by omega),c,sY,gY (by omega),wU,eN,b,HW,dW];rfl
theorem bq{T m:List α}{u v:α}(b:T[i]?=some v)(c:T.length=m.length):((T.take i++m.drop i).set i u).set i v=T.take (i+1)++m.drop (i+1):=by
 rw[List.set_set];exact WD b c
theorem bj{n j:Nat}{s x:Sl}{m l:bB}{B:Addr}{os:bG}(o:bU n .i64 h s m)(hm:m.length=l.length+j)(J:∀h',aV (fY s) h h'->kW .i64 h' x l)(W:∀h',aV (fY s) h h'->cA 0 1 h' ⟨some B,6,6⟩ os)(R:os[5]?=some (dN x)){K:aK}
  (G:∀h',bU n .i64 h' s (l++Ll l.length j)->aV (fY s) h h'->wp P K h' Q) :
  wp P (.bind (.loop [tI] ((0:Int),()) λ(r:Int×Unit)=>aR (fH r.1 (aQ s.len))
   (.bind (bF (bN (aJ s.aD) (eV r.1 s.len))<|.store (aB s.aD (aZ (bQ r.1) 1)) [aH (bJ .i64 (-71) r.1)]<|
     aR (fH r.1 (aQ x.len)) (.load (tS) (aB (some B) 5) λ(y:Sl)=>bF (bN (aJ y.aD) (eV r.1 y.len))<|.load (tI) (aB y.aD (aZ (bQ r.1) 1)) λ(v:Int)=>bF (bN (aJ s.aD) (eV r.1 s.len))<|.store (aB s.aD (aZ (bQ r.1) 1)) [aH v]<|.ret 0 [])
      (.ret 0 [])) λt w=>aR (jL t 0) (.cast [] w λ_=>.ret 0 [aH (aT .i64 r.1 1)]) .fail)
   (.ret 3 [])) λt w=>aR (jL t 3) (.cast [] w λ_=>K) .fail) h Q:=by
 have hlen:=o.len;have U:=o.own.2.1;have V:=o.own.2.2.1;have H:aQ s.len=(m.length:Int):=by rw[aN,hlen]
 have L:=(J h (aV.refl _ _)).len;have I:aQ x.len=(l.length:Int):=by rw[aN,L]
 rw[H,I];obtain⟨T,f⟩:∃T,T=l++Ll l.length j:=⟨_,rfl⟩;have q:T.length=m.length:=by rw[f,bP,Jb,hm]
 rw[<-f]at G;have h0:bU n .i64 h s (T.take 0++m.drop 0):=o;refine bL (λ(r:Int×Unit) h'=>∃i:Nat,r.1=i/\i<=m.length/\aV (fY s) h h'/\bU n .i64 h' s (T.take i++m.drop i)) (λr _=>((m.length:Int)-r.1).toNat)
  (λt w h'=>t=3/\w=[]/\aV (fY s) h h'/\bU n .i64 h' s T) ⟨0,rfl,cN _,aV.refl _ _,h0⟩ ?_ ?_
 .rintro⟨(si:Int),u⟩ C ⟨i,hi,hle,c1,o1⟩
  dsimp only at hi⊢;subst hi;refine aE (λz=>?_) λz=>?_
  .rw[aU]at z
   have Z:i<m.length:=by omega
   have Y:(T.take i++m.drop i).length=m.length:=by rw[bP,dJ,cV];omega
   refine dB (λt w h'=>t=0/\w=[]/\aV (fY s) h h'/\bU n .i64 h' s (T.take (i+1)++m.drop (i+1))) ?_ ?_
   .refine T6 o1 (by omega) (range_i64 _) λh2 o2 c2 z2=>?_
    have c:=c1.trans c2 λ_ _ h=>h;refine aE (λd=>?_) λd=>?_
    .rw[aU]at d
     refine bX (b:=.sl) x rfl (W h2 c).cells R (qW (J h2 c) (by omega) (by omega) λE=>?_);have g:T[i]?=some (l.getD (i:Int).toNat 0):=by
      rw[f,mL (by omega)];simp[List.getD,cL (show i<l.length by omega)]
     generalize l.getD (i:Int).toNat 0=v at g E⊢;refine T6 o2 (by rw[CJ];omega) E λh3 O c3 z3=>aC ⟨rfl,rfl,c.trans c3 λ_ _ h=>h,?_⟩;rw[bq g q]at O;exact O
    .rw[aY]at d
     have g:T[i]?=some (bJ .i64 (-71) (i:Int)):=by
      rw[f,jZ (by omega),Wm (by omega),show l.length+(i-l.length)=i by omega]
     rw[WD g q]at o2;exact aC ⟨rfl,rfl,c,o2⟩
   .rintro t w h2 ⟨rfl,rfl,c2,o2⟩
    refine bE (bO ?_);rw[aX (by omega) (by omega)];exact aC ⟨λ_=>⟨((i:Int)+1,()),rfl,⟨i+1,by push_cast;rfl,by omega,c2,o2⟩,by dsimp only;omega⟩,λA=>absurd rfl A⟩
  .rw[aY]at z
   have:i=m.length:=by omega
   subst this;rw[iW (by omega),F5,kQ]at o1;exact aC ⟨λA=>absurd A (by decide),λ_=>⟨rfl,rfl,c1,o1⟩⟩
 .rintro t w C ⟨rfl,rfl,c1,o1⟩
  exact bE (bO (G C o1 c1))
end
section
variable{P:Program}{S:cH}{h:aG}{Q:Nat->bG->aG->Prop}{n k:Nat}{rho:Nat->Nat}{X:Bk}{D:Doc}{p:Addr}{sl sw:Sl}{vs:bG}{ls:bB}{M M':Mo}{N N':Nat}
theorem ug{n tg:Nat}{v:Int}{s:Sl}{m:bB}(B:cX .i64 v)(h0:tg≠0)(o:bU n .i64 h s m){K:aK}{Y:aK}
  (q:∀h' b,bU n .i64 h' s b->aV (fY s) h h'->wp P K h' Q) :
  wp P (.bind (.loop [tI] ((0:Int),()) λ(r:Int×Unit)=>aR (fH r.1 (aQ s.len)) (bF (bN (aJ s.aD) (eV r.1 s.len))<|.store (aB s.aD (aZ (bQ r.1) 1)) [aH v]<|.ret 0 [aH (aT .i64 r.1 1)])
   (.ret tg [])) λt w=>aR (jL t tg) (.cast [] w λ_=>K) Y) h Q:=by
 have hlen:=o.len;have j:=o.own.2.1;have A:=o.own.2.2.1;have g:aQ s.len=(m.length:Int):=by rw[aN,hlen]
 rw[g];refine bL (λ(r:Int×Unit) h'=>∃(i:Nat) (b:bB),r.1=i/\i<=m.length/\b.length=m.length/\aV (fY s) h h'/\bU n .i64 h' s b) (λr _=>((m.length:Int)-r.1).toNat)
  (λt w h'=>t=tg/\w=[]/\∃b,aV (fY s) h h'/\bU n .i64 h' s b) ⟨0,m,rfl,cN _,rfl,aV.refl _ _,o⟩ ?_ ?_
 .rintro⟨(C:Int),u⟩ d ⟨i,b,hi,hle,z,c1,o1⟩
  dsimp only at hi⊢;subst hi;refine aE (λf=>?_) λf=>aC ⟨λc=>absurd c h0,λ_=>⟨rfl,rfl,b,c1,o1⟩⟩;rw[aU]at f;refine T6 o1 (by omega) B λh2 o2 c2 E=>?_;rw[aX (by omega) (by omega)];exact aC ⟨λ_=>⟨((i:Int)+1,()),rfl,⟨i+1,_,by push_cast;rfl,by omega,by rw[CJ];exact z,c1.trans c2 λ_ _ h=>h,o2⟩,by dsimp only;omega⟩,λc=>absurd rfl c⟩
 .rintro t w d ⟨rfl,rfl,b,c1,o1⟩
  exact bE (bO (q d b o1 c1))
theorem gQ.x'{h':aG}{F:Nat->Prop}{f:bB}(q:gQ S n k rho h p X D sl sw vs ls)(c:aV F h h')(d:∀i,i<h.size->F i->rho i=k+25)(o:bU 0 .i64 h' sw f):gQ S n k rho h' p X D sl sw vs f where
 bk:=q.bk.other c (λi hi b=>by have:=d i hi b;omega) λ_ _ _=>rfl
 doc:=q.doc.aP c (λi hi b=>by have:=d i hi b;omega) λ_ _ _=>rfl
 ob:=q.ob.aP c (λi hi b=>by have:=d i hi b;omega) λ_ _ h=>h
 le:=q.le.aP c (λi hi b=>by have:=d i hi b;omega) λ_ _ h=>h
 lw:=⟨o,q.lw.2⟩
end
section
variable{P:Program}{S:cH}{h:aG}{Q:Nat->bG->aG->Prop}{n k:Nat}{rho:Nat->Nat}{X:Bk}{D:Doc}{p:Addr}{sl sw:Sl}{vs:bG}{ls:bB}{M M':Mo}{N N':Nat}
theorem gQ.uh{c:Sl}{l:bB}{K:aK}(q:gQ S n k rho h p X D sl sw vs ls)(oc:BW (k+25) rho h c l)
  (m:∀h',gQ S n k rho h' p X D sl c vs l->aV (λi=>i=p.block) h h'->h'.size=h.size->wp P K h' Q) :
  wp P (bF (aJ (some p))<|bF (aJ (some p))<|.store (aB (some p) 4) [dN c] K) h Q:=by
 have j:rho p.block=k+23:=q.ob.2 p rfl;have o:cA 0 1 h ⟨some p,5,5⟩ ([.pointer (some X.b), .pointer (some X.T.p), .pointer (some D.b),dN sl]++[dN sw]++[]):=q.ob.1;refine aL rfl (aL rfl (qC (mid:=[dN sw]) [dN c] o rfl rfl (by simp) (by intro v r;rw[dE.1 r];rfl) λh' t u w=>?_));have f:aV (λi=>i=p.block) h h':=aV.dK u λa ha _=>by cases ha;rfl
 have g:∀i,i<h.size->i=p.block->rho i=k+23:=λi _ e=>by rw[e];exact j
 refine m h' ⟨q.bk.other f (λi hi d=>by have:=g i hi d;omega) λ_ _ _=>rfl,q.doc.aP f (λi hi d=>by have:=g i hi d;omega) λ_ _ _=>rfl,⟨t,q.ob.2⟩,q.le.aP f (λi hi d=>by have:=g i hi d;omega) λ_ _ h=>h,oc.aP f (λi hi d=>by have:=g i hi d;omega) λ_ _ h=>h⟩ f w
theorem UG{o2 C G:Int}{o5 o6:Sl}{l6:bB}(q:gQ S n k rho h p X D sl sw vs ls)(b:EP X D M N)(hN:N<=1048576)(cc:l6.length<=1048576)(hs:∀h',aV (λi=>k<rho i/\rho i<=k+30) h h'->kW .i64 h' o6 l6) :
  wp P (jA S (some p) (8,o2,C,G,o5,o6,())) h λtg vs h'=>tg=0/\vs=[.bool true]/\∃M',iA S n k h rho h' p X D M' (N+l6.length):=by
 unfold jA;refine λel=>?_;have e1:Ext h (h.push (.cells [aH 8,aH o2,aH C,aH G,dN o5,dN o6].toArray el)):=Ext.push ..;have oo:cA h.size 1 (h.push (.cells [aH 8,aH o2,aH C,aH G,dN o5,dN o6].toArray el)) ⟨some ⟨h.size,0,none⟩,6,6⟩ [aH 8,aH o2,aH C,aH G,dN o5,dN o6]:=bR rfl (by decide) (by decide);show wp P _ (h.push (.cells [aH 8,aH o2,aH C,aH G,dN o5,dN o6].toArray el)) _;generalize h.push (.cells [aH 8,aH o2,aH C,aH G,dN o5,dN o6].toArray el)=Z at e1 oo⊢;have K:=q.ext e1;have V:qN k h rho Z (Hist.zr h rho):=(cW.nH (k:=k) e1).Vv ⟨bM _,by omega⟩;have z1:=(Lr h rho).mono e1.1;have J:tJ 0 1 (Hist.zr h rho) Z ⟨some ⟨h.size,0,none⟩,6,6⟩ [aH 8,aH o2,aH C,aH G,dN o5,dN o6]:=⟨cA.mono oo (cN _),λa ha=>by cases ha;exact qJ (bM _)⟩;generalize Hist.zr h rho=d at K V J z1;generalize b9:(⟨h.size,0,none⟩:Addr)=A at J⊢;have R:∀{g:aG} {r:Nat->Nat},qN k h rho g r->kW .i64 g o6 l6:=λst=>hs _ st.c;refine dB (λt w h'=>t=1/\w=[.bool true]/\∃M',iA S n k h rho h' p X D M' (N+l6.length)) ?_ ?_
 .refine bX (b:=bI) 8 rfl J.1.cells rfl ?_
  refine aE (λu=>by cases u) λ_=>aE (λu=>by cases u) λ_=>aE (λu=>by cases u) λ_=>aE (λu=>by cases u) λ_=>aE (λu=>by cases u) λ_=>aE (λu=>by cases u) λ_=>aE (λu=>by cases u) λ_=>aE (λ_=>?_) λu=>by cases u
  refine bX (b:=.sl) o6 rfl J.1.cells rfl (bX (b:=.sl) o6 rfl J.1.cells rfl ?_);have L1:=R V;refine aM (MQ L1 (by omega)) λ⟨(r9:Sl),_⟩ h2 H bt=>?_;obtain⟨j9,bs,_,_,o9⟩:=bt;have o9:bU Z.size .i64 h2 r9 (l6++Ll l6.length j9):=o9;have q2:=K.ext' H;have a7:qN k h rho h2 d:=V.trans ((pN (k:=k) z1 (aV.bD (F:=λ_=>False) H) λ_ _ f=>f.elim).Vv ⟨bM _,by omega⟩);have a5:=J.aP (rho':=d) (aV.bD (F:=λ_=>False) H) (λ_ _ f=>f.elim) λ_ _ h=>h;have al:aQ o6.len=(l6.length:Int):=by rw[aN,L1.len]
  refine dB (λt w h'=>t=0/\∃c j o a4,w=[dN c]/\40<=j/\qN k h rho h' o/\gQ S n k o h' p X D sl sw vs a4/\BW (k+25) o h' c (l6++Ll l6.length j)/\tJ 0 1 o h' ⟨some A,6,6⟩ [aH 8,aH o2,aH C,aH G,dN o5,dN o6]) ?_ ?_
  .refine q2.rd (b:=.sl) sw rfl ?_
   rw[al,aX (by omega) (by omega)];refine aE (λhg=>?_) λ_=>?_
   .rw[dD,aN]at hg
    have cd:=q2.lw.1.len;obtain⟨j,hj⟩:∃j,ls.length=l6.length+j:=⟨ls.length-l6.length,by omega⟩;have O:∀i,i<h2.size->fY sw i->d i=k+25:=λi _ ⟨a,ha,e⟩=>by rw[<-e];exact q2.lw.2 a ha
    have a8:∀{g:aG},aV (fY sw) h2 g->qN k h2 d g d:=λc=>⟨c.mono λi hi B=>by rw[O i hi B];omega,λ_ _ _=>rfl,λi hi z=>by
     rcases z with z|z
     .exact .inl (z1 i (by have:=H.1;omega))
     .exact .inr z⟩
    refine q2.rd (b:=.sl) sw rfl ?_;rw[<-al];refine bj q2.lw.1 hj (λg c=>R (a7.trans (a8 c))) (λg c=>(a5.aP (rho':=d) c (λi hi B=>by rw[O i hi B];omega) λ_ _ h=>h).1) rfl λh3 C c3=>?_;have q3:=q2.x' c3 O C;exact aC ⟨rfl,sw,j,d,_,rfl,by omega,a7.trans (a8 c3),q3,⟨C,q3.lw.2⟩,a5.aP (rho':=d) c3 (λi hi B=>by rw[O i hi B];omega) λ_ _ h=>h⟩
   .have b6:qN k Z d h2 (Hist.nr Z d r9 (k+25)):=(Jg (k:=k+20) (s:=r9) (r:=k+25) H (by omega)).Vv ⟨by omega,by omega⟩
    have q9:gQ S n k (Hist.nr Z d r9 (k+25)) h2 p X D sl sw vs ls:=by
     have c:=aV.bD (F:=λ_=>False) H;exact⟨K.bk.other c (λ_ _ f=>f.elim) λi hi _=>wM hi,K.doc.aP c (λ_ _ f=>f.elim) λi hi _=>wM hi,K.ob.aP c (λ_ _ f=>f.elim) λi hi h=>by rw[wM hi];exact h,K.le.aP c (λ_ _ f=>f.elim) λi hi h=>by rw[wM hi];exact h,K.lw.aP c (λ_ _ f=>f.elim) λi hi h=>by rw[wM hi];exact h⟩
    exact aC ⟨rfl,r9,j9,_,ls,rfl,bs,V.trans b6,q9,⟨o9.mono (cN _),λa ha=>EK (o9.own.lt ha).1 ⟨a,ha,rfl⟩⟩,J.aP (aV.bD (F:=λ_=>False) H) (λ_ _ f=>f.elim) λi hi h=>by rw[wM hi];exact h⟩
  rintro t w h3 ⟨rfl,c,j,o,a4,rfl,hj,b3,q3,oc,b0⟩;refine bE (mP ?_);have a3:o p.block=k+23:=q3.ob.2 p rfl;refine q3.uh oc λh4 q4 c4 z4=>?_;have b4:qN k h3 o h4 o:=⟨c4.mono λi hi B=>by rw[B,a3];omega,λ_ _ _=>rfl,λi hi z=>by
   rcases z with z|z
   .omega
   .exact .inr z⟩
  have bd:=b3.trans b4;have b1:=b0.aP (rho':=o) c4 (λi hi B=>by rw[B,a3];omega) λ_ _ h=>h;have T:=q4.lw.1.lO;have ab:=T.len;rw[bP,Jb]at ab;have ab:c.len=l6.length+j:=ab;have b8:c.len<=c.cap:=T.cap;have ba:c.cap<2^63:=T.max;refine q4.rd (b:=.ptr) (some X.b) rfl ?_;rw[al];refine aL (jF (by omega) (by dsimp only;omega)) ?_;have ht:kW .i64 h4 ⟨bK c.aD c.cap 0 1,cY (bQ (l6.length:Int)) 0,cY c.cap 0⟩ l6:=by
   have:=T.take (n:=l6.length) (m:=c.cap) (by rw[bP];omega) (by omega) ba;rw[Ap (bM _),fF]at this;rw[eW,eX,cS];exact this
  refine eG (jy q4.bk b.inv ht (by omega)) λtg w g1 hq=>?_;obtain⟨rfl,rfl,bb,X5,W,b5,i5,U⟩:=hq;refine⟨rfl,(_,()),rfl,?_⟩;have q5:=q4.book W b5 U;have ao:=bd.trans (W.Vv (k:=k) ⟨bM _,by omega⟩);have a6:=b1.aP (rho':=bb) W.c (λi hi B=>by omega) λi hi hr=>by rw[W.old i hi (by omega)];exact hr
  refine q5.rd (b:=.ptr) (some D.b) rfl (bX (b:=.sl) o6 rfl a6.1.cells rfl ?_);refine eG (gy q5.doc b.dm (R ao) (by omega)) λtg w g2 hq=>?_;obtain⟨rfl,rfl,E,D6,Y,d6,m6,a2,bp,a9⟩:=hq;refine⟨rfl,(_,()),rfl,?_⟩;have q6:=q5.qp Y d6 a2;have aw:=ao.trans (Y.Vv (k:=k) ⟨by omega,by omega⟩);have b2:=a6.aP (rho':=E) Y.c (λi hi B=>by omega) λi hi hr=>by rw[Y.old i hi (by omega)];exact hr
  refine bX (b:=.sl) o6 rfl b2.1.cells rfl ?_;refine aM (MP q6.lw.1.lO (R aw) hj) λ⟨(y:Bool),_⟩ g3 e7 I=>?_;have I:y=true:=I;subst I;have q7:=q6.ext e7;have a0:=aw.trans ((cW.nH (k:=k) (rho:=E) e7).Vv (k:=k) ⟨bM _,by omega⟩);have z7:=(Lr g2 E).mono e7.1;generalize Hist.zr g2 E=L at q7 a0 z7;refine ug (v:=-9) (tg:=5) (eS.2 (by omega)) (by decide) q7.lw.1 λg4 m' o8 c8=>?_;have a1:∀i,i<g3.size->fY c i->L i=k+25:=λi _ ⟨a,ha,e⟩=>by rw[<-e];exact q7.lw.2 a ha
  have q8:=q7.x' c8 a1 o8;have bo:qN k h rho g4 L:=a0.trans ⟨c8.mono λi hi B=>by rw[a1 i hi B];omega,λ_ _ _=>rfl,λi hi z=>by
   rcases z with z|z
   .exact .inl (z7 i z)
   .exact .inr z⟩
  refine gA (tys:=[tB]) (λ(y:Bool×Unit) _=>y.1=true) ?_ λ⟨(y:Bool),_⟩ g5 e9 I=>?_
  .refine aM Hk λ⟨(a:Int),_⟩ g5 e9 ha=>?_
   have ha:a=_:=ha;subst ha;exact aE (λ_=>aC ⟨rfl,e9,(true,()),rfl,rfl⟩) λu=>by rw[dS]at u;exact absurd rfl u
  .have I:y=true:=I
   subst I;refine aC ⟨rfl,rfl,_,iA.Zk ⟨L,X5,D6,sl,c,vs,m',bo,q8,⟨i5,m6,?_,?_⟩,U,a2⟩ e9⟩
   .rw[bp,U.enc];exact b.enc
   .rw[a9,U.limit];exact b.Bq
 .rintro t w h3 ⟨rfl,rfl,M',pp⟩
  exact bE (gF (aC ⟨rfl,rfl,M',pp⟩))
end
section
variable{P:Program}{S:cH}{h h0:aG}{enc limit depth e:Int}{l:bB}{pp:OA}
theorem fh(b:Dw S h0 h enc limit depth l pp e):CS enc limit depth l e/\(e≠0->pp=none):=by
 cases b with
 |deep c=>exact⟨.deep c,λ_=>rfl⟩
 |text c he m=>
  refine⟨?_,λ_=>rfl⟩;cases m with
  |enc d=>exact .enc c d
  |arg d f=>exact .arg c d f
  |full d f g=>exact .full c d f g
 |ok T X c d f hle _ _ _ _ _ _ _ _=>exact⟨.ok c d f hle,λj=>absurd rfl j⟩
theorem SF(b:Dw S h0 h enc limit depth l pp 0):∃X:Bk,pp=some X.b/\X.T.enc=enc/\X.T.limit=limit/\∀(k:Nat) (rho:Nat->Nat),∃c,cW k h0 rho h c/\(∀i,i<h0.size->c i=rho i)/\cO S h0.size h c k X/\Inv X (Mo.new (iH 0 0 (bH enc l)) depth) 0:=by
 obtain⟨e,he⟩:∃e:Int,e=0:=⟨_,rfl⟩;rw[<-he]at b;cases b with
 |deep f=>exact absurd he (by decide)
 |text f j A=>exact absurd he j
 |ok T X f w z hle g h2 h3 o q u m v=>
  have d:=m.T;refine⟨X,rfl,by rw[d];exact g,by rw[d];exact h2,λk rho=>?_⟩;obtain⟨c,st,old,r⟩:=v k rho;refine⟨c,st,old,r,?_⟩;have t:=r.t;rw[d]at t;have:=jb t m o (by rw[u,h2];exact hle) f;rw[g,q]at this;exact this
end
section
variable{P:Program}{S:cH}{h:aG}{Q:Nat->bG->aG->Prop}
variable{s:Sl}{i:Nat}{h':aG}
abbrev Tr:=Int×Int×Sl
abbrev Ay(e:Tr):bG:=[aH e.1,aH e.2.1,dN e.2.2]
theorem CC(l:List Tr):(l.flatMap Ay).length=l.length*3:=gL (f:=Ay) (m:=3) (λ_=>rfl) l
theorem uj{p:OA}{x y:Nat}:aB (aB p x) y=aB p (x+y):=by
 cases p with
 |none=>rfl
 |some a=>show some ((a.add x).add y)=some (a.add (x+y));rw[add_add]
theorem ub{n:Nat}{l:List Tr}{off:Nat}{e e':Tr}{c1 mid new c2:bG}{K:aK}(o:cA n 3 h s (l.flatMap Ay))(hi:l[i]?=some e)(h1:Ay e=c1++mid++c2)(h2:Ay e'=c1++new++c2)(q:new.length=mid.length)(h0:mid≠[])(j:∀v∈new,flat v=true)(c:off=i*3+c1.length)
  (m:∀h',cA n 3 h' s ((l.set i e').flatMap Ay)->aV (fY s) h h'->h'.size=h.size->wp P K h' Q):wp P (.store (aB s.aD off) new K) h Q:=by
 have f:=(cR.1 hi).1;have g:l=l.take i++(e::l.drop (i+1)):=by
  rw[<-(cR.1 hi).2,<-gY f,eY]
 have b:(l.take i).length=i:=by rw[dJ];omega
 have d:l.set i e'=l.take i++(e'::l.drop (i+1)):=by
  conv=>lhs;rw[g]
  rw[Ar (h:=by omega),b,sY,wU]
 have r:cA n 3 h s (((l.take i).flatMap Ay++c1)++mid++(c2++(l.drop (i+1)).flatMap Ay)):=by
  rw[g,gX,gB,h1]at o;simpa using o
 refine qC (mid:=mid) new r (by rw[c,bP,CC,b]) q h0 j λh' t u w=>m h' ?_ (aV.dK u λa ha _=>⟨a,ha,rfl⟩) w;rw[d,gX,gB,h2];simpa using t
theorem PX{n:Nat}{l:List Tr}{j:Nat}{x:Int}{e:Tr}{b:B}{v:b.den}{K:b.den->aK}(o:cA n 3 h s (l.flatMap Ay))(r:x=(i:Int))(hi:l[i]?=some e)(q:(Ay e)[j]?=some (b.inj v))(d:wp P (K v) h Q) :
  wp P (bF (bN (aJ s.aD) (eV x s.len))<|bF (aJ (aB s.aD (aZ (bQ x) 3)))<|.load (.one b) (aB (aB s.aD (aZ (bQ x) 3)) j) K) h Q:=by
 subst r;have t:=(cR.1 hi).1;have f:=o.1;rw[CC]at f;obtain⟨a,ea,c⟩:=sN (m:=3) (λ_=>rfl) (by decide) o hi;refine aL (fC.2 ⟨by rw[ea];rfl,kN.2 ⟨by omega,by omega⟩⟩) ?_;have g:aB s.aD (aZ (bQ (i:Int)) 3)=some (a.add (i*3)):=by rw[ea,hO,eX,cS];rfl
 rw[g];exact aL rfl (bX (b:=b) v rfl c q d)
structure LE where
 f:Int
 t:Int
 p:Sl
 w:bB
 j:Nat
abbrev ek(e:LE):Sl:=⟨e.p.aD,e.w.length,e.p.cap⟩
abbrev Ki(e:LE):Tr:=(e.f,e.t,ek e)
abbrev y6(e:LE):iM:=(e.f,e.t,(ek e,e.w),())
def TF(a m:Nat):List Tr:=(List.range m).map λi=>(bJ .i64 (-71) ((a+i:Nat):Int), -72,⟨none,0,0⟩)
theorem Ra(a m:Nat):(TF a m).length=m:=by simp[TF]
theorem ZT(a m:Nat):TF a (m+1)=TF a m++[(bJ .i64 (-71) ((a+m:Nat):Int), -72,⟨none,0,0⟩)]:=by simp[TF,Mg]
theorem iz{a m:Nat}(hi:i<m):(TF a m)[i]?=some (bJ .i64 (-71) ((a+i:Nat):Int), -72,⟨none,0,0⟩):=by simp[TF,hi]
structure LentP(n:Nat)(h:aG)(out pt:Sl)(l:List LE):Prop where
 pl:cA n 1 h pt (l.map λe=>dN e.p)
 pu:∀e∈l,bU n .i64 h e.p (e.w++Ll e.w.length e.j)/\40<=e.j/\cX .i64 e.f/\cX .i64 e.t
 ne:l.Pairwise λa b=>∀x y,a.p.aD=some x->b.p.aD=some y->x.block≠y.block
 no:∀e∈l,∀x,e.p.aD=some x->¬fY out x.block/\¬fY pt x.block
 np:∀x,pt.aD=some x->¬fY out x.block
structure CP(n:Nat)(h:aG)(out pt:Sl)(l:List LE)(m:Nat):Prop extends LentP n h out pt l where
 lo:cA 0 3 h out ((l.map Ki++TF l.length m).flatMap Ay)
theorem LentP.aP{n:Nat}{out pt:Sl}{l:List LE}{F:Nat->Prop}(r:LentP n h out pt l)(c:aV F h h')(h1:∀i,n<=i->i<h.size->F i->¬fY pt i/\∀e∈l,¬fY e.p i):LentP n h' out pt l where
 pl:=c.own r.pl λa ha b=>(h1 _ (r.pl.lt ha).1 (r.pl.lt ha).2 b).1 ⟨a,ha,rfl⟩
 pu:=λe he=>⟨c.qH (r.pu e he).1 λa ha b=>(h1 _ ((r.pu e he).1.own.lt ha).1 ((r.pu e he).1.own.lt ha).2 b).2 e he ⟨a,ha,rfl⟩,(r.pu e he).2⟩
 ne:=r.ne
 no:=r.no
 np:=r.np
theorem LentP.ext{n:Nat}{out pt:Sl}{l:List LE}(r:LentP n h out pt l)(e:Ext h h'):LentP n h' out pt l:=r.aP (aV.bD (F:=λ_=>False) e) λ_ _ _ f=>f.elim
theorem LentP.out{n:Nat}{out d pt:Sl}{l:List LE}(r:LentP n h out pt l)(hb:∀a,d.aD=some a->out.aD=some a\/h.size<=a.block):LentP n h d pt l where
 pl:=r.pl
 pu:=r.pu
 ne:=r.ne
 no:=λe he x b=>⟨λ⟨a,ha,f⟩=>(hb a ha).elim (λc=>(r.no e he x b).1 ⟨a,c,f⟩) λc=>by have:=((r.pu e he).1.own.lt b).2;omega,(r.no e he x b).2⟩
 np:=λx b ⟨a,ha,f⟩=>(hb a ha).elim (λc=>r.np x b ⟨a,c,f⟩) λc=>by have:=(r.pl.lt b).2;omega
theorem LentP.wrote{n:Nat}{out pt:Sl}{l:List LE}(r:LentP n h out pt l)(c:aV (fY out) h h'):LentP n h' out pt l:=
 r.aP c λi _ _ b=>⟨λ⟨a,ha,e⟩=>r.np a ha (by rw[e];exact b),λe he ⟨a,ha,d⟩=>(r.no e he a ha).1 (by rw[d];exact b)⟩
theorem CP.aP{n m:Nat}{out pt:Sl}{l:List LE}{F:Nat->Prop}{h':aG}(r:CP n h out pt l m)(c:aV F h h')(h1:∀i,i<h.size->F i->¬fY out i/\(n<=i->¬fY pt i/\∀e∈l,¬fY e.p i)):CP n h' out pt l m where
 toLentP:=r.toLentP.aP c λi d hi b=>(h1 i hi b).2 d
 lo:=c.own r.lo λa ha b=>(h1 _ (r.lo.lt ha).2 b).1 ⟨a,ha,rfl⟩
theorem CP.len{n m:Nat}{out pt:Sl}{l:List LE}(r:CP n h out pt l m):out.len=l.length+m:=by
 have:=r.lo.1;rw[CC,bP,cE,Ra]at this;omega
theorem CP.ok{n m:Nat}{out pt:Sl}{l:List LE}(r:CP n h out pt l m):(Sh.list jT).ok h (⟨out.aD,l.length,out.cap⟩,l.map y6):=by
 have t:=r.len;refine⟨by show l.length=_;rw[cE],by have:=r.lo.2.1;show l.length<=out.cap;omega,r.lo.2.2.1,λi y hi=>?_⟩;rw[gP]at hi;obtain⟨e,he,rfl⟩:=mY.1 hi;have d:=(cR.1 he).1;obtain⟨a,ea,g⟩:=sN (m:=3) (i:=i) (x:=Ki e) (λ_=>rfl) (by decide) r.lo (by rw[mL (by rw[cE];exact d),gP,he];rfl);obtain⟨c,u,o,q⟩:=r.pu e (eM he);refine⟨a,ea,aI.2 λj v b=>?_,⟨o,q,Wr (w:=ek e) ?_,trivial⟩⟩
 .refine aI.1 g j v ?_
  match j,b with
  |0,b=>exact b
  |1,b=>exact b
  |2,b=>exact b
  |j+3,b=>simp[Sh.cells]at b
 .have:=c.lO.take (n:=e.w.length) (m:=e.p.cap) (by rw[bP];omega) (by have f:=c.len;have h2:=c.own.2.1;rw[bP]at f;omega) c.own.2.2.1
  rw[Ap (bM _),fF]at this;exact this
theorem XG{l:List LE}{x:List iM}(h:l.map (λe=>((e.f,e.t,(⟨none,0,0⟩,e.w),()):iM))=x.map hP):(l.map y6).map hP=x.map hP:=by
 rw[<-h,sX];rfl
end
section
variable{P:Program}{S:cH}{h:aG}{Q:Nat->bG->aG->Prop}
variable{vs:bG}
theorem Z6{n size:Nat}{s:Sl}(o:cA n size h s vs):cA n size h ⟨s.aD,0,s.cap⟩ []:=by
 obtain⟨o1,o2,j,b⟩:=o;refine⟨by simp,cN _,j,?_⟩;cases hb:s.aD with
 |none=>rw[hb]at b;exact b
 |some a=>
  rw[hb]at b;obtain⟨e0,c,d,cs,elem,f,g,m⟩:=b;exact⟨e0,c,d,cs,elem,f,g,λi v hi=>by simp at hi⟩
theorem LentP.nil(n:Nat)(h:aG)(out:Sl):LentP n h out ⟨none,0,0⟩ []:=⟨cA.nil .., λe he=>(by cases he),List.Pairwise.nil,λe he=>(by cases he),λx b=>(by cases b)⟩
theorem LentP.put{n:Nat}{out pt v:Sl}{l:List LE}{e:LE}{h1 h2 h3:aG}(r:LentP n h out pt l)(I:∀a,out.aD=some a->a.block<h.size)(T:n<=h.size)(H:Ext h h1)(K:bU h.size .i64 h1 e.p (e.w++Ll e.w.length e.j))(R:40<=e.j)(O:cX .i64 e.f)(ht:cX .i64 e.t)
  (G:Ext h1 h2) (op:cA n 1 h3 v ((l.map λe=>dN e.p)++[dN e.p])) (c:aV (fY pt) h2 h3) (hb:∀a,v.aD=some a->pt.aD=some a\/h2.size<=a.block):LentP n h3 out v (l++[e]):=by
 have s1:=H.1;have s2:=G.1;have V:=(r.ext H).ext G;have L:=(aV.bD (F:=λ_=>False) G).qH K λ_ _ f=>f;have E:∀a,pt.aD=some a->a.block<h.size:=λa ha=>(r.pl.lt ha).2;have A:∀a,e.p.aD=some a->h.size<=a.block/\a.block<h1.size:=λa ha=>K.own.lt ha;have B:∀y∈l,∀a,y.p.aD=some a->a.block<h.size:=λy d a ha=>((r.pu y d).1.own.lt ha).2;have J:∀{m:Nat} {y:LE} {t:bB},(∀a,y.p.aD=some a->¬fY pt a.block)->bU m .i64 h2 y.p t->bU m .i64 h3 y.p t:=λd o=>c.qH o d;refine⟨by rw[dP];exact op,λy d=>?_,?_,λy d x q=>?_,λx q ⟨a,ha,g⟩=>?_⟩
 .rcases dH.1 d with d|d
  .exact⟨J (λa ha=>(r.no y d a ha).2) (V.pu y d).1,(r.pu y d).2⟩
  .rw[dE.1 d]
   exact⟨(J (λa ha ⟨b,u,g⟩=>by have h1:=A a ha;have h2:=E b u;omega) L).mono T,R,O,ht⟩
 .refine Mw.2 ⟨r.ne,Sa .., λy d z U a b ha u=>?_⟩
  rw[dE.1 U]at u;have h1:=B y d a ha;have h2:=A b u;omega
 .have C:(fY v x.block->fY pt x.block\/h2.size<=x.block):=λ⟨a,ha,g⟩=>(hb a ha).elim (λh1=>.inl ⟨a,h1,g⟩) λh1=>.inr (by omega)
  rcases dH.1 d with d|d
  .exact⟨(r.no y d x q).1,λg=>(C g).elim (r.no y d x q).2 λh1=>by have:=B y d x q;omega⟩
  .rw[dE.1 d]at q
   have h1:=A x q;exact⟨λ⟨a,ha,g⟩=>by have:=I a ha;omega,λg=>(C g).elim (λ⟨a,ha,g⟩=>by have:=E a ha;omega) λh2=>by omega⟩
 .have h1:=I a ha
  rcases hb x q with h2|h2
  .exact r.np x h2 ⟨a,ha,g⟩
  .omega
theorem q_{sl:Sl}{x:GP}(o:cA 0 3 h sl vs)(hx:∀h',aV (fY sl) h h'->(Sh.list jT).ok h' x)(hl:x.2.length<=1048576)(hp:∀e∈x.2,e.2.2.1.2.length<=1048576) :
  wp P (BT S sl x.1) h λtg vs h'=>tg=0/\∃out pt l m,vs=[dN out,dN pt]/\9<=m/\l.length=x.2.length/\CP h.size h' out pt l m/\l.map (λe=>((e.f,e.t,(⟨none,0,0⟩,e.w),()):iM))=x.2.map hP/\aV (fY sl) h h'/\∀a,out.aD=some a->sl.aD=some a\/h.size<=a.block:=by
 unfold BT;have cf:=(hx h (aV.refl _ _)).len;have b3:aQ x.1.len=(x.2.length:Int):=by rw[aN,cf]
 rw[b3];refine aL (jF (kR 0) (by omega)) ?_;refine bL (λ(s:Sl×Sl×Int×Unit) h'=>∃(i:Nat) (l:List LE),s.2.2.1=i/\i<=x.2.length/\l.length=i/\l.map (λe=>((e.f,e.t,(⟨none,0,0⟩,e.w),()):iM))=(x.2.take i).map hP/\cA 0 3 h' s.1 ((l.map Ki).flatMap Ay)/\LentP h.size h' s.1 s.2.1 l/\aV (fY sl) h h'/\∀a,s.1.aD=some a->sl.aD=some a\/h.size<=a.block) (λs _=>((x.2.length:Int)-s.2.2.1).toNat)
  (λt vs h'=>t=2/\∃out pt l,vs=[dN out,dN pt]/\l.length=x.2.length/\l.map (λe=>((e.f,e.t,(⟨none,0,0⟩,e.w),()):iM))=x.2.map hP/\cA 0 3 h' out ((l.map Ki).flatMap Ay)/\LentP h.size h' out pt l/\aV (fY sl) h h'/\∀a,out.aD=some a->sl.aD=some a\/h.size<=a.block)
  ⟨0,[],rfl,cN _,rfl,rfl,?_,LentP.nil .., aV.refl _ _,λa ha=>.inl ?_⟩ ?_ ?_
 .have:=Z6 o
  show cA 0 3 h ⟨bK sl.aD sl.cap 0 3,0,cY sl.cap 0⟩ [];rw[eW];exact this
 .have ha:bK sl.aD sl.cap 0 3=some a:=ha
  rw[eW]at ha;exact ha
 .rintro⟨(out:Sl),(pt:Sl),(si:Int),u⟩ d ⟨i,l,hi,hle,A,J,o1,O,c1,V⟩
  dsimp only at hi o1 O V⊢;subst hi;refine aE (λE=>?_) λE=>?_
  .rw[aU]at E
   have a4:i<x.2.length:=by omega
   obtain⟨c,r⟩:∃c,x.2[i]?=some c:=⟨x.2[i],cL a4⟩;have a9:=c1.1;have a8:=hx d c1;refine jW (b:=.sl) (z:=c.2.2.1.1) a8 r rfl ?_;have c7:=hp c (eM r);refine aM (MQ (HG a8 r) (by omega)) λ⟨(g:Sl),_⟩ h2 e2 cd=>?_;obtain⟨j9,b0,_,ao,o9⟩:=cd;have o9:bU d.size .i64 h2 g (c.2.2.1.2++Ll c.2.2.1.2.length j9):=o9;have ao:g.len=c.2.2.1.2.length+j9:=ao;have df:=e2.1;refine λel=>?_;have H:Ext h2 (h2.push (.cells [dN g].toArray el)):=Ext.push ..;have C:cA h2.size 1 (h2.push (.cells [dN g].toArray el)) ⟨some ⟨h2.size,0,none⟩,1,1⟩ [dN g]:=bR rfl (by decide) (by decide);show wp P _ (h2.push (.cells [dN g].toArray el)) _;generalize h2.push (.cells [dN g].toArray el)=h3 at H C⊢;have cr:=H.1;have Y:=e2.trans H;have W:=O.ext Y;have bd:=W.pl.1;rw[cE,A,HV]at bd;refine iQ W.pl (by omega) C.rd (by intro v I;rw[dE.1 I];rfl) rfl (by dsimp only;omega) (by dsimp only;omega) λaw j o4 l4 u4 b4 _=>?_;have T:aV (fY pt) h3 j:=aV.dK u4 λa ha _=>⟨a,ha,rfl⟩;have dr:=T.1;have a2:aV (fY sl) h j:=(c1.trans (aV.bD (F:=λ_=>False) Y) λ_ _ f=>f.elim).trans T λi hi ⟨a,ha,e⟩=>by have:=(O.pl.lt ha).1;omega
   have K:=hx j a2;refine jW (b:=bI) (z:=c.1) K r rfl (jW (b:=bI) (z:=c.2.1) K r rfl (jW (b:=.sl) (z:=c.2.2.1.1) K r rfl ?_));have a3:=K.el r;have b9:aQ c.2.2.1.1.len=(c.2.2.1.2.length:Int):=by rw[aN,(HG K r).len]
   have c5:=o9.own.2.1;rw[b9];refine aL (jF (by omega) (by dsimp only;omega)) ?_;dsimp only;have bp:bK g.aD g.cap 0 1=g.aD:=eW ..;have hN:cY (bQ (c.2.2.1.2.length:Int)) 0=c.2.2.1.2.length:=by rw[eX,cS];rfl
   have hM:cY g.cap 0=g.cap:=rfl;rw[bp,hN,hM];obtain⟨ne,G⟩:∃ne:LE,ne=⟨c.1,c.2.1,g,c.2.2.1.2,j9⟩:=⟨_,rfl⟩;have rN:LentP h.size j out aw (l++[ne]):=O.put (λa ha=>(o1.lt ha).2) a9 e2 (by rw[G];exact o9) (by rw[G];exact b0) (by rw[G];exact a3.1) (by rw[G];exact a3.2.1) H (by rw[G];exact o4) T b4;refine λel=>?_;have Z:Ext j (j.push (.cells (Ay (Ki ne)).toArray el)):=Ext.push ..;have o5:cA j.size 1 (j.push (.cells (Ay (Ki ne)).toArray el)) ⟨some ⟨j.size,0,none⟩,3,3⟩ (Ay (Ki ne)):=bR rfl (by decide) (by decide);have bt:[aH c.1,aH c.2.1,dN ⟨g.aD,c.2.2.1.2.length,g.cap⟩]=Ay (Ki ne):=by rw[G]
   show wp P _ (j.push (.cells ([aH c.1,aH c.2.1,dN ⟨g.aD,c.2.2.1.2.length,g.cap⟩]).toArray el)) _;rw[bt];generalize j.push (.cells (Ay (Ki ne)).toArray el)=h5 at Z o5⊢;have ds:=Z.1;have rd:Rd 3 h5 ⟨some ⟨j.size,0,none⟩,1,1⟩ (Ay (Ki ne)):=⟨rfl,λi v hi=>⟨_,rfl,aI.1 o5.cells i v hi⟩⟩;have bb:∀a,pt.aD=some a->¬fY out a.block:=O.np;have a6:cA 0 3 h5 out ((l.map Ki).flatMap Ay):=(T.own (o1.ext Y) λa ha ⟨b,hb,e⟩=>bb b hb ⟨a,ha,e.symm⟩).ext Z;have al:=a6.1;rw[CC,cE,A]at al;refine iQ a6 (cN _) rd (by intro v I;simp at I;rcases I with rfl|rfl|rfl<;>rfl) rfl (by dsimp only;omega) (by dsimp only;omega) λU h6 o6 l6 u6 b6 _=>?_;have c6:aV (fY out) h5 h6:=aV.dK u6 λa ha _=>⟨a,ha,rfl⟩;have r6:LentP h.size h6 U aw (l++[ne]):=by
    have r5:=(rN.ext Z);have de:=r5.wrote c6;exact(r5.out b6).aP c6 λi _ _ hf=>⟨λ⟨a,ha,e⟩=>r5.np a ha (by rw[e];exact hf),λe he ⟨a,ha,e'⟩=>(r5.no e he a ha).1 (by rw[e'];exact hf)⟩
   rw[aX (by omega) (by omega)];refine aC ⟨λ_=>⟨(U,aw,(i:Int)+1,()),rfl,⟨i+1,l++[ne],by push_cast;rfl,by omega,by simp[A],?_,?_,r6,?_,λa ha=>?_⟩,by dsimp only;omega⟩,λB=>absurd rfl B⟩
   .rw[eN,r,dP,dP,J,G];rfl
   .show cA 0 3 h6 U (((l++[ne]).map Ki).flatMap Ay)
    rw[dP,gX];simpa using o6
   .exact(a2.trans (aV.bD (F:=λ_=>False) Z) λ_ _ f=>f.elim).trans c6 λi hi ⟨a,ha,e⟩=>by
     rcases V a ha with d|d
     .exact⟨a,d,e⟩
     .omega
   .rcases b6 a ha with d|d
    .exact V a d
    .exact .inr (by omega)
  .rw[aY]at E
   have:i=x.2.length:=by omega
   subst this;rw[fF]at J;exact aC ⟨λB=>absurd B (by decide),λ_=>⟨rfl,out,pt,l,rfl,A,J,o1,O,c1,V⟩⟩
 rintro t vs d ⟨rfl,out,pt,l,rfl,A,J,o1,O,c1,V⟩;refine bE ?_;refine⟨(out,pt,()),rfl,?_⟩;dsimp only;refine bL (λ(s:Sl×Int×Unit) h'=>∃(i:Nat) (L:List Tr),s.2.1=i/\i<=9/\L.length=i/\cA 0 3 h' s.1 ((l.map Ki++L).flatMap Ay)/\LentP h.size h' s.1 pt l/\aV (fY sl) h h'/\∀a,s.1.aD=some a->sl.aD=some a\/h.size<=a.block) (λs _=>((9:Int)-s.2.1).toNat)
  (λt vs h'=>t=4/\∃out L,vs=[dN out]/\L.length=9/\cA 0 3 h' out ((l.map Ki++L).flatMap Ay)/\LentP h.size h' out pt l/\aV (fY sl) h h'/\∀a,out.aD=some a->sl.aD=some a\/h.size<=a.block)
  ⟨0,[],rfl,cN _,rfl,by rw[kQ];exact o1,O,c1,V⟩ ?_ ?_
 .rintro⟨(q:Sl),(si:Int),u⟩ h2 ⟨i,L,hi,hle,hL,o2,r2,c2,R⟩
  dsimp only at hi o2 r2 R⊢;subst hi;refine aE (λE=>?_) λE=>?_
  .rw[aU]at E
   refine λel=>?_;have H:Ext h2 (h2.push (.cells (Ay (0,0,⟨none,0,0⟩)).toArray el)):=Ext.push ..;have C:cA h2.size 1 (h2.push (.cells (Ay (0,0,⟨none,0,0⟩)).toArray el)) ⟨some ⟨h2.size,0,none⟩,3,3⟩ (Ay (0,0,⟨none,0,0⟩)):=bR rfl (by decide) (by decide);show wp P _ (h2.push (.cells (Ay (0,0,⟨none,0,0⟩)).toArray el)) _;generalize h2.push (.cells (Ay (0,0,⟨none,0,0⟩)).toArray el)=h3 at H C⊢;have rd:Rd 3 h3 ⟨some ⟨h2.size,0,none⟩,1,1⟩ (Ay (0,0,⟨none,0,0⟩)):=⟨rfl,λi v hi=>⟨_,rfl,aI.1 C.cells i v hi⟩⟩;have a7:=o2.ext H;have al:=a7.1;rw[CC,bP,cE,A,hL]at al;have a9:=c2.1;have cr:=H.1;refine iQ a7 (cN _) rd (by intro v I;simp at I;rcases I with rfl|rfl|rfl<;>rfl) rfl (by dsimp only;omega) (by dsimp only;omega) λq' j o4 l4 u4 b4 _=>?_;have T:aV (fY q) h3 j:=aV.dK u4 λa ha _=>⟨a,ha,rfl⟩;have W:=r2.ext H;rw[aX (by omega) (by omega)];refine aC ⟨λ_=>⟨(q',(i:Int)+1,()),rfl,⟨i+1,L++[(0,0,⟨none,0,0⟩)],by push_cast;rfl,by omega,by simp[hL],?_,?_,?_,λa ha=>?_⟩,by dsimp only;omega⟩,λB=>absurd rfl B⟩
   .show cA 0 3 j q' ((l.map Ki++(L++[((0,0,⟨none,0,0⟩):Tr)])).flatMap Ay)
    rw[<-dW,gX];simpa using o4
   .exact(W.out b4).aP T λi _ _ hf=>⟨λ⟨a,ha,e⟩=>W.np a ha (by rw[e];exact hf),λe he ⟨a,ha,e'⟩=>(W.no e he a ha).1 (by rw[e'];exact hf)⟩
   .exact(c2.trans (aV.bD (F:=λ_=>False) H) λ_ _ f=>f.elim).trans T λi hi ⟨a,ha,e⟩=>by
     rcases R a ha with d|d
     .exact⟨a,d,e⟩
     .omega
   .rcases b4 a ha with d|d
    .exact R a d
    .exact .inr (by omega)
  .rw[aY]at E
   have:i=9:=by omega
   subst this;exact aC ⟨λB=>absurd B (by decide),λ_=>⟨rfl,q,L,rfl,hL,o2,r2,c2,R⟩⟩
 rintro t vs h2 ⟨rfl,q,L,rfl,hL,o2,r2,c2,R⟩;refine bE (mP ?_);have ct:=o2.2.1;have cx:=o2.2.2.1;have cc:=o2.1;rw[CC,bP,cE,A,hL]at cc;refine aL (jF (by rw[aN];omega) (by rw[aN];exact kR _)) ?_;dsimp only;have bs:bK q.aD q.cap 0 3=q.aD:=eW ..;have hN:aQ (cY (bQ (aQ q.cap)) 0)=(q.cap:Int):=rfl;rw[bs,hN];obtain⟨ws,ow⟩:=NY o2;obtain⟨rest,a1⟩:∃rest:bG,rest=L.flatMap Ay++ws:=⟨_,rfl⟩;have a5:cA 0 3 h2 ⟨q.aD,q.cap,q.cap⟩ ((l.map Ki).flatMap Ay++rest):=by
  rw[a1,<-dW,<-gX];exact ow
 have c8:l.length*3+rest.length=q.cap*3:=by
  have:=a5.1;rw[bP,CC,cE]at this;dsimp only at this;omega
 obtain⟨n,hn⟩:∃n,q.cap=l.length+n:=⟨q.cap-l.length,by omega⟩;have c9:rest.length=n*3:=by omega
 have bo:(x.2.length:Int)=((l.length:Nat):Int):=by rw[A]
 rw[bo];have cg:LentP h.size h2 ⟨q.aD,q.cap,q.cap⟩ pt l:=r2.out λa ha=>.inl ha;refine bL (λ(x:Int×Unit) h'=>∃i:Nat,x.1=((l.length+i:Nat):Int)/\i<=n/\aV (fY q) h2 h'/\cA 0 3 h' ⟨q.aD,q.cap,q.cap⟩ ((l.map Ki).flatMap Ay++(TF l.length i).flatMap Ay++rest.drop (i*3))) (λx _=>((q.cap:Int)-x.1).toNat)
  (λt vs h'=>t=6/\vs=[]/\aV (fY q) h2 h'/\cA 0 3 h' ⟨q.aD,q.cap,q.cap⟩ ((l.map Ki).flatMap Ay++(TF l.length n).flatMap Ay)) ⟨0,rfl,cN _,aV.refl _ _,by simpa[TF] using a5⟩ ?_ ?_
 .rintro⟨(si:Int),u⟩ h3 ⟨i,hi,hle,c3,C⟩
  dsimp only at hi⊢;subst hi;refine aE (λE=>?_) λE=>?_
  .rw[aU]at E
   have a4:i<n:=by omega
   have a0:∃a,q.aD=some a:=by
    cases hb:q.aD with
    |none=>
     have:=ow.2.2.2;rw[hb]at this;have:q.cap=0:=this;omega
    |some a=>exact⟨a,rfl⟩
   obtain⟨a,ea⟩:=a0;refine aL (fC.2 ⟨by rw[ea];rfl,kN.2 ⟨by omega,by show((l.length+i:Nat):Int)<((q.cap:Nat):Int);omega⟩⟩) ?_;have b8:cA 0 3 h3 ⟨q.aD,q.cap,q.cap⟩ (((l.map Ki).flatMap Ay++(TF l.length i).flatMap Ay)++(rest.drop (i*3)).take 3++rest.drop ((i+1)*3)):=by
    have hd:rest.drop (i*3)=(rest.drop (i*3)).take 3++rest.drop ((i+1)*3):=by
     conv=>lhs;rw[<-eY 3 (rest.drop (i*3))]
     rw[Eh,show i*3+3=(i+1)*3 by omega]
    rw[hd]at C;rw[dW];exact C
   have ab:((rest.drop (i*3)).take 3).length=3:=by rw[dJ,cV];omega
   have ba:aZ (bQ ((l.length+i:Nat):Int)) 3=((l.map Ki).flatMap Ay++(TF l.length i).flatMap Ay).length:=by
    rw[bP,CC,CC,cE,Ra,hO,eX,cS];omega
   rw[ba];refine qC (s:=⟨q.aD,q.cap,q.cap⟩) (mid:=(rest.drop (i*3)).take 3) [aH (bJ .i64 (-71) ((l.length+i:Nat):Int)),aH (-72), .slice none 0 0] b8 rfl (by rw[ab];rfl) (λB=>by rw[B]at ab;cases ab) (by intro v I;simp at I;rcases I with rfl|rfl|rfl<;>rfl) λj o4 u4 z4=>?_;rw[aX (by omega) (by omega)];refine aC ⟨λ_=>⟨(((l.length+i:Nat):Int)+1,()),rfl,⟨i+1,by push_cast;omega,by omega,c3.trans (aV.dK (F:=fY q) u4 λx hx _=>⟨x,hx,rfl⟩) λ_ _ f=>f,?_⟩,by dsimp only;omega⟩,λB=>absurd rfl B⟩;rw[ZT,gX];simpa using o4
  .rw[aY]at E
   have:i=n:=by omega
   subst this;rw[uL (by omega),kQ]at C;exact aC ⟨λB=>absurd B (by decide),λ_=>⟨rfl,rfl,c3,C⟩⟩
 .rintro t vs h3 ⟨rfl,rfl,c3,C⟩
  refine bE (bO (aC ⟨rfl,⟨q.aD,q.cap,q.cap⟩,pt,l,n,rfl,by omega,A,⟨cg.wrote c3,by rw[gX];exact C⟩,J,c2.trans c3 λi hi ⟨a,ha,e⟩=>?_,R⟩));rcases R a ha with d|d
  .exact⟨a,d,e⟩
  .omega
end
section
variable{P:Program}{S:cH}{h:aG}{Q:Nat->bG->aG->Prop}
variable{e:LE}{s:Sl}{l:List LE}{i:Nat}{x:Int}
theorem sc{n:Nat}(o:bU n .i64 h e.p (e.w++Ll e.w.length e.j)):kW .i64 h (ek e) e.w:=by
 have:=o.lO.take (n:=e.w.length) (m:=e.p.cap) (by rw[bP];omega) (by have b:=o.len;have h2:=o.own.2.1;rw[bP]at b;omega) o.own.2.2.1;rw[Ap (bM _),fF]at this;exact this
theorem bc{n:Nat}{K:Sl->aK}(o:cA n 1 h s (l.map λe=>dN e.p))(j:x=(i:Int))(hi:l[i]?=some e)(d:wp P (K e.p) h Q) :
  wp P (bF (bN (aJ s.aD) (eV x s.len))<|.load (tS) (aB s.aD (aZ (bQ x) 1)) K) h Q:=by
 subst j;have m:=(cR.1 hi).1;have f:=o.1;rw[cE]at f;obtain⟨a,ea,c⟩:=o.rd.2 i (dN e.p) (by rw[gP,hi];rfl);refine aL (fC.2 ⟨by rw[ea];rfl,kN.2 ⟨by omega,by omega⟩⟩) ?_;have g:aB s.aD (aZ (bQ (i:Int)) 1)=some (a.add i):=by rw[ea,hO,eX,cS,HV];rfl
 rw[g];exact bC (b:=.sl) _ e.p rfl c d
theorem mc{n:Nat}{l:List Tr}{j:Nat}{e e':Tr}{c1 c2:bG}{v b:Value}{K:aK}(o:cA n 3 h s (l.flatMap Ay))(q:x=(i:Int))(hi:l[i]?=some e)(h1:Ay e=c1++[v]++c2)(h2:Ay e'=c1++[b]++c2)(d:c1.length=j)(c:flat b=true)
  (f:∀h',cA n 3 h' s ((l.set i e').flatMap Ay)->aV (fY s) h h'->h'.size=h.size->wp P K h' Q) :
  wp P (bF (bN (aJ s.aD) (eV x s.len))<|bF (aJ (aB s.aD (aZ (bQ x) 3)))<|.store (aB (aB s.aD (aZ (bQ x) 3)) j) [b] K) h Q:=by
 subst q;have r:=(cR.1 hi).1;have g:=o.1;rw[CC]at g;obtain⟨a,ea,t⟩:=sN (m:=3) (λ_=>rfl) (by decide) o hi;refine aL (fC.2 ⟨by rw[ea];rfl,kN.2 ⟨by omega,by omega⟩⟩) ?_;refine aL (by rw[ea];rfl) ?_;rw[uj];exact ub o hi h1 h2 rfl (by simp) (by intro w hw;rw[dE.1 hw];exact c) (by rw[hO,eX,cS,d]) f
theorem py{n m:Nat}{out pt:Sl}{x:GP}(r:CP n h out pt l m)(hm:9<=m)(b6:l.length=x.2.length)(hl:x.2.length<=1048576)(ba:l.map (λe=>((e.f,e.t,(⟨none,0,0⟩,e.w),()):iM))=x.2.map hP)
  (hx:∀h',aV (λi=>fY out i\/∃e∈l,fY e.p i) h h'->(Sh.list jT).ok h' x) :
  wp P (BS S out pt x.1) h λtg vs h'=>tg=0/\vs=[.bool true]/\aV (λi=>fY out i\/∃e∈l,fY e.p i) h h'/\∃T:List Tr,cA 0 3 h' out (T.flatMap Ay):=by
 unfold BS;have a9:=r.len;have b0:=r.lo.2.1;have b3:=r.lo.2.2.1;have a2:aQ x.1.len=(x.2.length:Int):=by rw[aN,(hx h (aV.refl _ _)).len]
 have a1:aQ out.len=((l.length+m:Nat):Int):=by rw[aN,a9]
 have hg:qG (aQ out.len) (aT .i64 (aQ x.1.len) 9)=true:=by rw[dD,a2,a1,aX (by omega) (by omega)];omega
 rw[hg,a2,a1];have hL:∀{j:Nat} {e:LE},l[j]?=some e->(l.map Ki++TF l.length m)[j]?=some (Ki e):=λ{j e} G=>by
  rw[mL (by rw[cE];exact(cR.1 G).1),gP,G];rfl
 refine bL (λ(s:Bool×Int×Unit) h'=>Ext h h'/\s.1=true/\∃i:Nat,s.2.1=((l.length+i:Nat):Int)/\i<=m) (λs _=>(((l.length+m:Nat):Int)-s.2.1).toNat)
  (λt vs h'=>Ext h h'/\t=2/\vs=[.bool true]) ⟨Ext.refl _,rfl,0,by show(x.2.length:Int)=_;omega,cN _⟩ ?_ ?_
 .rintro⟨(sb:Bool),(si:Int),u⟩ V ⟨K,hb,i,hi,hle⟩
  dsimp only at hi hb⊢;subst hi;subst hb;refine aE (λd=>?_) λd=>aC ⟨λq=>absurd q (by decide),λ_=>⟨K,rfl,rfl⟩⟩;rw[aU]at d;have al:i<m:=by omega
  have o1:=r.lo.ext K;have L:(l.map Ki++TF l.length m)[l.length+i]?=some (bJ .i64 (-71) ((l.length+i:Nat):Int), -72,⟨none,0,0⟩):=by
   rw[jZ (by rw[cE];omega),cE,show l.length+i-l.length=i by omega,iz al]
  refine gA (tys:=[tB]) (λ(y:Bool×Unit) _=>y.1=true) ?_ λ⟨(y:Bool),_⟩ h2 e2 o=>?_
  .refine aE (λ_=>?_) λd=>by cases d
   refine PX (b:=bI) (v:=bJ .i64 (-71) ((l.length+i:Nat):Int)) o1 rfl L rfl ?_;refine aE (λ_=>?_) λd=>by rw[dS]at d;exact absurd rfl d
   refine PX (b:=bI) (v:=-72) o1 rfl L rfl ?_;refine aE (λ_=>?_) λd=>by rw[dS]at d;exact absurd rfl d
   refine PX (b:=.sl) (v:=⟨none,0,0⟩) o1 rfl L rfl ?_;exact aC ⟨rfl,Ext.refl _,(true,()),rfl,rfl⟩
  .have o:y=true:=o
   subst o;rw[aX (by omega) (by omega)];exact aC ⟨λ_=>⟨(true,((l.length+i:Nat):Int)+1,()),rfl,⟨K.trans e2,rfl,i+1,by push_cast;omega,by omega⟩,by dsimp only;omega⟩,λq=>absurd rfl q⟩
 rintro t vs V ⟨K,rfl,rfl⟩;refine bE (gF ?_);have r1:CP n V out pt l m:=⟨r.toLentP.ext K,r.lo.ext K⟩;refine bL (λ(s:Bool×Int×Unit) h'=>s.1=true/\∃(i:Nat) (T:List Tr),s.2.1=i/\i<=l.length/\aV (λi=>fY out i\/∃e∈l,fY e.p i) h h'/\T.length=l.length+m/\(∀j,i<=j->T[j]?=(l.map Ki++TF l.length m)[j]?)/\cA 0 3 h' out (T.flatMap Ay)/\cA n 1 h' pt (l.map λe=>dN e.p)/\∀j e,i<=j->l[j]?=some e->bU n .i64 h' e.p (e.w++Ll e.w.length e.j)) (λs _=>((l.length:Int)-s.2.1).toNat)
  (λt vs h'=>t=4/\vs=[.bool true]/\aV (λi=>fY out i\/∃e∈l,fY e.p i) h h'/\∃T:List Tr,cA 0 3 h' out (T.flatMap Ay))
  ⟨rfl,0,_,rfl,cN _,aV.bD K,by rw[bP,cE,Ra],λ_ _=>rfl,r1.lo,r1.pl,λj e _ G=>(r1.pu e (eM G)).1⟩ ?_ ?_
 .rintro⟨(sb:Bool),(si:Int),u⟩ h2 ⟨hb,i,T,hi,hle,c2,hT,a0,O,oP,oE⟩
  dsimp only at hi hb⊢;subst hi;subst hb;refine aE (λd=>?_) λd=>aC ⟨λq=>absurd q (by decide),λ_=>⟨rfl,rfl,c2,T,O⟩⟩;rw[aU]at d;have al:i<l.length:=by omega
  obtain⟨e,he⟩:∃e,l[i]?=some e:=⟨l[i],cL al⟩;obtain⟨c,A⟩:∃c,x.2[i]?=some c:=⟨x.2[i]'(by omega),cL (by omega)⟩;have B:=eM he;have ab:e.f=c.1/\e.t=c.2.1/\e.w=c.2.2.1.2:=by
   have:=congrArg (·[i]?) ba;simp only[gP,he,A,JI,hP,gO,oU]at this;exact⟨this.1,this.2.1,this.2.2.1.2⟩
  have I:=hx h2 c2;have U:T[i]?=some (Ki e):=by rw[a0 i (bM _)];exact hL he
  have oe:=oE i e (bM _) he;refine gA (tys:=[tB]) (λ(y:Bool×Unit) _=>y.1=true) ?_ λ⟨(y:Bool),_⟩ h3 E o=>?_
  .refine aE (λ_=>?_) λd=>by cases d
   refine PX (b:=bI) (v:=e.f) O rfl U rfl (jW (b:=bI) (z:=c.1) I A rfl ?_);refine aE (λ_=>?_) λd=>by rw[dS]at d;exact absurd ab.1 d
   refine PX (b:=bI) (v:=e.t) O rfl U rfl (jW (b:=bI) (z:=c.2.1) I A rfl ?_);refine aE (λ_=>?_) λd=>by rw[dS]at d;exact absurd ab.2.1 d
   refine PX (b:=.sl) (v:=ek e) O rfl U rfl (jW (b:=.sl) (z:=c.2.2.1.1) I A rfl ?_);have lc:=HG I A;rw[<-ab.2.2]at lc;refine aM (E2 (sc oe) lc) λ⟨(b1:Bool),_⟩ h3 E Z=>?_;have Z:b1=true:=by have V:b1=decide _:=Z;rw[V];exact decide_eq_true rfl
   subst Z;refine aE (λ_=>?_) λd=>by cases d
   have bt:=I.ext E;refine bc (oP.ext E) rfl he (jW (b:=.sl) (z:=c.2.2.1.1) bt A rfl ?_);refine aM (MP (oe.lO.ext E) (lc.ext E) (r.pu e B).2.1) λ⟨(b2:Bool),_⟩ Y e4 a7=>?_;exact aC ⟨rfl,E.trans e4,(b2,()),rfl,a7⟩
  have o:y=true:=o;subst o;have aw:aV (λ_=>False) h2 h3:=aV.bD E;have bp:=O.ext E;have a5:=oP.ext E;have H:=aw.qH oe λ_ _ f=>f;have a3:=H.len;have b8:=H.own.2.1;have b9:=H.own.2.2.1;dsimp only;obtain⟨R,bb⟩:∃R,R=e.w++Ll e.w.length e.j:=⟨_,rfl⟩;rw[<-bb]at H a3;have a8:aQ e.p.len=(R.length:Int):=by rw[aN,a3]
  refine bL (λ(s:Int×Unit) h'=>∃(j:Nat) (w:bB),s.1=j/\j<=R.length/\w.length=R.length/\aV (fY e.p) h3 h'/\bU n .i64 h' e.p w) (λs _=>((R.length:Int)-s.1).toNat)
   (λt vs h'=>t=6/\vs=[]/\aV (fY e.p) h3 h') ⟨0,R,rfl,cN _,rfl,aV.refl _ _,H⟩ ?_ ?_
  .rintro⟨(sj:Int),u⟩ Y ⟨j,w,G,b4,bd,J,o4⟩
   dsimp only at G⊢;subst G;have ao:=J.own a5 λa ha g=>by
    obtain⟨b,hb,C⟩:=g;exact(r.no e B b hb).2 ⟨a,ha,C.symm⟩
   refine bc ao rfl he ?_;rw[a8];refine aE (λd=>?_) λd=>aC ⟨λq=>absurd q (by decide),λ_=>⟨rfl,rfl,J⟩⟩;rw[aU]at d;refine bc ao rfl he (aL rfl ?_);refine T6 o4 (by omega) (range_i64 _) λh5 o5 c5 z5=>?_;rw[aX (by omega) (by omega)];exact aC ⟨λ_=>⟨((j:Int)+1,()),rfl,⟨j+1,_,by push_cast;rfl,by omega,by rw[CJ];exact bd,J.trans c5 λ_ _ h=>h,o5⟩,by dsimp only;omega⟩,λq=>absurd rfl q⟩
  .rintro t vs Y ⟨rfl,rfl,J⟩
   refine bE (bO ?_);have a4:∀y∈l,∀a,y.p.aD=some a->¬fY out a.block:=λy o a ha=>(r.no y o a ha).1;have bs:cA 0 3 Y out (T.flatMap Ay):=J.own bp λa ha g=>by
    obtain⟨b,hb,C⟩:=g;exact a4 e B b hb ⟨a,ha,C.symm⟩
   have ao:=J.own a5 λa ha g=>by
    obtain⟨b,hb,C⟩:=g;exact(r.no e B b hb).2 ⟨a,ha,C.symm⟩
   refine mc (e:=Ki e) (e':=(-5,e.t,ek e)) (c1:=[]) (v:=aH e.f) (c2:=[aH e.t,dN (ek e)]) bs rfl U rfl rfl rfl rfl λh5 o5 c5 z5=>?_;have a6:i<T.length:=by omega
   refine mc (e:=(-5,e.t,ek e)) (e':=(-5,99999,ek e)) (c1:=[aH (-5)]) (v:=aH e.t) (c2:=[dN (ek e)]) o5 rfl (by rw[List.getElem?_set_self a6]) rfl rfl rfl rfl λh6 o6 c6 z6=>?_;rw[aX (by omega) (by omega)];have W:aV (λi=>fY out i\/fY e.p i) h2 h6:=(((aw.mono λ_ _ f=>f.elim).trans J λ_ _ h=>.inr h).trans c5 λ_ _ h=>.inl h).trans c6 λ_ _ h=>.inl h;refine aC ⟨λ_=>⟨(true,(i:Int)+1,()),rfl,⟨rfl,i+1,_,by push_cast;rfl,by omega,c2.trans W λk _ g=>g.imp id λh=>⟨e,B,h⟩,by rw[CJ,CJ];exact hT,λj G=>?_,o6,?_,λj y G o=>?_⟩,by dsimp only;omega⟩,λq=>absurd rfl q⟩
   .rw[R0 (by omega),R0 (by omega)]
    exact a0 j (by omega)
   .refine W.own oP λa ha g=>?_
    rcases g with g|⟨b,hb,C⟩
    .exact r.np a ha g
    .exact(r.no e B b hb).2 ⟨a,ha,C.symm⟩
   .have bo:=eM o
    refine W.qH (oE j y (by omega) o) λa ha g=>?_;rcases g with g|⟨b,hb,C⟩
    .exact a4 y bo a ha g
    .obtain⟨V,h2⟩:=cR.1 he
     obtain⟨h3,Y⟩:=cR.1 o;have:=Se.1 r.ne i j V h3 (by omega);rw[h2,Y]at this;exact this b a hb ha C
 .rintro t vs h2 ⟨rfl,rfl,c2,T,O⟩
  exact bE (gF (aC ⟨rfl,rfl,c2,T,O⟩))
end
section
variable{P:Program}{S:cH}{h:aG}{Q:Nat->bG->aG->Prop}{n k:Nat}{rho:Nat->Nat}{X:Bk}{D:Doc}{p:Addr}{sl sw:Sl}{vs:bG}{ls:bB}{M M':Mo}{N N':Nat}
variable{l:List LE}{i:Nat}{h':aG}{F:Nat->Prop}{x:GP}
noncomputable def Va(h:aG)(rho:Nat->Nat)(k:Nat)(out pt:Sl)(l:List LE):Nat->Nat:=open Classical in λi=>if i<h.size then rho i else if fY out i then k+24 else if fY pt i\/∃e∈l,fY e.p i then k+26 else 0
theorem ZK{out pt:Sl}(hi:i<h.size):Va h rho k out pt l i=rho i:=if_pos hi
theorem sf{out pt:Sl}(hi:h.size<=i)(b:fY out i):Va h rho k out pt l i=k+24:=by unfold Va;rw[if_neg (by omega),if_pos b]
theorem ZL{out pt:Sl}(hi:h.size<=i)(b:¬fY out i)(c:fY pt i\/∃e∈l,fY e.p i):Va h rho k out pt l i=k+26:=by unfold Va;rw[if_neg (by omega),if_neg b,if_pos c]
theorem se{out pt:Sl}(hi:h.size<=i):Va h rho k out pt l i=0\/(k<Va h rho k out pt l i/\Va h rho k out pt l i<=k+30):=by
 unfold Va;rw[if_neg (by omega)];split
 .exact .inr (by omega)
 .split
  .exact .inr (by omega)
  .exact .inl rfl
theorem gQ.zj{c:Sl}{l:bG}{K:aK}{rho':Nat->Nat}(q:gQ S n k rho h p X D sl sw vs ls)(c0:aV F h h')(m:∀i,i<h.size->F i->rho i=k+24)(h0:∀i,i<h.size->rho' i=rho i)(oc:tJ (k+24) 3 rho' h' c l)
  (C:∀g,gQ S n k rho' g p X D c sw l ls->aV (λi=>i=p.block) h' g->g.size=h'.size->wp P K g Q) :
  wp P (bF (aJ (some p))<|bF (aJ (some p))<|.store (aB (some p) 3) [dN c] K) h' Q:=by
 have A:rho p.block=k+23:=q.ob.2 p rfl;have z:p.block<h.size:=(q.ob.1.lt rfl).2;have u:rho' p.block=k+23:=by rw[h0 _ z];exact A
 have o:=q.ob.aP (rho':=rho') c0 (λi hi d=>by have:=m i hi d;omega) λi hi t=>by rw[h0 i hi];exact t
 have B:=q.lw.aP (rho':=rho') c0 (λi hi d=>by have:=m i hi d;omega) λi hi t=>by rw[h0 i hi];exact t
 have w:=q.bk.other (rho':=rho') c0 (λi hi d=>by have:=m i hi d;omega) λi hi _=>h0 i hi;have r:=q.doc.aP (rho':=rho') c0 (λi hi d=>by have:=m i hi d;omega) λi hi _=>h0 i hi;have E:cA 0 1 h' ⟨some p,5,5⟩ ([.pointer (some X.b), .pointer (some X.T.p), .pointer (some D.b)]++[dN sl]++[dN sw]):=o.1;refine aL rfl (aL rfl (qC (mid:=[dN sl]) [dN c] E rfl rfl (by simp) (by intro v G;rw[dE.1 G];rfl) λg H I J=>?_));have j:aV (λi=>i=p.block) h' g:=aV.dK I λa ha _=>by cases ha;rfl
 have f:∀i,i<h'.size->i=p.block->rho' i=k+23:=λi _ e=>by rw[e];exact u
 exact C g ⟨w.other j (λi hi d=>by have:=f i hi d;omega) λ_ _ _=>rfl,r.aP j (λi hi d=>by have:=f i hi d;omega) λ_ _ _=>rfl,⟨H,o.2⟩,oc.aP j (λi hi d=>by have:=f i hi d;omega) λ_ _ h=>h,B.aP j (λi hi d=>by have:=f i hi d;omega) λ_ _ h=>h⟩ j J
theorem gQ.xa{f:bG}(q:gQ S n k rho h p X D sl sw vs ls)(c:aV F h h')(d:∀i,i<h.size->F i->rho i=k+24\/rho i=k+26)(o:cA 0 3 h' sl f):gQ S n k rho h' p X D sl sw f ls where
 bk:=q.bk.other c (λi hi b=>by have:=d i hi b;omega) λ_ _ _=>rfl
 doc:=q.doc.aP c (λi hi b=>by have:=d i hi b;omega) λ_ _ _=>rfl
 ob:=q.ob.aP c (λi hi b=>by have:=d i hi b;omega) λ_ _ h=>h
 le:=⟨o,q.le.2⟩
 lw:=q.lw.aP c (λi hi b=>by have:=d i hi b;omega) λ_ _ h=>h
def ve(enc limit:Int)(M:Mo)(es:List iM)(e:Int)(M':Mo):Prop:=(M.now=none/\e=71/\M'=M)\/∃q,M.now=some q/\EW enc limit M.E es e/\M'=if e=0 then M.oY q es else M
theorem ve.fn{enc limit:Int}{es:List iM}{e e':Int}{o M2:Mo}(a:ve enc limit M es e o)(b:ve enc limit M es e' M2):e=e'/\o=M2:=by
 rcases a with⟨g,j,m⟩|⟨q,g,j,m⟩
 .rcases b with⟨c,d,f⟩|⟨r,c,d,f⟩
  .exact⟨by rw[j,d],by rw[m,f]⟩
  .rw[g]at c;cases c
 .rcases b with⟨c,d,f⟩|⟨r,c,d,f⟩
  .rw[g]at c;cases c
  .rw[g]at c
   cases c;have:=EW.fn j d;subst this;exact⟨rfl,by rw[m,f]⟩
theorem lH.mono{h':aG}(b:lH S n k X h rho h' M N)(f:N<=N'):lH S n k X h rho h' M N':=by
 obtain⟨c,d,st,r,i,sm⟩:=b;exact⟨c,d,st,r,i.mono f,sm⟩
theorem Yf(o:kB P S){enc limit:Int}{es:List iM}(r:cO S n h rho k X)(i:Inv X M N)(he:enc=X.T.enc)(v:limit=X.T.limit)(c:x.2.map hP=es.map hP)(m:∀h',aV (λi=>k<rho i/\rho i<=k+10) h h'->(Sh.list jT).ok h' x)
  (w:∀e,e∈x.2->e.2.2.1.2≠[]->∀a,e.2.2.1.1.aD=some a->rho a.block<=k\/k+10<rho a.block) (u:N+1+(aW es).length<=68719476736) :
  wp P (kD S (some X.b) x.1) h λtg vs h'=>tg=0/\∃e M',vs=[aH e]/\ve enc limit M es e M'/\lH S n k X h rho h' M' (N+1+(aW es).length):=by
 have d:aW x.2=aW es:=by rw[<-Gq x.2,c,Gq]
 cases hm:M.now with
 |none=>
  refine cM _ (λtg vs h' ⟨f,h2,h3⟩=>?_) (Ry (x:=x.1) r i hm);exact⟨f,71,M,h2, .inl ⟨hm,rfl,rfl⟩,h3.mono (by omega)⟩
 |some q=>
  refine cM _ (λtg vs h' ⟨f,e,h2,h3,z,g⟩=>?_) (db o (x:=x) r i hm m w (by rw[d];exact u));have j:=ah r.t.enc r.t.cur.bytes h3;rw[i.lk.E,<-he,<-v,<-Og,c,Og]at j;refine⟨f,e,_,h2, .inr ⟨q,hm,j,rfl⟩,?_⟩;rw[d,Xk c]at g;exact g
theorem Xm(r:eZ k rho h D)(m:DocM D M)(o:iF D.enc D.limit M N)(u:N<=68719476736)(v:∀h',aV (λi=>k<rho i/\rho i<=k+10) h h'->(Sh.list jT).ok h' x)(j:x.2.length<=1073741824)(f:(aW x.2).length<=1000000000) :
  wp P (jB S (some D.b) x.1) h λtg vs h'=>tg=0/\∃e M',vs=[aH e]/\ve D.enc D.limit M x.2 e M'/\kA k h rho h' D M':=by
 cases hm:M.now with
 |none=>
  refine cM _ (λtg vs h' ⟨c,h2,h3⟩=>?_) (Qn (x:=x.1) r m hm);exact⟨c,71,M,h2, .inl ⟨hm,rfl,rfl⟩,h3⟩
 |some q=>
  have g:=mn o.sz;have d:M.ch=q.lI:=by unfold Mo.ch;rw[hm];rfl
  rw[d]at g;refine cM _ (λtg vs h' ⟨c,e,h2,h3,t⟩=>?_) (Y8 r m o u hm v j f (by omega));exact⟨c,e,_,h2, .inr ⟨q,hm,h3,rfl⟩,t⟩
theorem UF(Me:kB P S){o2 o3 o4:Int}{x5:GP}{o6:Sl}(q:gQ S n k rho h p X D sl sw vs ls)(b:EP X D M N)(hN:N<=1048576)(a8:x5.2.length<=1048576)(eh:(aW x5.2).length<=1048576)(hs:∀h',aV (λi=>k<rho i/\rho i<=k+30) h h'->(Sh.list jT).ok h' x5) :
  wp P (jA S (some p) (2,o2,o3,o4,x5.1,o6,())) h λtg vs h'=>tg=0/\vs=[.bool true]/\∃M',iA S n k h rho h' p X D M' (N+1+(aW x5.2).length):=by
 unfold jA;refine λel=>?_;obtain⟨os,Y⟩:∃os,os=[aH 2,aH o2,aH o3,aH o4,dN x5.1,dN o6]:=⟨_,rfl⟩;have b4:os[0]?=some (aH 2):=by rw[Y];rfl
 have V:os[4]?=some (dN x5.1):=by rw[Y];rfl
 have cx:os.length=6:=by rw[Y];rfl
 show wp P _ (h.push (.cells [aH 2,aH o2,aH o3,aH o4,dN x5.1,dN o6].toArray el)) _;rw[<-Y];have e1:Ext h (h.push (.cells os.toArray el)):=Ext.push ..;have oo:cA h.size 1 (h.push (.cells os.toArray el)) ⟨some ⟨h.size,0,none⟩,6,6⟩ os:=bR (by rw[cx]) (by decide) (by decide);generalize h.push (.cells os.toArray el)=d at e1 oo⊢;have U:=q.ext e1;have a5:qN k h rho d (Hist.zr h rho):=(cW.nH (k:=k) e1).Vv ⟨bM _,by omega⟩;have z1:=(Lr h rho).mono e1.1;have oA:tJ 0 1 (Hist.zr h rho) d ⟨some ⟨h.size,0,none⟩,6,6⟩ os:=⟨cA.mono oo (cN _),λa ha=>by cases ha;exact qJ (bM _)⟩;generalize Hist.zr h rho=j at U a5 oA z1;generalize eg:(⟨h.size,0,none⟩:Addr)=A at oA⊢;have a1:∀{g g':aG} {r:Nat->Nat} {F:Nat->Prop},qN k h rho g r->aV F g g'->(∀i,i<g.size->F i->k<r i/\r i<=k+30)->(Sh.list jT).ok g' x5:=λ{g g' r F} st c hF=>hs _ (st.c.trans c λi hi f=>by
  have d:=hF i (by have:=st.c.1;omega) f;by_cases ho:rho i<=k\/k+30<rho i
  .rw[st.old i hi ho]at d;omega
  .omega)
 have c4:∀{g:aG} {r:Nat->Nat},qN k h rho g r->(Sh.list jT).ok g x5:=λst=>hs _ st.c;refine dB (λt w h'=>t=1/\w=[.bool true]/\∃M',iA S n k h rho h' p X D M' (N+1+(aW x5.2).length)) ?_ ?_
 .refine bX (b:=bI) 2 rfl oA.1.cells b4 ?_
  refine aE (λhc=>by cases hc) λ_=>aE (λ_=>?_) λhc=>by cases hc
  refine U.rd (b:=.sl) sl rfl (bX (b:=.sl) x5.1 rfl oA.1.cells V ?_);have W:∀i,i<d.size->fY sl i->j i=k+24:=λi _ ⟨a,ha,e⟩=>by rw[<-e];exact U.le.2 a ha
  have bt:∀e∈x5.2,e.2.2.1.2.length<=1048576:=λe he=>by
   have:e.2.2.1.2.length<=(aW x5.2).length:=by
    unfold aW;rw[My];exact yE (λe:iM=>e.2.2.1.2.length) he
   omega
  refine eG (q_ U.le.1 (λg c=>a1 a5 c λi hi f=>by rw[W i hi f];omega) a8 bt) λtg w h2 R=>?_;obtain⟨rfl,out,pt,l,m,rfl,cr,a9,H,ba,c2,b2⟩:=R;refine⟨rfl,(out,pt,()),rfl,?_⟩;have ej:=c2.1;have B:∀i,fY out i->Va d j k out pt l i=k+24:=λi hi=>by
   by_cases J:i<d.size
   .rw[ZK J]
    obtain⟨a,ha,rfl⟩:=hi;rcases b2 a ha with h3|h3
    .exact U.le.2 a h3
    .omega
   .exact sf (by omega) hi
  have aw:∀i,fY pt i->d.size<=i/\i<h2.size/\Va d j k out pt l i=k+26:=λi hi=>by
   obtain⟨a,ha,rfl⟩:=hi;have:=H.pl.lt ha;exact⟨this.1,this.2,ZL this.1 (H.np a ha) (.inl ⟨a,ha,rfl⟩)⟩
  have K:∀i,(∃e∈l,fY e.p i)->d.size<=i/\i<h2.size/\Va d j k out pt l i=k+26:=λi ⟨e,he,hi⟩=>by
   obtain⟨a,ha,rfl⟩:=hi;have:=(H.pu e he).1.own.lt ha;exact⟨this.1,this.2,ZL this.1 (H.no e he a ha).1 (.inr ⟨e,he,a,ha,rfl⟩)⟩
  have E:∀i,i<d.size->Va d j k out pt l i=j i:=λi hi=>ZK hi;have bp:qN k d j h2 (Va d j k out pt l):=⟨c2.mono λi hi f=>by rw[W i hi f];omega,λi hi _=>E i hi,λi hi u=>by
   by_cases J:i<d.size
   .rw[E i J]
    rcases u with u|u
    .omega
    .exact .inr u
   .exact se (by omega)⟩
  generalize Va d j k out pt l=o at B aw K E bp;have oc:tJ (k+24) 3 o h2 out ((l.map Ki++TF l.length m).flatMap Ay):=⟨H.lo,λa ha=>B _ ⟨a,ha,rfl⟩⟩;have c9:=oA.aP (rho':=o) c2 (λi hi f=>by rw[W i hi f];omega) λi hi hr=>by rw[E i hi];exact hr
  refine U.zj c2 W E oc λh3 q3 c3 z3=>?_;have a0:o p.block=k+23:=q3.ob.2 p rfl;have ei:p.block<d.size:=(U.ob.1.lt rfl).2;have dr:qN k h2 o h3 o:=⟨c3.mono λi hi f=>by rw[f,a0];omega,λ_ _ _=>rfl,λi hi u=>by
   rcases u with u|u
   .omega
   .exact .inr u⟩
  have a2:=(a5.trans bp).trans dr;have bd:=c9.aP (rho':=o) c3 (λi hi f=>by rw[f,a0];omega) λ_ _ h=>h;have L:CP d.size h3 out pt l m:=H.aP c3 λi hi f=>⟨λz=>by have:=B i z;rw[f,a0]at this;omega,λhn=>by omega⟩;have ec:=L.len;have ds:=L.lo.2.1;have dx:=L.lo.2.2.1;have c5:=(c4 a2).len;refine q3.rd (b:=.ptr) (some X.b) rfl (bX (b:=.sl) x5.1 rfl bd.1.cells V ?_);have ct:aQ x5.1.len=(x5.2.length:Int):=by rw[aN,c5]
  rw[ct];refine aL (jF (by omega) (by dsimp only;omega)) ?_;dsimp only;have cc:bK out.aD out.cap 0 3=out.aD:=eW ..;have b9:cY (bQ (x5.2.length:Int)) 0=l.length:=by rw[eX,cS,a9];rfl
  have b6:cY out.cap 0=out.cap:=rfl;rw[cc,b9,b6];have bb:∀{g:aG},aV (λi=>k<o i/\o i<=k+10) h3 g->CP d.size g out pt l m:=λc=>L.aP c λi hi f=>⟨λz=>by have:=B i z;omega,λ_=>⟨λz=>by have:=(aw i z).2.2;omega,λe he z=>by have:=(K i ⟨e,he,z⟩).2.2;omega⟩⟩;refine eG (Yf Me (enc:=D.enc) (limit:=D.limit) (x:=(⟨out.aD,l.length,out.cap⟩,l.map y6)) (es:=x5.2) q3.bk b.inv b.enc b.Bq (XG ba) (λg c=>(bb c).ok) (λe he _ a ha=>?_) (by omega)) λtg w h5 R=>?_
  .obtain⟨y,hy,rfl⟩:=dA.1 he
   have:=(K a.block ⟨y,hy,a,ha,rfl⟩).2.2;omega
  obtain⟨rfl,e,M5,rfl,b1,I,X5,v,b5,i5,ab⟩:=R;refine⟨rfl,(e,()),rfl,?_⟩;have q5:=q3.book v b5 ab;have a3:=a2.trans (v.Vv (k:=k) ⟨bM _,by omega⟩);have bo:=bd.aP (rho':=I) v.c (λi hi f=>by omega) λi hi hr=>by rw[v.old i hi (by omega)];exact hr
  have c6:=bb v.c;have er:=c3.1;have ey:=v.c.1;have a7:∀i,fY out i->i<h3.size:=λi ⟨a,ha,e⟩=>by rw[<-e];exact(L.lo.lt ha).2
  have Z:∀i,fY out i->I i=k+24:=λi hi=>by rw[v.old i (a7 i hi) (by rw[B i hi];omega)];exact B i hi
  have bs:∀i,fY pt i->I i=k+26:=λi hi=>by have:=aw i hi;rw[v.old i (by omega) (by omega)];exact this.2.2
  have ao:∀i,(∃e∈l,fY e.p i)->I i=k+26:=λi hi=>by have:=K i hi;rw[v.old i (by omega) (by omega)];exact this.2.2
  refine q5.rd (b:=.ptr) (some D.b) rfl (bX (b:=.sl) x5.1 rfl bo.1.cells V ?_);refine eG (Xm (x:=x5) q5.doc b.dm b.ok (by omega) (λg c=>a1 a3 c λi hi f=>by omega) (by omega) (by omega)) λtg w O R=>?_;obtain⟨rfl,e',M6,rfl,b3,C,D6,G,d6,m6,a6,cd,cg⟩:=R;obtain⟨cf,b8⟩:=b1.fn b3;subst cf;subst b8;refine⟨rfl,(e,()),rfl,?_⟩;have q6:=q5.qp G d6 a6;have a4:=a3.trans (G.Vv (k:=k) ⟨by omega,by omega⟩);have de:=bo.aP (rho':=C) G.c (λi hi f=>by omega) λi hi hr=>by rw[G.old i hi (by omega)];exact hr
  have c8:CP d.size O out pt l m:=c6.aP G.c λi hi f=>⟨λz=>by have:=Z i z;omega,λ_=>⟨λz=>by have:=bs i z;omega,λe he z=>by have:=ao i ⟨e,he,z⟩;omega⟩⟩;have al:∀i,i<O.size->(fY out i\/∃e∈l,fY e.p i)->C i=k+24\/C i=k+26:=λi _ hi=>by
   rcases hi with hi|hi
   .have d:=Z i hi;have h2:=a7 i hi
    rw[G.old i (by omega) (by omega)];exact .inl d
   .have d:=ao i hi;have h2:=K i hi
    rw[G.old i (by omega) (by omega)];exact .inr d
  refine bX (b:=.sl) x5.1 rfl de.1.cells V ?_;refine eG (py c8 cr a9 a8 ba (λg c=>a1 a4 c λi hi f=>by have:=al i hi f;omega)) λtg w h7 R=>?_;obtain⟨rfl,rfl,c7,T,oT⟩:=R;refine⟨rfl,(true,()),rfl,?_⟩;have b0:qN k O C h7 (Hist.zr O C):=⟨c7.mono λi hi f=>by have:=al i hi f;omega,λi hi _=>sZ hi,λi hi u=>by
   by_cases J:i<O.size
   .rw[sZ J]
    rcases u with u|u
    .omega
    .exact .inr u
   .exact .inl (qJ (by omega))⟩
  have df:gQ S n k (Hist.zr O C) h7 p X5 D6 out sw (T.flatMap Ay) ls:=by
   have z6:=q6.ext (Ext.refl O);exact z6.xa c7 (λi hi f=>by rw[sZ hi];exact al i hi f) oT
  refine gA (tys:=[tB]) (λ(y:Bool×Unit) _=>y.1=true) ?_ λ⟨(y:Bool),_⟩ h8 e8 hy=>?_
  .refine aM Hk λ⟨(a:Int),_⟩ g5 e9 ha=>?_
   have ha:a=e:=ha;subst ha;exact aE (λ_=>aC ⟨rfl,e9,(true,()),rfl,rfl⟩) λhc=>by rw[dS]at hc;exact absurd rfl hc
  .have hy:y=true:=hy
   subst hy;refine aC ⟨rfl,rfl,_,iA.Zk ⟨_,X5,D6,out,sw,_,ls,a4.trans b0,df,⟨i5,m6,?_,?_⟩,ab,a6⟩ e8⟩
   .rw[cd,ab.enc];exact b.enc
   .rw[cg,ab.limit];exact b.Bq
 .rintro t w h3 ⟨rfl,rfl,M',pp⟩
  exact bE (gF (aC ⟨rfl,rfl,M',pp⟩))
end
section
variable{P:Program}{S:cH}{h:aG}{Q:Nat->bG->aG->Prop}{n k:Nat}{rho:Nat->Nat}{X:Bk}{D:Doc}{p:Addr}{sl sw:Sl}{vs:bG}{ls:bB}{M M':Mo}{N N':Nat}
abbrev rJ:Sh:=.str (.pair (.int .i64) (.pair (.int .i64) (.pair (.int .i64) (.pair (.int .i64) (.pair (.list jT) (.pair (.list (.int .i64)) .unit))))))
abbrev fb:=Int×Int×Int×Int×GP×(Sl×bB)×Unit
abbrev nj:=Sl×List fb
abbrev ye(o:fb):Int×Int×Int×Int×Sl×Sl×Unit:=(o.1,o.2.1,o.2.2.1,o.2.2.2.1,o.2.2.2.2.1.1,o.2.2.2.2.2.1.1,())
abbrev Z0(o:fb):bG:=[aH o.1,aH o.2.1,aH o.2.2.1,aH o.2.2.2.1,dN o.2.2.2.2.1.1,dN o.2.2.2.2.2.1.1]
def Sk(o:fb):Nat:=1+(aW o.2.2.2.2.1.2).length+o.2.2.2.2.2.1.2.length
theorem Z1(o:fb):Sk o<=rJ.wt o/\o.2.2.2.2.1.2.length<=rJ.wt o:=by
 have b:=qt o.2.2.2.2.1;have h2:=QG (k:=.i64) o.2.2.2.2.2.1;have h3:rJ.wt o=(1+(1+(1+(1+((Sh.list jT).wt o.2.2.2.2.1+((Sh.list (.int .i64)).wt o.2.2.2.2.2.1+0))))))+1:=rfl;unfold Sk;omega
theorem tj{x:nj}(hw:(Sh.list rJ).wt x<=1048577):(x.2.map Sk).sum<=1048576/\x.2.length<=1048576/\∀o∈x.2,o.2.2.2.2.1.2.length<=1048576:=by
 have e:(Sh.list rJ).wt x=(x.2.map rJ.wt).sum+1:=rfl;have c:=Oj Sk rJ.wt x.2 λo _=>(Z1 o).1;have h2:=Sh.uy (e:=rJ) x λo=>by have:=(Z1 o).1;unfold Sk at this;omega
 refine⟨by omega,by omega,λo b=>?_⟩;have h3:=yE rJ.wt b;have d:=(Z1 o).2;omega
theorem iA.sm{h':aG}{g:Bk}{f:Doc}(d:iA S n k h rho h' p g f M N)(sm:Sm X g)(hb:f.b=D.b):iA S n k h rho h' p X D M N:=by
 obtain⟨c,r,q,s1,s2,v,l,o,u,t,m,j⟩:=d;exact⟨c,r,q,s1,s2,v,l,o,u,t,sm.trans m,j.trans hb⟩
theorem W8(t:kB P S)(C:WT P S){o:fb}(q:gQ S n k rho h p X D sl sw vs ls)(b:EP X D M N)(g:N+Sk o<=1048576)(j:o.2.2.2.2.1.2.length<=1048576)(d:∀h',aV (λi=>k<rho i/\rho i<=k+30) h h'->rJ.ok h' o) :
  wp P (jA S (some p) (ye o)) h λtg vs h'=>tg=0/\vs=[.bool true]/\∃M',iA S n k h rho h' p X D M' (N+Sk o):=by
 have m:=d h (aV.refl _ _);unfold Sk at g⊢;obtain⟨o1,o2,v,w,u,⟨o6,r⟩,_⟩:=o;dsimp only at g j⊢;obtain⟨f1,f2,f3,f4,_,_,_⟩:=m;by_cases h2:o1=2
 .subst h2
  refine cM _ (λtg vs h' ⟨a,b,M',c⟩=>⟨a,b,M',c.more (by omega)⟩) (UF (x5:=u) t q b (by omega) j (by omega) λh' c=>(d h' c).2.2.2.2.1)
 .by_cases f:o1=8
  .subst f
   exact cM _ (λtg vs h' ⟨a,b,M',c⟩=>⟨a,b,M',c.more (by omega)⟩) (UG (l6:=r) q b (by omega) (by omega) λh' c=>Sh.lO (x:=(o6,r)) (d h' c).2.2.2.2.2.1)
  .exact cM _ (λtg vs h' ⟨a,b,M',c⟩=>⟨a,b,M',c.more (by omega)⟩) (UE C q b (by omega) h2 f f3 f4)
theorem VY(Me:kB P S)(C:WT P S)(C0:Cl0 P S)(Ct:Ym P S){x:nj}{lo hi:Int}(q:gQ S n k rho h p X D sl sw vs ls)(b:EP X D M N)(hx:MF (λh=>(Sh.list rJ).ok h x) rho h)(hN:N+(x.2.map Sk).sum<=1048576)(a7:x.2.length<=1048576)(hl:∀o∈x.2,o.2.2.2.2.1.2.length<=1048576)(Cm:lo<=13->13<=hi->(∃o∈x.2,o.1=13)->H5 P S) :
  wp P (vQ S (some p) x.1 lo hi) h λtg vs h'=>tg=0/\vs=[.bool true]/\∃M',iA S n k h rho h' p X D M' (N+(x.2.map Sk).sum):=by
 unfold vQ;have a1:aQ x.1.len=(x.2.length:Int):=by rw[aN,hx.now.len]
 rw[a1];refine bL (λ(s:Bool×Int×Unit) h'=>s.1=true/\∃(i:Nat) (M':Mo),s.2.1=i/\i<=x.2.length/\iA S n k h rho h' p X D M' (N+((x.2.take i).map Sk).sum)) (λs _=>((x.2.length:Int)-s.2.1).toNat)
  (λt vs h'=>t=2/\vs=[.bool true]/\∃M',iA S n k h rho h' p X D M' (N+(x.2.map Sk).sum)) ⟨rfl,0,M,rfl,cN _,iA.ext q b (Ext.refl h)⟩ ?_ ?_
 .rintro⟨(sb:Bool),(si:Int),u⟩ h1 ⟨hb,i,I,hi,hle,pp⟩
  dsimp only at hi hb⊢;subst hi;subst hb;refine bZ (i<x.2.length) (aE (λd=>aC ⟨rfl,Ext.refl _,true,rfl,?_⟩) λd=>aC ⟨rfl,Ext.refl _,false,rfl,?_⟩) λbb h2 e2 O=>?_
  .rw[aU]at d;exact⟨λ_=>by omega,λ_=>rfl⟩
  .rw[aY]at d;exact⟨λf=>(by cases f),λf=>(by omega)⟩
  have H:=pp.Zk e2;refine aE (λd=>?_) λd=>aC ⟨λf=>absurd f (by decide),λ_=>⟨rfl,rfl,I,?_⟩⟩
  .have a0:=O.1 d
   obtain⟨o,K⟩:∃o,x.2[i]?=some o:=⟨x.2[i],cL a0⟩;have R:=eM K;have Z:=cn Sk K;have a4:=Ud Sk x.2 (i+1);obtain⟨j,X1,D1,s1,s2,v1,l1,m,q1,W,U,L⟩:=H;have T:MF (λh=>(Sh.list rJ).ok h x) j h2:=hx.aP m.c (λi hi hf=>by omega) λi hi h0=>by rw[m.old i hi (by omega)];exact h0
   have a3:=T.now;refine dB (λt w h'=>t=0/\w=[.bool true]/\∃M',iA S n k h rho h' p X D M' (N+((x.2.take (i+1)).map Sk).sum)) ?_ ?_
   .refine Ro (e:=rJ) (x:=x) (y:=o) (z:=ye o) a3 (by omega) (by simpa using K) rfl rfl ?_
    refine λel=>?_;obtain⟨zs,G⟩:∃zs,zs=[aH 0,aH 0,aH 0,aH 0,Value.slice none 0 0, .slice none 0 0]:=⟨_,rfl⟩;show wp P _ (h2.push (.cells [aH 0,aH 0,aH 0,aH 0,Value.slice none 0 0, .slice none 0 0].toArray el)) _;rw[<-G];have e3:Ext h2 (h2.push (.cells zs.toArray el)):=Ext.push ..;have o3:cA h2.size 1 (h2.push (.cells zs.toArray el)) ⟨some ⟨h2.size,0,none⟩,6,6⟩ zs:=bR (by rw[G];rfl) (by decide) (by decide);generalize h2.push (.cells zs.toArray el)=h3 at e3 o3⊢;refine Ak (Z0 o) o3 (by rw[G];rfl) (by intro v hv;simp only[Z0,eH,lG,or_false]at hv;rcases hv with rfl|rfl|rfl|rfl|rfl|rfl<;>rfl) λh4 o4 u4 z4=>?_;have J:Ext h2 h4:=jU.jQ e3 u4 λa ha=>by cases ha;exact bM _
    refine bZ (1<=o.1/\o.1<=9) ?_ λb5 Y A a5=>?_
    .refine bX (b:=bI) o.1 rfl o4.cells rfl (aE (λd=>?_) λd=>aC ⟨rfl,Ext.refl _,false,rfl,?_⟩)
     .rw[dD]at d
      refine bX (b:=bI) o.1 rfl o4.cells rfl (aC ⟨rfl,Ext.refl _,_,rfl,?_⟩);rw[gE];exact⟨λh=>⟨d,h⟩,λh=>h.2⟩
     .rw[eR]at d;exact⟨λf=>(by cases f),λf=>(by omega)⟩
    have o5:=o4.ext A;refine aE (λ_=>?_) λ_=>?_
    .refine Cj (ye o) o5 rfl ?_
     have q5:=q1.ext (J.trans A);have V:qN k h2 j Y (Hist.zr h2 j):=(cW.nH (k:=k) (J.trans A)).Vv ⟨bM _,by omega⟩;have a2:MF (λh=>(Sh.list rJ).ok h x) (Hist.zr h2 j) Y:=T.aP V.c (λi hi hf=>by omega) λi hi h0=>by rw[sZ hi];exact h0
     refine eG (W8 (o:=o) Me C q5 W (by omega) (hl o R) λg c=>(a2 g (c.mono λi _ hf=>by omega)).el K) λtg w B hq=>?_;obtain⟨rfl,rfl,M6,p6⟩:=hq;refine⟨rfl,(true,()),rfl,aC ⟨rfl,rfl,M6,?_⟩⟩;have:=(iA.pre (m.trans V) p6).sm U L;rw[Z,<-BC];exact this
    .have E:∀{B:aG},Ext Y B->∃M',iA S n k h rho B p X D M' (N+((x.2.take (i+1)).map Sk).sum):=λr=>⟨I,(((iA.ext q1 W ((J.trans A).trans r)).pre m).sm U L).more (by omega)⟩
     refine bZ (lo<=o.1/\o.1<=hi) ?_ λb6 B r al=>?_
     .refine bX (b:=bI) o.1 rfl o5.cells rfl (aE (λd=>?_) λd=>aC ⟨rfl,Ext.refl _,false,rfl,?_⟩)
      .rw[dD]at d
       refine bX (b:=bI) o.1 rfl o5.cells rfl (aC ⟨rfl,Ext.refl _,_,rfl,?_⟩);rw[gE];exact⟨λh=>⟨d,h⟩,λh=>h.2⟩
      .rw[eR]at d;exact⟨λf=>(by cases f),λf=>(by omega)⟩
     refine aE (λao=>?_) λ_=>aC ⟨rfl,rfl,E r⟩;have B:=al.1 ao;refine Cj (ye o) (o5.ext r) rfl ?_;refine aM (gr Me C0 Ct (q1.ext ((J.trans A).trans r)) W (by omega) o.1 o.2.1 o.2.2.1 o.2.2.2.1 o.2.2.2.2.1.1 o.2.2.2.2.2.1.1 λab=>Cm (by omega) (by omega) ⟨o,R,ab⟩) λ⟨(y:Bool),_⟩ h7 e7 hy=>?_;have hy:y=true:=hy;subst hy;exact aC ⟨rfl,rfl,E (r.trans e7)⟩
   .rintro t w h3 ⟨rfl,rfl,M3,p3⟩
    refine bE (gF ?_);rw[aX (by omega) (by omega)];exact aC ⟨λ_=>⟨(true,(i:Int)+1,()),rfl,⟨rfl,i+1,M3,by push_cast;rfl,by omega,p3⟩,by dsimp only;omega⟩,λf=>absurd rfl f⟩
  .have a6:¬i<x.2.length:=λf=>by have:=O.2 f;rw[this]at d;cases d
   have aw:i=x.2.length:=by omega
   rw[aw,fF]at H;exact H
 .rintro t vs h1 ⟨rfl,rfl,I,pp⟩
  exact bE (gF (aC ⟨rfl,rfl,I,pp⟩))
end
section
variable{P:Program}{S:cH}{h:aG}{Q:Nat->bG->aG->Prop}
theorem gj{x:nj}{n0:Int}(ok:(Sh.list rJ).ok h x)(hl:x.2.length<=1048576):aS P (BR S n0 x.1) [tB] h λ(y:Bool×Unit) _=>True:=by
 unfold BR aS;have R:aQ x.1.len=(x.2.length:Int):=by rw[aN,ok.len]
 rw[R];refine bL (λ(s:Int×Int×Int×Int×Int×Int×Unit) h'=>Ext h h'/\∃i:Nat,s.2.2.2.2.2.1=i/\i<=x.2.length/\1<=s.2.2.2.2.1/\s.2.2.2.2.1<=(i:Int)+1) (λs _=>((x.2.length:Int)-s.2.2.2.2.2.1).toNat)
  (λt vs h'=>Ext h h'/\t=2/\∃a b c d u:Int,vs=[aH a,aH b,aH c,aH d,aH u]/\1<=u) ⟨Ext.refl _,0,rfl,cN _,by show(1:Int)<=1;omega,by show(1:Int)<=((0:Nat):Int)+1;omega⟩ ?_ ?_
 .rintro⟨(a:Int),(b:Int),(c:Int),(d:Int),(u:Int),(si:Int),_⟩ H ⟨C,i,hi,hle,g,U⟩
  dsimp only at hi g U⊢;subst hi;refine bZ (i<x.2.length/\a<=1048576) (aE (λq=>aC ⟨rfl,Ext.refl _,_,rfl,?_⟩) λq=>aC ⟨rfl,Ext.refl _,false,rfl,?_⟩) λbb h2 E J=>?_
  .rw[aU]at q;rw[gE];exact⟨λh=>⟨by omega,h⟩,λh=>h.2⟩
  .rw[aY]at q;exact⟨λf=>(by cases f),λf=>(by omega)⟩
  refine aE (λq=>?_) λq=>aC ⟨λf=>absurd f (by decide),λ_=>⟨C.trans E,rfl,a,b,c,d,u,rfl,g⟩⟩;have L:=(J.1 q).1;obtain⟨o,T⟩:∃o,x.2[i]?=some o:=⟨x.2[i],cL L⟩;have G:=C.trans E;have m:=Sh.ok.ext (s:=.list rJ) G ok;have r:x.2[((i:Nat):Int).toNat]?=some o:=by simpa using T
  refine dB (λt w h'=>t=0/\Ext h2 h'/\∃a b c d I:Int,w=[aH a,aH b,aH c,aH d,aH I]/\1<=I/\I<=(i:Int)+2) ?_ ?_
  .refine A0 (e:=rJ) (b:=.sl) (x:=x) (y:=o) (z:=o.2.2.2.2.2.1.1) m (by omega) r rfl rfl ?_
   refine A0 (e:=rJ) (b:=.sl) (x:=x) (y:=o) (z:=o.2.2.2.2.2.1.1) m (by omega) r rfl rfl ?_;refine A0 (e:=rJ) (b:=bI) (x:=x) (y:=o) (z:=o.1) m (by omega) r rfl rfl ?_;have v:aT .i64 u 1=u+1:=aX (by omega) (by omega);refine aE (λ_=>?_) λ_=>aE (λ_=>aE (λ_=>?_) λ_=>?_) λ_=>aE (λ_=>aE (λ_=>?_) λ_=>?_) λ_=>aE (λ_=>?_) λ_=>?_
   .have lf:(Sh.list jT).ok h2 o.2.2.2.2.1:=(m.el T).2.2.2.2.1
    have O:aQ o.2.2.2.2.1.1.len=(o.2.2.2.2.1.2.length:Int):=by rw[aN,lf.len]
    refine bL (λ(s:Int×Int×Int×Unit) h'=>h'=h2/\∃j:Nat,s.2.2.1=j/\j<=o.2.2.2.2.1.2.length) (λs _=>((o.2.2.2.2.1.2.length:Int)-s.2.2.1).toNat)
     (λt w h'=>h'=h2/\t=5/\∃a b:Int,w=[aH a,aH b]) ⟨rfl,0,rfl,cN _⟩ ?_ ?_
    .rintro⟨(A:Int),(B:Int),(sj:Int),_⟩ h3 ⟨rfl,j,K,al⟩
     dsimp only at K⊢;subst K;refine A0 (e:=rJ) (b:=.sl) (x:=x) (y:=o) (z:=o.2.2.2.2.1.1) m (by omega) r rfl rfl ?_;rw[O];refine aE (λq=>?_) λq=>aC ⟨λf=>absurd f (by decide),λ_=>⟨rfl,rfl,A,B,rfl⟩⟩;rw[aU]at q;have ab:=lf.2.2.1;have Z:=lf.2.1;have ao:=lf.len;obtain⟨y,hy⟩:∃y,o.2.2.2.2.1.2[j]?=some y:=⟨o.2.2.2.2.1.2[j]'(by omega),cL (by omega)⟩;refine A0 (e:=rJ) (b:=.sl) (x:=x) (y:=o) (z:=o.2.2.2.2.1.1) m (by omega) r rfl rfl ?_;refine jW (b:=.sl) (z:=y.2.2.1.1) lf hy rfl ?_;rw[aX (a:=(j:Int)) (by omega) (by omega)];exact aC ⟨λ_=>⟨(_,_,(j:Int)+1,()),rfl,⟨rfl,j+1,by push_cast;rfl,by omega⟩,by dsimp only;omega⟩,λf=>absurd rfl f⟩
    .rintro t w h3 ⟨rfl,rfl,A,B,rfl⟩
     exact bE (tV (aC ⟨rfl,Ext.refl _,_,_,_,_,_,rfl,g,by omega⟩))
   .rw[v];exact aC ⟨rfl,Ext.refl _,_,_,_,_,_,rfl,by omega,by omega⟩
   .exact aC ⟨rfl,Ext.refl _,_,_,_,_,_,rfl,g,by omega⟩
   .rw[v];exact aC ⟨rfl,Ext.refl _,_,_,_,_,_,rfl,by omega,by omega⟩
   .exact aC ⟨rfl,Ext.refl _,_,_,_,_,_,rfl,g,by omega⟩
   .rw[v];exact aC ⟨rfl,Ext.refl _,_,_,_,_,_,rfl,by omega,by omega⟩
   .exact aC ⟨rfl,Ext.refl _,_,_,_,_,_,rfl,g,by omega⟩
  .rintro t w h3 ⟨rfl,Y,A,B,c1,d1,W,rfl,H,h2⟩
   refine bE ⟨(A,B,c1,d1,W,()),rfl,?_⟩;rw[aX (a:=(i:Int)) (by omega) (by omega)];exact aC ⟨λ_=>⟨(A,B,c1,d1,W,(i:Int)+1,()),rfl,⟨G.trans Y,i+1,by push_cast;rfl,by omega,H,by push_cast;omega⟩,by dsimp only;omega⟩,λf=>absurd rfl f⟩
 .rintro t vs H ⟨C,rfl,a,b,c,d,u,rfl,hu⟩
  refine bE ⟨(a,b,c,d,u,()),rfl,?_⟩;dsimp only;refine gA (tys:=[tB]) (λ(y:Bool×Unit) _=>True) ?_ λ⟨(y:Bool),_⟩ h2 E _=>aC ⟨rfl,C.trans E,(y,()),rfl,trivial⟩;refine aE (λ_=>aE (λ_=>aE (λ_=>aE (λ_=>aL ?_ ?_) λ_=>?_) λ_=>?_) λ_=>?_) λ_=>?_
  .rw[dF]
   by_cases V:gM u 0=true
   .rw[cK]at V;omega
   .simpa using V
  all_goals exact aC ⟨rfl,Ext.refl _,(_,()),rfl,trivial⟩
end
section
variable{P:Program}{S:cH}{h:aG}{Q:Nat->bG->aG->Prop}
variable{a i:Nat}{l:bB}
def Uk(a n:Nat):bB:=(List.range n).map λi=>dC .u8 (aT .i64 167 ((a+i:Nat):Int))
theorem Q9(a n:Nat):(Uk a n).length=n:=by simp[Uk]
theorem ZQ(a n:Nat):Uk a (n+1)=Uk a n++[dC .u8 (aT .i64 167 ((a+n:Nat):Int))]:=by simp[Uk,Mg]
theorem iw{n:Nat}(hi:i<n):(Uk a n)[i]?=some (dC .u8 (aT .i64 167 ((a+i:Nat):Int))):=by simp[Uk,hi]
theorem ZP{n:Nat}:∀x∈Uk a n,cX .u8 x:=λx b=>by
 obtain⟨i,hi,rfl⟩:=dA.1 b;exact range_u8 _
theorem xv{n:Nat}{s:Sl}{v:Int}{K:aK}(o:bU n .u8 h s l)(hi:i<l.length)(m:cX .u8 v)
  (q:∀h',bU n .u8 h' s (l.set i v)->aV (fY s) h h'->h'.size=h.size->wp P K h' Q) :
  wp P (bF (bN (aJ s.aD) (eV (i:Int) s.len))<|.store (aB s.aD (aZ (bQ (i:Int)) 1)) [.int .u8 v] K) h Q:=by
 have hlen:=o.len;have j:l=l.take i++(l[i]::l.drop (i+1)):=by rw[<-gY hi,eY]
 have r:cA n 1 h s ((l.take i).map (.int .u8)++[.int .u8 l[i]]++(l.drop (i+1)).map (.int .u8)):=by
  have f:=o.own;rw[j,dP,fS]at f;simpa using f
 have d:l.set i v=l.take i++(v::l.drop (i+1)):=by
  conv=>lhs;rw[j]
  have g:(l.take i).length=i:=by rw[dJ];omega
  rw[Ar (h:=by omega),g,sY,wU]
 obtain⟨a,ea,_⟩:=o.lO.rd.2 i (.int .u8 l[i]) (by rw[gP,cL hi];rfl);refine aL (fC.2 ⟨by rw[ea];rfl,kN.2 ⟨by omega,by omega⟩⟩) ?_;have c:aZ (bQ (i:Int)) 1=((l.take i).map (Value.int .u8)).length:=by rw[cE,dJ,hO,eX,cS];omega
 rw[c];refine qC (mid:=[.int .u8 l[i]]) [.int .u8 v] r rfl rfl (by simp) (by intro x b;rw[dE.1 b];rfl) λh' t u w=>q h' ⟨?_,λx b=>?_⟩ (aV.dK u λa ha _=>⟨a,ha,rfl⟩) w
 .rw[d,dP,fS];simpa using t
 .rcases RY b with b|rfl
  .exact o.wf x b
  .exact m
theorem Z8{h0 h1 j m o:aG}{c:Sl}{enc limit depth:Int}{l:bB}{X:Bk}{D:Doc}{M:Mo}
  (E:Ext h0 j) (G:Ext j m) (z:Ext m o) (W:∀a,c.aD=some a->h0.size<=a.block/\a.block<j.size)
  (U:∀(k:Nat) (rho:Nat->Nat),∃b,cW k j rho m b/\(∀i,i<j.size->b i=rho i)/\cO S j.size m b k X/\Inv X M 0)
  (V:∀(k:Nat) (rho:Nat->Nat),∃b,cW k m rho o b/\(∀i,i<m.size->b i=rho i)/\eZ k b o D) (k:Nat) (rho:Nat->Nat) {g:aG} (C:aV (fY c) o g) :
  ∃b,(∀i,i<h0.size->b i=rho i)/\(∀i,h0.size<=i->b i=0\/(k<b i/\b i<=k+30))/\(∀i,o.size<=i->b i=0)/\cO S j.size g b k X/\eZ (k+11) b g D:=by
 have Y:=E.1;have Z:=G.1;have ab:=z.1;obtain⟨d,I,J,K⟩:∃d:Nat->Nat,(∀i,i<h0.size->d i=rho i)/\(∀i,h0.size<=i->fY c i->d i=k+27)/\∀i,h0.size<=i->d i=0\/d i=k+27:=by
  refine⟨Hist.nr h0 rho c (k+27),λi hi=>wM hi,λi hi w=>EK hi w,λi hi=>?_⟩;by_cases w:fY c i
  .exact .inr (EK hi w)
  .exact .inl (Kl hi w)
 obtain⟨u,L,r,R,i1⟩:=U k d;obtain⟨v,O,q,d2⟩:=V (k+11) u;have t:∀i,fY c i->h0.size<=i/\i<j.size:=λi ⟨a,ha,e⟩=>by rw[<-e];exact W a ha
 have A:∀i,fY c i->u i=k+27:=λi hi=>by rw[r i (t i hi).2];exact J i (t i hi).1 hi
 have H:∀i,fY c i->v i=k+27:=λi hi=>by rw[q i (by have:=t i hi;omega)];exact A i hi
 have T:aV (fY c) m g:=(aV.bD z).trans C λ_ _ f=>f;refine⟨Hist.zr o v,λi hi=>?_,λi hi=>?_,λi hi=>qJ hi,R.other T (λi hi B=>by rw[A i B];omega) λi hi _=>?_,d2.aP C (λi hi B=>by rw[H i B];omega) λi hi _=>sZ hi⟩
 .rw[sZ (by omega),q i (by omega),r i (by omega)];exact I i hi
 .by_cases o:i<o.size
  .rw[sZ o]
   by_cases m:i<m.size
   .rw[q i m]
    by_cases j:i<j.size
    .rw[r i j]
     rcases K i hi with h|h<;>omega
    .rcases L.new i m (.inl (by omega))with h|h<;>omega
   .rcases O.new i o (.inl (by omega))with h|h<;>omega
  .exact .inl (qJ (by omega))
 .rw[sZ (by omega)];exact q i hi
theorem SL(Me:kB P S){enc limit depth:Int}{b:Sl}(hb:kW .u8 h b l)(hl:l.length<=1073741824) :
  aS P (tD S (enc,limit,depth,b,())) [tP, tB] h λ(y:OA×Bool×Unit) h'=>y.2.1=true/\((∃e,e≠0/\CS enc limit depth l e/\y.1=none) \/
   ∃(p:Addr) (n:Nat) (X:Bk) (D:Doc) (M:Mo),y.1=some p/\∀k rho,∃A,qN k h rho h' A/\(∀i,i<h.size->A i=rho i)/\gQ S n k A h' p X D ⟨none,0,0⟩ ⟨none,0,0⟩ [] []/\EP X D M 0):=by
 unfold tD aS;refine λel=>?_;have L:Ext h (h.push (.cells [aH enc,aH limit,aH depth,dN b].toArray el)):=Ext.push ..;have oo:cA h.size 1 (h.push (.cells [aH enc,aH limit,aH depth,dN b].toArray el)) ⟨some ⟨h.size,0,none⟩,4,4⟩ [aH enc,aH limit,aH depth,dN b]:=bR rfl (by decide) (by decide);show wp P _ (h.push (.cells [aH enc,aH limit,aH depth,dN b].toArray el)) _;generalize h.push (.cells [aH enc,aH limit,aH depth,dN b].toArray el)=r at L oo⊢;have fy:=L.1;have a2:=hb.ext L;have ej:aQ b.len=(l.length:Int):=by rw[aN,hb.len]
 refine bX (b:=.sl) b rfl oo.cells rfl (bX (b:=.sl) b rfl oo.cells rfl ?_);refine uT (bU.nil r.size .u8 r) (bM _) a2 (by simp;omega) (by simp;omega) λq0 h2 k2 o2 u2 b2 _=>?_;have e2:Ext r h2:=jU.jQ (Ext.refl r) u2 λa ha=>by cases ha
 have o2:bU r.size .u8 h2 q0 l:=o2;refine bL (λ(x:Sl×Int×Unit) h'=>Ext r h'/\∃(i:Nat) (m:bB),x.2.1=i/\i<=40/\m.length=l.length+i/\m.take l.length=l/\bU r.size .u8 h' x.1 m) (λx _=>((40:Int)-x.2.1).toNat)
  (λt vs h'=>Ext r h'/\t=2/\∃q m,vs=[dN q]/\m.length=l.length+40/\m.take l.length=l/\bU r.size .u8 h' q m) ⟨e2,0,l,rfl,by omega,rfl,fF,o2⟩ ?_ ?_
 .rintro⟨(q:Sl),(si:Int),u⟩ h2 ⟨e2,i,m,hi,hle,bd,Y,o⟩
  dsimp only at hi o⊢;subst hi;refine aE (λd=>?_) λd=>?_
  .rw[aU]at d
   refine jG (k:=.u8) [0] (by intro z hz;rw[dE.1 hz];exact wJ.2 (by omega)) (by simp) λh3 J R=>?_;have o':=(aV.bD (F:=λ_=>False) J).qH o λ_ _ x=>x;refine uT o' (by have:=e2.1;have:=J.1;omega) R.lO (by simp;omega) (by simp;omega) λq' h4 k4 o4 u4 b4 _=>?_;rw[aX (by omega) (by omega)];refine aC ⟨λ_=>⟨(q',(i:Int)+1,()),rfl,⟨jU.jQ (e2.trans J) u4 λa ha=>(o'.own.lt ha).1,i+1,m++[0],by push_cast;rfl,by omega,by simp;omega,?_,o4⟩,by dsimp only;omega⟩,λv=>absurd rfl v⟩;rw[Ap (by omega)];exact Y
  .rw[aY]at d
   have:i=40:=by omega
   subst this;exact aC ⟨λv=>absurd v (by decide),λ_=>⟨e2,rfl,q,m,rfl,bd,Y,o⟩⟩
 rintro t vs h3 ⟨J,rfl,q,m,rfl,bd,Y,o⟩;refine bE (mP ?_);have fj:=o.own.2.1;have cr:=o.own.2.2.1;have hlen:=o.len;refine aL (jF (by rw[aN];omega) (by rw[aN];exact kR _)) ?_;dsimp only;have ba:bK q.aD q.cap 0 1=q.aD:=eW ..;have hM:cY q.cap 0=q.cap:=rfl;have hN:aQ (cY (bQ (aQ q.cap)) 0)=(q.cap:Int):=rfl;rw[ba,hN,hM,ba,ej];obtain⟨ws,ow⟩:=NY o.own;have b8:ws.length=q.cap-m.length:=by have:=ow.1;rw[bP,cE]at this;dsimp only at this;omega
 have ei:m=l++m.drop l.length:=by conv=>lhs;rw[<-eY l.length m,Y]
 obtain⟨rest,ab⟩:∃rest:bG,rest=(m.drop l.length).map (.int .u8)++ws:=⟨_,rfl⟩;have fv:rest.length=q.cap-l.length:=by rw[ab,bP,cE,cV];omega
 have b0:cA r.size 1 h3 ⟨q.aD,q.cap,q.cap⟩ (l.map (.int .u8)++rest):=by
  rw[ab,<-dW,<-dP,<-ei];exact ow
 obtain⟨n,hn⟩:∃n,q.cap=l.length+n:=⟨q.cap-l.length,by omega⟩;have a4:∃a,q.aD=some a:=by
  cases hb:q.aD with
  |none=>
   have:=ow.2.2.2;rw[hb]at this;have:q.cap=0:=this;omega
  |some a=>exact⟨a,rfl⟩
 obtain⟨qa,ea⟩:=a4;refine bL (λ(x:Int×Unit) h'=>Ext r h'/\∃i:Nat,x.1=((l.length+i:Nat):Int)/\i<=n/\cA r.size 1 h' ⟨q.aD,q.cap,q.cap⟩ (l.map (.int .u8)++(Uk l.length i).map (.int .u8)++rest.drop i)) (λx _=>((q.cap:Int)-x.1).toNat)
  (λt vs h'=>Ext r h'/\t=4/\vs=[]/\cA r.size 1 h' ⟨q.aD,q.cap,q.cap⟩ (l.map (.int .u8)++(Uk l.length n).map (.int .u8))) ⟨J,0,rfl,cN _,by simpa[Uk] using b0⟩ ?_ ?_
 .rintro⟨(si:Int),u⟩ h3 ⟨J,i,hi,hle,R⟩
  dsimp only at hi⊢;subst hi;refine aE (λd=>?_) λd=>?_
  .rw[aU]at d
   have W:i<n:=by omega
   refine aL (fC.2 ⟨by rw[ea];rfl,kN.2 ⟨by omega,by show((l.length+i:Nat):Int)<((q.cap:Nat):Int);omega⟩⟩) ?_;have hd:rest.drop i=(rest[i]'(by omega))::rest.drop (i+1):=gY (by omega);have er:cA r.size 1 h3 ⟨q.aD,q.cap,q.cap⟩ ((l.map (.int .u8)++(Uk l.length i).map (.int .u8))++[rest[i]'(by omega)]++rest.drop (i+1)):=by
    rw[hd]at R;simpa using R
   have ct:aZ (bQ ((l.length+i:Nat):Int)) 1=(l.map (Value.int .u8)++(Uk l.length i).map (Value.int .u8)).length:=by
    rw[bP,cE,cE,Q9,hO,eX,cS];omega
   rw[ct];refine qC (s:=⟨q.aD,q.cap,q.cap⟩) (mid:=[rest[i]'(by omega)]) [.int .u8 (dC .u8 (aT .i64 167 ((l.length+i:Nat):Int)))] er rfl rfl (by simp) (by intro x B;rw[dE.1 B];rfl) λh4 o4 u4 z4=>?_;rw[aX (a:=((l.length+i:Nat):Int)) (b:=1) (by omega) (by omega)];refine aC ⟨λ_=>⟨(((l.length+i:Nat):Int)+1,()),rfl,⟨jU.jQ J u4 λx B=>(R.lt B).1,i+1,by push_cast;omega,by omega,?_⟩,by dsimp only;omega⟩,λv=>absurd rfl v⟩;rw[ZQ,dP];simpa using o4
  .rw[aY]at d
   have:i=n:=by omega
   subst this;rw[uL (by omega),kQ]at R;exact aC ⟨λv=>absurd v (by decide),λ_=>⟨J,rfl,rfl,R⟩⟩
 rintro t vs h6 ⟨C,rfl,rfl,b9⟩;refine bE (bO ?_);have o6:bU r.size .u8 h6 ⟨q.aD,q.cap,q.cap⟩ (l++Uk l.length n):=⟨by rw[dP];exact b9,λx B=>by
  rcases dH.1 B with B|B
  .exact hb.wf x B
  .exact ZP x B⟩
 clear b9 b0 ow;have gg:=C.1;have al:=oo.ext C;have b6:kW .u8 h6 ⟨q.aD,cY (bQ (l.length:Int)) 0,cY q.cap 0⟩ l:=by
  have:=o6.lO.take (n:=l.length) (m:=q.cap) (by rw[bP];omega) (by omega) cr;rw[Ap (bM _),fF]at this;rw[eX,cS];exact this
 have bb:wY (l.length:Int) q.cap=true:=jF (by omega) (by omega);refine bX (b:=bI) enc rfl al.cells rfl (aL bb ?_);refine bX (b:=bI) limit rfl al.cells rfl (bX (b:=bI) depth rfl al.cells rfl ?_);refine aM (fw Me (enc:=enc) (limit:=limit) (depth:=depth) b6) λ⟨(bp:OA),(be:Int),_⟩ h7 I hB=>?_;have hB:Dw S h6 h7 enc limit depth l bp be:=hB;have K:=al.ext I;refine bX (b:=bI) enc rfl K.cells rfl (bX (b:=.sl) b rfl K.cells rfl ?_);refine bX (b:=bI) limit rfl K.cells rfl (bX (b:=bI) depth rfl K.cells rfl ?_);have a5:=C.trans I;refine aM (qh (enc:=enc) (limit:=limit) (depth:=depth) (a2.ext a5) hl) λ⟨(dp:OA),(de:Int),_⟩ h8 G hD=>?_;obtain⟨a8,a9,a0⟩:=hD;obtain⟨hE,eg⟩:=fh hB;have eh:de=be:=CS.fn a8 hE;dsimp only at a8 a9 a0;subst eh;have e6:=K.ext G;have V:(de≠0/\bp=none/\dp=none)\/(de=0/\∃(X:Bk) (D:Doc),bp=some X.b/\dp=some D.b):=by
  by_cases h0:de=0
  .subst h0
   obtain⟨X,hX,_⟩:=SF hB;obtain⟨D,a1,_⟩:=a0 rfl;exact .inr ⟨rfl,X,D,hX,a1⟩
  .exact .inl ⟨h0,eg h0,a9 h0⟩
 have bs:fO bp=fO dp:=by
  rcases V with⟨_,r,h2⟩|⟨_,X,D,r,h2⟩<;>rw[r,h2]<;>rfl
 have fm:=G;have o8:bU r.size .u8 h8 ⟨q.aD,q.cap,q.cap⟩ (l++Uk l.length n):=(aV.bD (F:=λ_=>False) (I.trans G)).qH o6 λ_ _ f=>f;refine gA (tys:=[tB]) (λ(y:Bool×Unit) _=>y.1=false) ?_ λ⟨(y:Bool),_⟩ h9 e9 O=>?_
 .refine aM Hk λ⟨(a:Int),_⟩ g e ha=>?_
  have ha:a=de:=ha;subst ha;refine aE (λd=>by rw[kH]at d;exact absurd rfl d) λ_=>?_;refine aE (λd=>by rw[bs]at d;unfold cU Zg at d;simp at d) λ_=>?_;refine aL bb ?_;have e4:kW .u8 g ⟨q.aD,cY (bQ (l.length:Int)) 0,cY q.cap 0⟩ l:=b6.ext ((I.trans G).trans e);refine Ww e4 (bX (b:=.sl) b rfl (e6.ext e).cells rfl (Ww (((a2.ext a5).ext G).ext e) ?_));refine aC ⟨rfl,e,(_,()),rfl,?_⟩;show cU (Xt _ _)=false;rw[qv hb.wf hb.wf];simp[cU]
 have O:y=false:=O;subst O;refine aE (λd=>by cases d) λ_=>?_;have o9:=(aV.bD (F:=λ_=>False) e9).qH o8 λ_ _ f=>f;refine bL (λ(x:Int×Unit) h'=>h'=h9/\∃i:Nat,x.1=((l.length+i:Nat):Int)/\i<=n) (λx _=>((q.cap:Int)-x.1).toNat)
  (λt vs h'=>h'=h9/\t=6/\vs=[]) ⟨rfl,0,rfl,cN _⟩ ?_ ?_
 .rintro⟨(si:Int),u⟩ g ⟨rfl,i,hi,hle⟩
  dsimp only at hi⊢;subst hi;refine aE (λd=>?_) λd=>aC ⟨λv=>absurd v (by decide),λ_=>⟨rfl,rfl,rfl⟩⟩;rw[aU]at d;have W:i<n:=by omega
  refine qW (s:=⟨q.aD,q.cap,q.cap⟩) o9.lO (by omega) (by rw[bP,Q9];omega) λ_=>?_;have hv:(l++Uk l.length n).getD ((l.length+i:Nat):Int).toNat 0=dC .u8 (aT .i64 167 ((l.length+i:Nat):Int)):=by
   rw[cS,gI,jZ (by omega),show l.length+i-l.length=i by omega,iw W];rfl
  rw[hv];refine aE (λbo=>by rw[kH]at bo;exact absurd rfl bo) λ_=>?_;rw[aX (a:=((l.length+i:Nat):Int)) (b:=1) (by omega) (by omega)];exact aC ⟨λ_=>⟨(((l.length+i:Nat):Int)+1,()),rfl,⟨rfl,i+1,by push_cast;omega,by omega⟩,by dsimp only;omega⟩,λv=>absurd rfl v⟩
 rintro t vs g ⟨rfl,rfl,rfl⟩;refine bE (bO ?_);have c6:=(I.trans G).trans e9;have c4:=(L.trans C).trans c6;refine gA (tys:=[tB]) (λ(y:Bool×Unit) _=>y.1=fO bp) ?_ λ⟨(y:Bool),_⟩ a6 ao O=>?_
 .refine aE (λd=>aC ⟨rfl,Ext.refl _,(true,()),rfl,d.symm⟩) λd=>aC ⟨rfl,Ext.refl _,(_,()),rfl,bs.symm⟩
 have O:y=fO bp:=O;subst O;rcases V with⟨h0,df,ft⟩|⟨h0,_⟩
 .rw[df]
  exact aE (λ_=>aC ⟨rfl,c4.trans ao,(none,true,()),rfl,rfl, .inl ⟨de,h0,hE,rfl⟩⟩) λd=>by cases d
 subst h0;obtain⟨X,hX,cd,cf,a7⟩:=SF hB;obtain⟨D,a1,dr,ds,dx,ec⟩:=a0 rfl;subst hX;subst a1;refine aE (λd=>by cases d) λ_=>?_;have e5:=(aV.bD (F:=λ_=>False) ao).qH o9 λ_ _ f=>f;have cc:=e9.trans ao;refine bL (λ(x:Int×Unit) h'=>∃(i:Nat) (w:bB),x.1=i/\i<=q.cap/\w.length=q.cap/\aV (fY q) a6 h'/\bU r.size .u8 h' ⟨q.aD,q.cap,q.cap⟩ w) (λx _=>((q.cap:Int)-x.1).toNat)
  (λt vs h'=>t=8/\vs=[]/\aV (fY q) a6 h') ⟨0,_,rfl,cN _,by rw[bP,Q9];omega,aV.refl _ _,e5⟩ ?_ ?_
 .rintro⟨(si:Int),u⟩ g ⟨i,w,hi,hle,b8,c,ow⟩
  dsimp only at hi⊢;subst hi;refine aE (λd=>?_) λd=>aC ⟨λv=>absurd v (by decide),λ_=>⟨rfl,rfl,c⟩⟩;rw[aU]at d;refine xv (s:=⟨q.aD,q.cap,q.cap⟩) ow (by omega) (range_u8 _) λg' o' c' z'=>?_;rw[aX (a:=(i:Int)) (b:=1) (by omega) (by omega)];exact aC ⟨λ_=>⟨((i:Int)+1,()),rfl,⟨i+1,_,by push_cast;rfl,by omega,by rw[CJ];exact b8,c.trans c' λ_ _ h=>h,o'⟩,by dsimp only;omega⟩,λv=>absurd rfl v⟩
 rintro t vs c7 ⟨rfl,rfl,cx⟩;refine bE (bO ?_);have c8:aV (fY q) h8 c7:=(aV.bD cc).trans cx λ_ _ f=>f;have b1:∀a,q.aD=some a->h.size<=a.block/\a.block<h6.size:=λa ha=>by have:=o6.own.lt (a:=a) ha;omega
 have new:=λk rho {g} (cg:aV (fY q) h8 g)=>Z8 (h0:=h) (h1:=r) (enc:=enc) (limit:=limit) (depth:=depth) (l:=l) (L.trans C) I G b1 a7 ec k rho cg;obtain⟨rt,_,_,_,bt,_⟩:=new 0 (λ_=>0) c8;refine aM (VR bt) λ⟨(tp:OA),_⟩ j c5 ht=>?_;have ht:tp=some X.T.p:=ht;subst ht;have U:aV (fY q) h8 j:=c8.trans (aV.bD c5) λ_ _ f=>f;refine λel=>?_;have H:Ext j (j.push (.cells [Value.pointer (some X.b), .pointer (some X.T.p), .pointer (some D.b), .slice none 0 0, .slice none 0 0].toArray el)):=Ext.push ..;have a3:cA j.size 1 (j.push (.cells [Value.pointer (some X.b), .pointer (some X.T.p), .pointer (some D.b), .slice none 0 0, .slice none 0 0].toArray el)) ⟨some ⟨j.size,0,none⟩,5,5⟩ [Value.pointer (some X.b), .pointer (some X.T.p), .pointer (some D.b), .slice none 0 0, .slice none 0 0]:=bR rfl (by decide) (by decide);show wp P _ (j.push (.cells [Value.pointer (some X.b), .pointer (some X.T.p), .pointer (some D.b), .slice none 0 0, .slice none 0 0].toArray el)) _;generalize j.push (.cells [Value.pointer (some X.b), .pointer (some X.T.p), .pointer (some D.b), .slice none 0 0, .slice none 0 0].toArray el)=c9 at H a3⊢;have s8:=U.1;have gf:=H.1;have gm:=(I.trans G).1;have aw:Ext h c9:=by
  refine⟨by omega,λi hi=>?_,λa ha=>H.2.2 a (U.2.2 a (((L.trans C).trans (I.trans G)).2.2 a ha))⟩;rw[H.2.1 i (by omega),U.2.1 i (by omega) λ⟨a,ha,e⟩=>by have:=b1 a ha;omega];exact((L.trans C).trans (I.trans G)).2.1 i hi
 refine aC ⟨rfl,aw,(some ⟨j.size,0,none⟩,true,()),rfl,rfl, .inr ⟨⟨j.size,0,none⟩,h6.size,X,D,Mo.new (iH 0 0 (bH enc l)) depth,rfl,λk rho=>?_⟩⟩;obtain⟨A,r1,r2,r3,bk,dk⟩:=new k rho U;obtain⟨_,_,_,_,inv⟩:=a7 k rho;have fl:=(a3.lt rfl).2;obtain⟨E,Z,b3,ey⟩:∃E:Nat->Nat,(∀i,i<j.size->E i=A i)/\E j.size=k+23/\∀i,i≠j.size->E i=A i:=
  ⟨λi=>if i=j.size then k+23 else A i,λi hi=>if_neg (by omega),if_pos rfl,λi hi=>if_neg hi⟩
 refine⟨E,⟨aV.bD aw,λi hi _=>?_,λi hi B=>?_⟩,λi hi=>?_,⟨?_,?_,⟨a3.mono (cN _),λa ha=>by cases ha;exact b3⟩,⟨cA.nil .., λa ha=>by cases ha⟩,⟨bU.nil .., λa ha=>by cases ha⟩⟩,⟨inv,dx,dr.trans cd.symm,ds.trans cf.symm⟩⟩
 .rw[Z i (by omega)];exact r1 i hi
 .by_cases hp:i=j.size
  .rw[hp,b3];exact .inr (by omega)
  .rw[ey i hp]
   by_cases W:i<h.size
   .rw[r1 i W]
    rcases B with B|B
    .omega
    .exact .inr B
   .exact r2 i (by omega)
 .rw[Z i (by omega)];exact r1 i hi
 .exact bk.other (aV.bD (F:=λ_=>False) H) (λ_ _ f=>f.elim) λi hi _=>Z i hi
 .exact dk.aP (aV.bD (F:=λ_=>False) H) (λ_ _ f=>f.elim) λi hi _=>Z i hi
end
section
variable{P:Program}{S:cH}{h:aG}{Q:Nat->bG->aG->Prop}
theorem Qv{h1 h2:aG}{F:Nat->Prop}(e:Ext h h1)(c:aV F h1 h2)(b:∀i,i<h.size->¬F i):Ext h h2:=by
 have s1:=e.1;refine⟨dI e.1 c.1,λi hi=>?_,λa ha=>c.2.2 a (e.2.2 a ha)⟩;rw[c.2.1 i (by omega) (b i hi)];exact e.2.1 i hi
theorem t_{n:Nat}{s:Sl}{l:List fb}(o:cA n 6 h s (l.flatMap Z0))(g:∀y∈l,rJ.ok h y):(Sh.list rJ).ok h (s,l):=by
 have c:=o.1;rw[gL (f:=Z0) (m:=6) λ_=>rfl]at c;refine⟨by show s.len=l.length;omega,o.2.1,o.2.2.1,λi y hi=>?_⟩;obtain⟨a,ea,d⟩:=sN (f:=Z0) (m:=6) (λ_=>rfl) (by decide) o hi;refine⟨a,ea,aI.2 λj v b=>?_,g y (eM hi)⟩;refine aI.1 d j v ?_
 match j,b with
 |0,b=>exact b
 |1,b=>exact b
 |2,b=>exact b
 |3,b=>exact b
 |4,b=>exact b
 |5,b=>exact b
 |j+6,b=>simp[Sh.cells]at b
abbrev ZY:GP:=(⟨none,0,0⟩,[])
abbrev LL(kd nm at_:Int)(e:GP):fb:=(kd,0,nm,at_,e,(⟨none,0,0⟩,[]),())
theorem iy{b nm at_:Int}{e:GP}(h1:0<=b/\b<=100)(h2:0<=nm/\nm<=100)(h3:0<=at_/\at_<=100)(he:(Sh.list jT).ok h e):rJ.ok h (LL b nm at_ e):=
 ⟨eS.2 (by show -9223372036854775808<=b/\b<=9223372036854775807;omega),eS.2 (by show(-9223372036854775808:Int)<=0/\(0:Int)<=9223372036854775807;omega),eS.2 (by show -9223372036854775808<=nm/\nm<=9223372036854775807;omega),eS.2 (by show -9223372036854775808<=at_/\at_<=9223372036854775807;omega),he,⟨rfl,bM _,(by show(0:Nat)<2^63;decide),λi y hi=>by simp at hi⟩,trivial⟩
theorem sy:(Sh.list jT).ok h ZY:=⟨rfl,bM _,by decide,λi y hi=>by simp at hi⟩
abbrev xN(a:Addr):List fb:=[LL 10 0 0 ZY,LL 1 0 0 ZY,LL 2 0 0 (⟨some a,1,1⟩,[(0,1,(⟨none,0,0⟩,[]),())]),LL 10 0 0 ZY,LL 16 0 0 ZY,LL 3 0 1 ZY,LL 15 0 0 ZY,LL 7 97 1 ZY,LL 5 0 0 ZY,LL 10 0 0 ZY,LL 12 97 0 ZY]
theorem gh(R:kB P S)(C:WT P S)(C0:Cl0 P S)(Ct:Ym P S):aS P (AF S) [tB] h λ(y:Bool×Unit) _=>y.1=true:=by
 unfold AF aS;refine λel=>?_;have H:Ext h (h.push (.cells [Value.int .u8 65,Value.int .u8 66].toArray el)):=Ext.push ..;have o1:cA h.size 1 (h.push (.cells [Value.int .u8 65,Value.int .u8 66].toArray el)) ⟨some ⟨h.size,0,none⟩,2,2⟩ [Value.int .u8 65,Value.int .u8 66]:=bR rfl (by decide) (by decide);show wp P _ (h.push (.cells [Value.int .u8 65,Value.int .u8 66].toArray el)) _;generalize h.push (.cells [Value.int .u8 65,Value.int .u8 66].toArray el)=m at H o1⊢;have b1:bU h.size .u8 m ⟨some ⟨h.size,0,none⟩,2,2⟩ [65,66]:=⟨o1,λx hx=>by
  simp only[eH,lG,or_false]at hx;rcases hx with rfl|rfl<;>exact wJ.2 (by omega)⟩
 refine λel=>?_;have T:Ext m (m.push (.cells [aH 0,aH 0,aH 0,Value.slice none 0 0].toArray el)):=Ext.push ..;have o2:cA m.size 1 (m.push (.cells [aH 0,aH 0,aH 0,Value.slice none 0 0].toArray el)) ⟨some ⟨m.size,0,none⟩,4,4⟩ [aH 0,aH 0,aH 0,Value.slice none 0 0]:=bR rfl (by decide) (by decide);show wp P _ (m.push (.cells [aH 0,aH 0,aH 0,Value.slice none 0 0].toArray el)) _;generalize m.push (.cells [aH 0,aH 0,aH 0,Value.slice none 0 0].toArray el)=h2 at T o2⊢;refine Ak [aH 1,aH 9,aH 1, .slice (some ⟨h.size,0,none⟩) 2 2] o2 rfl (by intro v hv;simp only[eH,lG,or_false]at hv;rcases hv with rfl|rfl|rfl|rfl<;>rfl) λh3 o3 u3 z3=>?_;have I:Ext m h3:=jU.jQ T u3 λa ha=>by cases ha;exact bM _
 refine Cj (bs:=[.int .i64, .int .i64, .int .i64, .sl]) (1,9,1,⟨some ⟨h.size,0,none⟩,2,2⟩,()) o3 rfl ?_;have b3:bU h.size .u8 h3 ⟨some ⟨h.size,0,none⟩,2,2⟩ [65,66]:=(aV.bD (F:=λ_=>False) I).qH b1 λ_ _ f=>f;refine aM (SL R (enc:=1) (limit:=9) (depth:=1) b3.lO (fZ rfl)) λ⟨(pp:OA),(yy:Bool),_⟩ r U E=>?_;obtain⟨u,z⟩:=E;have u:yy=true:=u;subst u;have a4:=H.1;have a5:=I.1;have a7:=U.1;rcases z with⟨e,he,hE,_⟩|⟨p,n,X,D,M,L,z⟩
 .exact absurd (CS.fn hE (.ok (by omega) (by unfold eL;omega) (by omega) (by show(2:Int)<=9;omega))) he
 have L:pp=some p:=L;subst L;obtain⟨A,bd,O,q4,bo⟩:=z 0 (λ_=>0);refine bZ False (aE (λK=>by cases K) λ_=>aC ⟨rfl,Ext.refl _,false,rfl,Iff.intro (λh=>by cases h) False.elim⟩) λbb d V Z=>?_;refine aE (λK=>(Z.1 K).elim) λ_=>?_;refine λel=>?_;have J:Ext d (d.push (.cells [aH 0,aH 1,Value.slice none 0 0].toArray el)):=Ext.push ..;have o6:cA d.size 3 (d.push (.cells [aH 0,aH 1,Value.slice none 0 0].toArray el)) ⟨some ⟨d.size,0,none⟩,1,1⟩ [aH 0,aH 1,Value.slice none 0 0]:=bR rfl (by decide) (by decide);show wp P _ (d.push (.cells [aH 0,aH 1,Value.slice none 0 0].toArray el)) _;generalize d.push (.cells [aH 0,aH 1,Value.slice none 0 0].toArray el)=j at J o6⊢;generalize Y:(⟨d.size,0,none⟩:Addr)=b at o6⊢;have a2:b.block=d.size:=by rw[<-Y]
 refine λel=>?_;have a3:(xN b).flatMap Z0=_:=rfl;have B:Ext j (j.push (.cells ((xN b).flatMap Z0).toArray el)):=Ext.push ..;have o7:cA j.size 6 (j.push (.cells ((xN b).flatMap Z0).toArray el)) ⟨some ⟨j.size,0,none⟩,11,11⟩ ((xN b).flatMap Z0):=bR rfl (by decide) (by decide);show wp P _ (j.push (.cells ((xN b).flatMap Z0).toArray el)) _;generalize j.push (.cells ((xN b).flatMap Z0).toArray el)=h7 at B o7⊢;have a8:=V.1;have a9:=J.1;have ba:=B.1;have G:=(V.trans J).trans B;have q7:=q4.ext G;have ao:=o6.ext B;have z7:∀i,i<h.size\/r.size<=i->Hist.zr r A i=0:=λi hi=>by
  by_cases ab:i<r.size
  .rw[sZ ab];exact O i (by omega)
  .exact qJ (by omega)
 have al:MF (λh=>(Sh.list rJ).ok h ((⟨some ⟨j.size,0,none⟩,11,11⟩,xN b):nj)) (Hist.zr r A) h7:=λg c=>by
  have og:=c.own o7 λa ha q=>by cases ha;rw[z7 _ (.inr (by show r.size<=j.size;omega))]at q;exact absurd q (HX 0)
  have aw:=c.own ao λa ha q=>by cases ha;rw[z7 _ (.inr (by omega))]at q;exact absurd q (HX 0)
  have oe:(Sh.list jT).ok g ((⟨some b,1,1⟩,[(0,1,(⟨none,0,0⟩,[]),())]):GP):=MA.ok (n:=d.size) ⟨aw,λe he=>by
   rw[dE.1 he];exact⟨bU.nil .., eS.2 (by show(-9223372036854775808:Int)<=0/\(0:Int)<=9223372036854775807;omega),eS.2 (by show(-9223372036854775808:Int)<=1/\(1:Int)<=9223372036854775807;omega)⟩⟩
  refine t_ og λy E=>?_;simp only[xN,eH,lG,or_false]at E;rcases E with rfl|rfl|rfl|rfl|rfl|rfl|rfl|rfl|rfl|rfl|rfl<;>exact iy (by omega) (by omega) (by omega) (by first|exact sy|exact oe)
 refine eG (VY R C C0 Ct (x:=((⟨some ⟨j.size,0,none⟩,11,11⟩,xN b):nj)) q7 bo al (by show 0+((xN b).map Sk).sum<=1048576;have:((xN b).map Sk).sum=11:=rfl;omega) (fZ rfl) (λo t=>?_) λ_ _ ⟨o,t,W⟩=>?_) λtg w h8 hq=>?_
 rotate_left
 .exfalso
  simp only[xN,eH,lG,or_false]at t;rcases t with rfl|rfl|rfl|rfl|rfl|rfl|rfl|rfl|rfl|rfl|rfl<;>simp at W
 rotate_left
 .simp only[xN,eH,lG,or_false]at t
  rcases t with rfl|rfl|rfl|rfl|rfl|rfl|rfl|rfl|rfl|rfl|rfl<;>exact fZ rfl
 obtain⟨rfl,rfl,M8,a1,X8,D8,s1,s2,v1,l1,a0,_⟩:=hq;refine⟨rfl,(true,()),rfl,aC ⟨rfl,?_,(true,()),rfl,rfl⟩⟩;exact Qv (((H.trans I).trans U).trans G) a0.c λi hi q=>by rw[z7 i (.inl hi)]at q;omega
abbrev GQ:Sh:=.str (.pair (.int .i64) (.pair (.int .i64) (.pair (.int .i64) (.pair (.list (.int .u8)) .unit))))
abbrev WV:=Int×Int×Int×(Sl×bB)×Unit
abbrev jm(y:WV):Int×Int×Int×Sl×Unit:=(y.1,y.2.1,y.2.2.1,y.2.2.2.1.1,())
abbrev Od(y:WV):bG:=[aH y.1,aH y.2.1,aH y.2.2.1,dN y.2.2.2.1.1]
theorem ui{y:WV}(hw:GQ.wt y<=1048577):y.2.2.2.1.2.length<=1073741824:=by
 have h2:=QG (k:=.u8) y.2.2.2.1;have h3:GQ.wt y=(1+(1+(1+((Sh.list (.int .u8)).wt y.2.2.2.1+0))))+1:=rfl;omega
theorem jo{y:WV}(ok:GQ.ok h y):kW .u8 h y.2.2.2.1.1 y.2.2.2.1.2:=Sh.lO (x:=y.2.2.2.1) ok.2.2.2.1
theorem gl(E:kB P S)(C:WT P S)(H:Cl0 P S)(I:Ym P S){y:WV}{x:nj}{lo hi:Int}(Cm:lo<=13->13<=hi->H5 P S)(W:GQ.ok h y)(w0:GQ.wt y<=1048577)(B:(Sh.list rJ).ok h x)(w1:(Sh.list rJ).wt x<=1048577) :
  aS P (vK S (jm y) x.1 lo hi) [tB] h λ(b:Bool×Unit) _=>b.1=true:=by
 obtain⟨x1,Z,x3⟩:=tj w1;have hl:=ui w0;have hb:=jo W;unfold vK aS;refine λel=>?_;have v:Ext h (h.push (.cells (Od y).toArray el)):=Ext.push ..;have o1:cA h.size 1 (h.push (.cells (Od y).toArray el)) ⟨some ⟨h.size,0,none⟩,4,4⟩ (Od y):=bR rfl (by decide) (by decide);show wp P _ (h.push (.cells (Od y).toArray el)) _;generalize h.push (.cells (Od y).toArray el)=h1 at v o1⊢;refine bX (b:=.sl) y.2.2.2.1.1 rfl o1.cells rfl ?_;refine aM (gj (Sh.ok.ext (s:=.list rJ) v B) Z) λ⟨(ft:Bool),_⟩ h2 L _=>?_;refine aE (λ_=>aC ⟨rfl,v.trans L,(true,()),rfl,rfl⟩) λ_=>?_;refine aM (gh E C H I) λ⟨(al:Bool),_⟩ h3 e3 o=>?_;have o:al=true:=o;subst o;have A:=L.trans e3;refine Cj (bs:=[.int .i64, .int .i64, .int .i64, .sl]) (jm y) (o1.ext A) rfl ?_;have j:=v.trans A;refine aM (SL E (enc:=y.1) (limit:=y.2.1) (depth:=y.2.2.1) (hb.ext j) hl) λ⟨(pp:OA),(yy:Bool),_⟩ T O hy=>?_;obtain⟨q,r⟩:=hy;have q:yy=true:=q;subst q;have J:=j.trans O;refine bZ False (aE (λd=>by cases d) λ_=>aC ⟨rfl,Ext.refl _,false,rfl,Iff.intro (λh=>by cases h) False.elim⟩) λbb h5 R U=>?_;refine aE (λd=>(U.1 d).elim) λ_=>?_;have m:=J.trans R;refine dB (λt w h'=>t=0/\w=[.bool true]/\Ext h h') ?_ ?_
 .rcases r with⟨e,he,hE,f⟩|⟨p,n,X,D,M,f,r⟩
  .have f:pp=none:=f
   subst f;exact aE (λ_=>aC ⟨rfl,rfl,m⟩) λd=>by cases d
  have f:pp=some p:=f;subst f;refine aE (λd=>by cases d) λ_=>?_;obtain⟨u,a0,G,q4,bo⟩:=r 0 (λ_=>0);have q5:=q4.ext R;have ao:=j.1;have aw:=O.1;have z5:∀i,i<h.size->Hist.zr T u i=0:=λi hi=>by
   rw[sZ (by omega)];exact G i (by omega)
  have V:MF (λh=>(Sh.list rJ).ok h x) (Hist.zr T u) h5:=λg c=>
   Sh.ok.ext (s:=.list rJ) (Qv m c λi hi z=>by rw[z5 i hi]at z;exact absurd z (HX 0)) B
  refine eG (VY E C H I (x:=x) q5 bo V (by omega) Z x3 λa b _=>Cm a b) λtg w h8 hq=>?_;obtain⟨rfl,rfl,M8,ab,X8,D8,s1,s2,v1,l1,Y,_⟩:=hq;exact⟨rfl,(true,()),rfl,aC ⟨rfl,rfl,Qv m Y.c λi hi z=>by rw[z5 i hi]at z;omega⟩⟩
 .rintro t w h6 ⟨rfl,rfl,K⟩
  exact bE (gF (aC ⟨rfl,K,(true,()),rfl,rfl⟩))
section laws
variable{y:WV}{x:nj}
theorem Xa(q:kB P S)(C:WT P S)(j:Cl0 P S)(o:Ym P S)(f:GQ.ok h y)(w0:GQ.wt y<=1048577)(g:(Sh.list rJ).ok h x)(w1:(Sh.list rJ).wt x<=1048577)(lo hi:Int)(m:lo<=13->13<=hi->H5 P S) :
  aS P (.alloc (Od y) λ(r:Addr)=>.load (.agg [.int .i64, .int .i64, .int .i64, .sl]) (some r) λ(d:Int×Int×Int×Sl×Unit)=>
   .call (vK S (d.1,d.2.1,d.2.2.1,d.2.2.2.1,()) x.1 lo hi) [tB] λ(u:Bool×Unit)=>.ret 0 [.bool u.1]) [tB] h λ(b:Bool×Unit) _=>b.1=true:=by
 unfold aS;refine λel=>?_;have c:Ext h (h.push (.cells (Od y).toArray el)):=Ext.push ..;have o1:cA h.size 1 (h.push (.cells (Od y).toArray el)) ⟨some ⟨h.size,0,none⟩,4,4⟩ (Od y):=bR rfl (by decide) (by decide);show wp P _ (h.push (.cells (Od y).toArray el)) _;generalize h.push (.cells (Od y).toArray el)=v at c o1⊢;refine Cj (bs:=[.int .i64, .int .i64, .int .i64, .sl]) (jm y) o1 rfl ?_;exact aM (gl q C j o m (Sh.ok.ext (s:=GQ) c f) w0 (Sh.ok.ext (s:=.list rJ) c g) w1) λ⟨(b:Bool),_⟩ h2 t hb=>aC ⟨rfl,c.trans t,(b,()),rfl,hb⟩
theorem MO(m:kB P S)(C:WT P S)(f:Cl0 P S)(j:Ym P S)(g:Sf P S)(c:GQ.ok h y)(w0:GQ.wt y<=1048577)(d:(Sh.list rJ).ok h x)(w1:(Sh.list rJ).wt x<=1048577):aS P (Au S (jm y) x.1) [tB] h λ(b:Bool×Unit) _=>b.1=true:=Xa m C f j c w0 d w1 _ _ λ_ _=>ZN g
end laws
end
section
variable{P:Program}{S:cH}{h:aG}{Q:Nat->bG->aG->Prop}{k:Nat}{rho:Nat->Nat}
end
end Go.Sw.Hist
