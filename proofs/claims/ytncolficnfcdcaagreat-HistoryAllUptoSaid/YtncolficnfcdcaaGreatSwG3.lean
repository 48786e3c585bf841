
/- Steps. -/
import Derived.Test.YtncolficnfcdcaaGreatSwG2
set_option linter.unusedVariables false
set_option linter.unusedSimpArgs false
set_option maxRecDepth 100000
set_option maxHeartbeats 1000000
namespace Go.Sw.Piece
open Go.Sw.Any Go.Sw.Codec
open Go.Sw.Tree (iv fR jR jX mX oS kM rO kK dQ lB)
section
variable{P:Program}{S:cH}{h:aG}{Q:Nat->bH->aG->Prop}
abbrev Vg(l:bB):List El:=l.map λa=>(a, -1)
def BH(E:List El):Int->List iM->List El
 |_,[]=>[]
 |a,e::es=>(E.drop a.toNat).take (e.1.toNat-a.toNat)++Vg e.2.2.1.2++BH E e.2.1 es
theorem K8(E:List El):∀(xs b:List iM) (a:Int),BH E a (xs++b)=BH E a xs++BH E (dG a xs) b
 |[],b,a=>by simp[BH,dG]
 |x::xs,b,a=>by simp only[Ee,BH,dG,K8 E xs b,dX]
theorem Zz(E:List El):∀(es:List iM) (a:Int),fwd E a es=BH E a es++E.drop (dG a es).toNat
 |[],a=>by simp[fwd,BH,dG]
 |e::es,a=>by simp only[fwd,BH,dG,Zz E es,dX]
theorem Nl{E:List El}:∀{es:List iM} {a:Int},0<=a->uQ E.length a es->(BH E a es).length<=(dG a es-a).toNat+(aX es).length
 |[],a,_,_=>by simp[BH]
 |e::es,a,h0,⟨d,f,g,b⟩=>by
  have m:=Nl (E:=E) (es:=es) (by omega) b;have c:aX (e::es)=e.2.2.1.2++aX es:=by simp[aX]
  have j:=Dd b;rw[c];simp only[BH,dG,bQ,dJ,cE];omega
theorem Gl{L:Int}:∀{es:List iM} {a:Int},a<=L->uQ L a es->dG a es<=L
 |[],_,h,_=>h
 |e::es,a,_,⟨_,_,b,c⟩=>show dG e.2.1 es<=L from Gl b c
theorem Zs{enc:Int}{E:List El}{es:List iM}(h0:uQ E.length 0 es)(f:∀a,a∈E.map (·.1)->0<bX enc a)(c:jV enc (aX es)):∀a,a∈(jA E es).map (·.1)->0<bX enc a:=by
 have:∀es:List iM,jV enc (aX es)->∀a,a∈(jA E es).map (·.1)->0<bX enc a:=by
  intro es
  induction es with
  |nil=>exact λ_=>f
  |cons e es d=>
   intro c a ha;have g:aX (e::es)=e.2.2.1.2++aX es:=by simp[aX]
   rw[g]at c;have d:=d λx j=>c x (qM _ j);rw[qI]at ha;unfold DX at ha;obtain⟨y,b,rfl⟩:=dB.1 ha;rcases dH.1 b with b|b
   .rcases dH.1 b with b|b
    .exact d _ (dB.2 ⟨y,rW b,rfl⟩)
    .obtain⟨z,m,rfl⟩:=dB.1 b
     exact c z (oW _ m)
   .exact d _ (dB.2 ⟨y,BE b,rfl⟩)
 exact this es c
theorem zo{h0:aG}{n a:Nat}{enc limit u v:Int}{f y:Sl}{D:List El}{K:aK}(g:RI h0 n a enc limit h f y (D.map (·.1)) (D.map (·.2)))(hu:cY .i64 u)(O:cY .i64 v)(Y:D.length<=4294967296)
  (J:∀h' t A,RI h0 n a enc limit h' t A ((D++[(u,v)]).map (·.1)) ((D++[(u,v)]).map (·.2))->wp P K h' Q) :
  wp P (.alloc [aH u] λ(c:Addr)=>.check (aB (some (Cq a)) 2) [dN f]<|.append 1 8 [.int .i64 0] f ⟨some c,1,1⟩ λ(r:Sl)=>.store (aB (some (Cq a)) 2) [dN r]<|
   .load (tS) (aB (some (Cq a)) 3) λ(l:Sl)=>.alloc [aH v] λ(c2:Addr)=>.append 1 8 [.int .i64 0] l ⟨some c2,1,1⟩ λ(T:Sl)=>.store (aB (some (Cq a)) 3) [dN T] K) h Q:=by
 refine jG (k:=.i64) [u] (by intro z d;rw[dE.1 d];exact hu) (by simp) λU C o1=>?_;have j:=g.ext C;refine sU (aI.1 j.o.cells 2 _ rfl) (ug j o1.lO (by rw[cE,Av];omega) λV w m=>bU (b:=.sl) y rfl m.o.cells rfl ?_);refine jG (k:=.i64) [v] (by intro z d;rw[dE.1 d];exact O) (by simp) λW E R=>?_;have G:=m.ext E;refine uh G R.lO (by rw[cE,Av];omega) λI B H=>J I w B ?_;rw[dP,dP];exact H
theorem KM{n:Nat}{R:RX}{x:GO}(r:Bb n h R)(hn:n<=h.size)(ok:(Sh.list jT).ok h x)(hE:R.E.length<=65536)(hL:x.2.length<=1073741824)(gf:(aX x.2).length<=1000000000) :
  wp P (kT S (some (Cq R.b)) x.1) h λtag vs h'=>tag=0/\∃q I,vs=[aH q]/\EW R.enc R.limit R.E x.2 q/\Bb n h' I/\aV (λi=>i=R.b) h h'/\I.b=R.b/\I.enc=R.enc/\I.limit=R.limit/\I.K=R.K/\I.sk=R.sk /\
   I.E=(if q=0 then jA R.E x.2 else R.E)/\(∀i,R.Z i->I.Z i)/\∀i,I.Z i->R.Z i\/h.size<=i:=by
 unfold kT;have a8:=ok.len;refine aM (Xj r ok hE hL) λ⟨(q:Int),_⟩ h1 e1 hq=>?_;have r1:=r.ext e1;have same:∀{h':aG} {q':Int},Ext h h'->EW R.enc R.limit R.E x.2 q'->q'≠0->∃q I,[aH q']=[aH q]/\EW R.enc R.limit R.E x.2 q/\Bb n h' I/\aV (λi=>i=R.b) h h'/\I.b=R.b/\I.enc=R.enc/\I.limit=R.limit/\I.K=R.K/\I.sk=R.sk /\
   I.E=(if q=0 then jA R.E x.2 else R.E)/\(∀i,R.Z i->I.Z i)/\∀i,I.Z i->R.Z i\/h.size<=i:=λ{h'} {q'} e hr eg=>
  ⟨q',R,rfl,hr,r.ext e,aV.bD e,rfl,rfl,rfl,rfl,rfl,by rw[if_neg eg],λ_ z=>z,λ_ z=>.inl z⟩
 have hq:(70000<x.2.length/\q=3)\/(x.2.length<=70000/\¬uQ R.E.length 0 x.2/\q=2)\/(x.2.length<=70000/\uQ R.E.length 0 x.2/\¬jV R.enc (aX x.2)/\q=11)\/(x.2.length<=70000/\uQ R.E.length 0 x.2/\jV R.enc (aX x.2)/\q=0):=hq;dsimp only;refine aE (λV=>?_) λV=>?_
 .rw[kG]at V
  refine aC ⟨rfl,same e1 ?_ V⟩;rcases hq with h|h|h|h
  .exact .inl h
  .exact .inr (.inl h)
  .exact .inr (.inr (.inl h))
  .exact absurd h.2.2.2 V
 rw[lQ]at V;obtain⟨aw,m,Y⟩:x.2.length<=70000/\uQ R.E.length 0 x.2/\jV R.enc (aX x.2):=by
  rcases hq with h|h|h|h
  .omega
  .omega
  .omega
  .exact⟨h.1,h.2.1,h.2.2.1⟩
 subst V;have A4:=r.A4;have c4:=Qe (E:=R.E) (kR 0) (by omega) m;have ec:=Km (enc:=R.enc) (E:=R.E) (a:=0) Y;have ao:jA R.E x.2=fwd R.E 0 x.2:=by rw[c4];rfl
 rw[<-ao]at ec;have a6:(∀i,fF R.enc (aX (x.2.take i))<=fF R.enc (aX x.2)):=λi=>by
  have:aX x.2=aX (x.2.take i)++aX (x.2.drop i):=by unfold aX;rw[<-gX,eY]
  rw[this,nJ];have:=zZ R.enc (aX (x.2.drop i));omega
 refine bL (λ(q:Int×Int×Unit) h'=>∃i:Nat,i<=x.2.length/\q.2.1=i/\q.1=fF R.enc (aX (x.2.take i))/\Ext h h') (λq _=>(x.2.length-q.2.1).toNat)
  (λtag vs h'=>Ext h h'/\((tag=2/\vs=[])\/(tag=1/\vs=[aH 50]/\R.limit<lE R.enc (jA R.E x.2)))) ⟨0,cO _,rfl,rfl,e1⟩ ?_ ?_
 .rintro⟨(s:Int),(i':Int),u⟩ B ⟨i,ba,a2,hs,e2⟩
  dsimp only at a2 hs⊢;subst a2;subst hs;refine aE (λhd=>?_) λhd=>aC ⟨λH=>absurd H (by decide),λ_=>⟨e2, .inl ⟨rfl,rfl⟩⟩⟩;rw[aU,aN,a8]at hd;obtain⟨e,al⟩:∃e,x.2[i]?=some e:=⟨x.2[i]'(by omega),cK (by omega)⟩;have eh:=a6 (i+1);rw[uT al,nJ]at eh;have g4:=zZ R.enc (aX (x.2.take i));have g3:=Dj x.2 i;have c8:=Dj x.2 (i+1);rw[uT al,bQ]at c8;refine bL (λ(q:Int×Int×Unit) h'=>∃j:Nat,j<=e.2.2.1.2.length/\q.2.1=j/\q.1=fF R.enc (aX (x.2.take i))+fF R.enc (e.2.2.1.2.take j)/\Ext h h') (λq _=>(e.2.2.1.2.length-q.2.1).toNat)
   (λtag vs h'=>Ext h h'/\((tag=4/\vs=[aH (fF R.enc (aX (x.2.take i))+fF R.enc e.2.2.1.2)])\/(tag=1/\vs=[aH 50]/\R.limit<lE R.enc (jA R.E x.2)))) ⟨0,cO _,rfl,by simp[fF],e2⟩ ?_ ?_
  .rintro⟨(s:Int),(j':Int),v⟩ W ⟨j,cg,a3,hs,e3⟩
   dsimp only at a3 hs⊢;subst a3;subst hs;have b2:=ok.ext e3;have ls:=HF b2 al;have a5:=ls.len;have gm:=ls.bound;have r3:=r.ext e3;refine jW (b:=.sl) (z:=e.2.2.1.1) b2 al rfl (aE (λC=>?_) λC=>?_)
   .rw[aU,aN,a5]at C
    obtain⟨b,hb⟩:∃b,e.2.2.1.2[j]?=some b:=⟨e.2.2.1.2[j]'(by omega),cK (by omega)⟩;have b0:e.2.2.1.2.getD ((j:Int)).toNat 0=b:=by rw[cR,gJ,hb];rfl
    have ct:fF R.enc (e.2.2.1.2.take (j+1))=fF R.enc (e.2.2.1.2.take j)+bX R.enc b:=by rw[eN,hb,nJ];simp[fF]
    have hl:fF R.enc (e.2.2.1.2.take (j+1))<=fF R.enc e.2.2.1.2:=by
     have:fF R.enc e.2.2.1.2=fF R.enc (e.2.2.1.2.take (j+1))+fF R.enc (e.2.2.1.2.drop (j+1)):=by rw[<-nJ,eY]
     have:=zZ R.enc (e.2.2.1.2.drop (j+1));omega
    have ft:=zZ R.enc (e.2.2.1.2.take j);have hj:=zZ R.enc e.2.2.1.2;have hf:=Dp R.enc b;refine aL rfl (aL rfl (bU (b:=bI) R.enc rfl r3.ob.cells rfl (jW (b:=.sl) (z:=e.2.2.1.1) b2 al rfl (qZ ls (by omega) (by omega) λ_=>?_))));rw[b0];refine aM (MV R.enc b) λ⟨(z:Int),_⟩ h4 e4 hz=>?_;have hz:z=bX R.enc b:=hz;subst hz;dsimp only;rw[aW (by omega) (by omega)];refine aL rfl (aL rfl (bU (b:=bI) R.limit rfl (r3.ext e4).ob.cells rfl (aE (λhg=>aC ⟨λH=>absurd H (by decide),λ_=>⟨e3.trans e4, .inr ⟨rfl,rfl,?_⟩⟩⟩) λhg=>?_)))
    .rw[dL]at hg;omega
    .rw[aW (by omega) (by omega)]
     exact aC ⟨λ_=>⟨(fF R.enc (aX (x.2.take i))+fF R.enc (e.2.2.1.2.take j)+bX R.enc b,(j:Int)+1,()),rfl,⟨j+1,by omega,by dsimp only;omega,by dsimp only;omega,e3.trans e4⟩,by dsimp only;omega⟩,λH=>absurd rfl H⟩
   .rw[aY,aN,a5]at C
    have:j=e.2.2.1.2.length:=by omega
    subst this;rw[fH];exact aC ⟨λH=>absurd H (by decide),λ_=>⟨e3, .inl ⟨rfl,rfl⟩⟩⟩
  .rintro tag vs W ⟨e3,⟨rfl,rfl⟩|⟨rfl,rfl,hg⟩⟩
   .refine bG (fJ ?_)
    rw[aW (by omega) (by omega)];exact aC ⟨λ_=>⟨(fF R.enc (aX (x.2.take i))+fF R.enc e.2.2.1.2,(i:Int)+1,()),rfl,⟨i+1,by omega,by dsimp only;omega,by rw[uT al,nJ],e3⟩,by dsimp only;omega⟩,λH=>absurd rfl H⟩
   .exact nP (by decide) (bG (fJ (aC ⟨λH=>absurd H (by decide),λ_=>⟨e3, .inr ⟨rfl,rfl,hg⟩⟩⟩)))
 rintro tag vs B ⟨e2,ej⟩;rcases ej.symm with⟨rfl,rfl,hg⟩|⟨rfl,rfl⟩
 .exact nP (by decide) (bG (fJ (aC ⟨rfl,same e2 (.inr (.inr (.inr (.inl ⟨aw,m,Y,hg,rfl⟩)))) (by decide)⟩)))
 have r2:=r.ext e2;refine bG (bO (aL rfl (aL rfl (bU (b:=bI) R.enc rfl r2.ob.cells rfl (aL rfl (aL rfl (bU (b:=bI) R.limit rfl r2.ob.cells rfl ?_)))))));refine gO (bs:=[.int .i64, .int .i64, .sl, .sl, .sl]) (R.enc,R.limit,⟨none,0,0⟩,⟨none,0,0⟩,⟨none,0,0⟩,()) (by decide) λW e3 o3=>?_;have o3:cA B.size 1 W ⟨some (Cq B.size),5,5⟩ [aH R.enc,aH R.limit, .slice none 0 0, .slice none 0 0, .slice none 0 0]:=o3;have q3:B.size<W.size:=(o3.lt rfl).2
 let D:Nat->Nat->List El:=λi k=>BH R.E 0 (x.2.take k)++(R.E.drop (dG 0 (x.2.take k)).toNat).take (i-(dG 0 (x.2.take k)).toNat)
 have bo:∀i k,i<=R.E.length+1->(D i k).length<=2147483648:=λi k hi=>by
  have h1:=Nl (kR 0) (m.take k);have B:=Gl (Mk R.E.length) (m.take k);have W:=Dj x.2 k;show(BH R.E 0 (x.2.take k)++_).length<=_;rw[bQ,dJ,cW];omega
 let G:Nat->Nat->aG->Sl->Sl->Prop:=λi k h' c d=>RI B W.size B.size R.enc R.limit h' c d ((D i k).map (·.1)) ((D i k).map (·.2))
 have G0:G 0 0 W ⟨none,0,0⟩ ⟨none,0,0⟩:=⟨e3,o3,bV.nil _ _ _,bV.nil _ _ _,λ_ _ h=>(by cases h),q3,bM _⟩;have rr:∀{h'},Ext B h'->Bb n h' R:=λe=>r2.ext e;have b4:∀{h'},Ext B h'->(Sh.list jT).ok h' x:=λe=>ok.ext (e2.trans e);have bd:R.sa.len=R.E.length:=by have:=r.cur.1.len;rw[cE]at this;exact this
 have ho:R.st.len=R.E.length:=by have:=r.cur.2.len;rw[cE]at this;exact this
 have lo:=λk=>Dd (m.take k);have hi:=λk=>Gl (Mk R.E.length) (m.take k);refine dQ (G:=Nat×Nat×Sl×Sl) (λg (q:Int×Int×Int×Unit) h'=>q.2.2.1=g.1/\q.1=g.2.1/\q.2.1=dG 0 (x.2.take g.2.1)/\g.1<=R.E.length+1/\g.2.1<=x.2.length/\(∀e,x.2[g.2.1]?=some e->(g.1:Int)<=e.1)/\G g.1 g.2.1 h' g.2.2.1 g.2.2.2) (λg=>R.E.length+1-g.1)
  (λtag vs h'=>tag=6/\vs=[]/\∃c d,RI B W.size B.size R.enc R.limit h' c d ((jA R.E x.2).map (·.1)) ((jA R.E x.2).map (·.2))) (0,0,⟨none,0,0⟩,⟨none,0,0⟩)
  ⟨rfl,rfl,rfl,cO _,cO _,λe he=>by have:=m.at he;have:=lo 0;simp[dG]at *;omega,G0⟩ ?_ ?_
 .rintro⟨i,k,c,d⟩ ⟨(k':Int),(g':Int),(i':Int),u⟩ h4 ⟨a2,a4,a1,ba,T,A,g⟩
  dsimp only at a2 a4 a1 ba T A g⊢;subst a2;subst a4;subst a1;refine aL rfl (aL rfl (bU (b:=.sl) R.sa rfl (rr g.k).ob.cells rfl (aE (λhd=>?_) λhd=>?_)))
  .rw[gG,aN,bd]at hd
   refine cZ (λtag vs h'=>tag=0/\∃k c d,vs=[aH (k:Nat),aH (dG 0 (x.2.take k))]/\k<=x.2.length/\(∀e,x.2[k]?=some e->((i+1:Nat):Int)<=e.1)/\G (i+1) k h' c d) ?_ ?_
   . -- the edits that begin here
    refine dQ (G:=Nat×Sl×Sl) (λO (q:Int×Int×Unit) h'=>q.1=O.1/\q.2.1=dG 0 (x.2.take O.1)/\O.1<=x.2.length/\(∀e,x.2[O.1]?=some e->(i:Int)<=e.1)/\G i O.1 h' O.2.1 O.2.2) (λO=>x.2.length-O.1)
     (λtag vs h'=>tag=8/\∃k c d,vs=[aH (k:Nat),aH (dG 0 (x.2.take k))]/\k<=x.2.length/\(∀e,x.2[k]?=some e->((i+1:Nat):Int)<=e.1)/\G i k h' c d) (k,c,d) ⟨rfl,rfl,T,A,g⟩ ?_ ?_
    .rintro⟨k,c,d⟩ ⟨(k':Int),(g':Int),v⟩ h5 ⟨a4,a1,T,A,g⟩
     dsimp only at a4 a1 T A g⊢;subst a4;subst a1;refine bZ (∃e,x.2[k]?=some e/\e.1=(i:Int)) ?_ λbb h6 e6 a0=>?_
     .refine aE (λC=>?_) λC=>aC ⟨rfl,Ext.refl _,false,rfl,Iff.intro (λh=>by cases h) λ⟨e,he,_⟩=>?_⟩
      .rw[aU,aN,a8]at C
       obtain⟨e,he⟩:∃e,x.2[k]?=some e:=⟨x.2[k]'(by omega),cK (by omega)⟩;refine jW (b:=bI) (z:=e.1) (b4 g.k) he rfl (aC ⟨rfl,Ext.refl _,_,rfl,?_⟩);rw[cM];exact⟨λh=>⟨e,he,h⟩,λ⟨e',a9,h⟩=>by rw[he]at a9;cases a9;exact h⟩
      .rw[aY,aN,a8]at C
       have:=(cQ.1 he).1;omega
     have g6:G i k h6 c d:=g.ext e6;refine aE (λC=>?_) λC=>?_
     .obtain⟨e,he,gw⟩:=a0.1 C
      have g2:=m.at he;have cx:x.2.take (k+1)=x.2.take k++[e]:=by rw[eN,he];rfl
      have b1:dG 0 (x.2.take (k+1))=e.2.1:=by rw[cx,zT]
      have c5:=(cQ.1 he).1;have b8:=Dj x.2 (k+1);rw[uT he,bQ]at b8;have hD:D i (k+1)=D i k++Vg e.2.2.1.2:=by
       show BH R.E 0 (x.2.take (k+1))++(R.E.drop (dG 0 (x.2.take (k+1))).toNat).take (i-(dG 0 (x.2.take (k+1))).toNat)=BH R.E 0 (x.2.take k)++(R.E.drop (dG 0 (x.2.take k)).toNat).take (i-(dG 0 (x.2.take k)).toNat)++Vg e.2.2.1.2;rw[b1,show i-e.2.1.toNat=0 by omega,R9,kQ,cx,K8];simp only[BH,kQ];rw[show e.1.toNat=i by omega,dX]
      have dl:=bo i k ba;refine dQ (G:=Nat×Sl×Sl) (λO (q:Int×Unit) h'=>q.1=O.1/\O.1<=e.2.2.1.2.length/\RI B W.size B.size R.enc R.limit h' O.2.1 O.2.2 ((D i k++Vg (e.2.2.1.2.take O.1)).map (·.1)) ((D i k++Vg (e.2.2.1.2.take O.1)).map (·.2))) (λO=>e.2.2.1.2.length-O.1)
       (λtag vs h'=>tag=10/\vs=[]/\∃c d,G i (k+1) h' c d) (0,c,d) ⟨rfl,cO _,by simpa using g6⟩ ?_ ?_
      .rintro⟨j,c,d⟩ ⟨(j':Int),w⟩ h7 ⟨a3,cg,U⟩
       dsimp only at a3 cg U⊢;subst a3;have b3:=b4 U.k;have ls:=HF b3 he;have a5:=ls.len;refine jW (b:=.sl) (z:=e.2.2.1.1) b3 he rfl (aE (λJ=>?_) λJ=>?_)
       .rw[aU,aN,a5]at J
        obtain⟨b,hb⟩:∃b,e.2.2.1.2[j]?=some b:=⟨e.2.2.1.2[j]'(by omega),cK (by omega)⟩;have b0:e.2.2.1.2.getD ((j:Int)).toNat 0=b:=by rw[cR,gJ,hb];rfl
        have ct:e.2.2.1.2.take (j+1)=e.2.2.1.2.take j++[b]:=by rw[eN,hb];rfl
        refine bU (b:=.sl) c rfl U.o.cells rfl (jW (b:=.sl) (z:=e.2.2.1.1) b3 he rfl (qZ ls (by omega) (by omega) λcd=>?_));rw[b0]at cd⊢;refine zo U cd (eV.2 (by decide)) (by rw[bQ,cE,dJ];omega) λh8 b6 fl g8=>?_;rw[aW (by omega) (by omega)];refine aC ⟨λ_=>⟨(j+1,b6,fl),((j:Int)+1,()),rfl,⟨by dsimp only;omega,by dsimp only;omega,?_⟩,by dsimp only;omega⟩,λH=>absurd rfl H⟩;dsimp only;rw[ct,show Vg (e.2.2.1.2.take j++[b])=Vg (e.2.2.1.2.take j)++[(b, -1)] by simp,<-dX];exact g8
       .rw[aY,aN,a5]at J
        have:j=e.2.2.1.2.length:=by omega
        subst this;rw[fH]at U;exact aC ⟨λH=>absurd H (by decide),λ_=>⟨rfl,rfl,c,d,by show RI _ _ _ _ _ _ _ _ ((D i (k+1)).map _) ((D i (k+1)).map _);rw[hD];exact U⟩⟩
      .rintro tag vs h7 ⟨rfl,rfl,e8,fj,U⟩
       refine bG (bO (jW (b:=bI) (z:=e.2.1) (b4 U.k) he rfl ?_));rw[aW (by omega) (by omega)];refine aC ⟨λ_=>⟨(k+1,e8,fj),((k:Int)+1,e.2.1,()),rfl,⟨by dsimp only;omega,b1.symm,c5,λe' a9=>?_,U⟩,by dsimp only;omega⟩,λH=>absurd rfl H⟩;have:=m.at a9;dsimp only at this;rw[b1]at this;omega
     .have C:¬∃e,x.2[k]?=some e/\e.1=(i:Int):=λh=>by rw[a0.2 h]at C;cases C
      refine aC ⟨λH=>absurd H (by decide),λ_=>⟨rfl,k,c,d,rfl,T,λe he=>?_,g6⟩⟩;have h1:=A e he;have B:e.1≠(i:Int):=λh=>C ⟨e,he,h⟩;omega
    .rintro tag vs h5 ⟨rfl,k,c,d,rfl,T,A,g⟩
     have g1:=lo k;have g0:=hi k;refine bG (Cn (tys:=[tI, tI]) ((k:Int),dG 0 (x.2.take k),()) rfl ?_);refine bZ (i<R.E.length/\dG 0 (x.2.take k)<=(i:Int)) ?_ λbb h6 e6 a0=>?_
     .refine aL rfl (aL rfl (bU (b:=.sl) R.sa rfl (rr g.k).ob.cells rfl (aE (λC=>aC ⟨rfl,Ext.refl _,_,rfl,?_⟩) λC=>aC ⟨rfl,Ext.refl _,false,rfl,Iff.intro (λh=>by cases h) λh=>?_⟩)))
      .rw[aU,aN,bd]at C
       rw[dD];exact⟨λh=>⟨by omega,h⟩,λh=>h.2⟩
      .rw[aY,aN,bd]at C
       omega
     have g6:G i k h6 c d:=g.ext e6;refine aE (λC=>?_) λC=>?_
     .obtain⟨c1,c2⟩:=a0.1 C
      have r6:=rr g6.k;obtain⟨⟨a,t⟩,bt⟩:∃y,R.E[i]?=some y:=⟨R.E[i]'c1,cK c1⟩;have dr:(R.E.map (λy:El=>y.1)).getD ((i:Int)).toNat 0=a:=by rw[cR,gJ,gQ,bt];rfl
      have ds:(R.E.map (λy:El=>y.2)).getD ((i:Int)).toNat 0=t:=by rw[cR,gJ,gQ,bt];rfl
      have hD:D (i+1) k=D i k++[(a,t)]:=by
       show BH R.E 0 (x.2.take k)++(R.E.drop (dG 0 (x.2.take k)).toNat).take (i+1-(dG 0 (x.2.take k)).toNat)=BH R.E 0 (x.2.take k)++(R.E.drop (dG 0 (x.2.take k)).toNat).take (i-(dG 0 (x.2.take k)).toNat)++[(a,t)];rw[show i+1-(dG 0 (x.2.take k)).toNat=(i-(dG 0 (x.2.take k)).toNat)+1 by omega,eN,Aq,show(dG 0 (x.2.take k)).toNat+(i-(dG 0 (x.2.take k)).toNat)=i by omega,bt,dX];rfl
      refine bU (b:=.sl) c rfl g6.o.cells rfl (aL rfl (aL rfl (bU (b:=.sl) R.sa rfl r6.ob.cells rfl (qZ r6.cur.1.lO (by omega) (by rw[cE];dsimp only;omega) λcc=>?_))));rw[dr]at cc⊢;have dl:=bo i k ba;refine jG (k:=.i64) [a] (by intro z hz;rw[dE.1 hz];exact cc) (by simp) λh7 e7 o7=>?_;have U:=RI.ext g6 e7;refine sU (aI.1 U.o.cells 2 _ rfl) (ug U o7.lO (by rw[cE,Av];omega) λh8 b6 g8=>bU (b:=.sl) d rfl g8.o.cells rfl ?_);have r8:=rr g8.k;refine aL rfl (aL rfl (bU (b:=.sl) R.st rfl r8.ob.cells rfl (qZ r8.cur.2.lO (by omega) (by rw[cE];dsimp only;omega) λcf=>?_)));rw[ds]at cf⊢;refine jG (k:=.i64) [t] (by intro z hz;rw[dE.1 hz];exact cf) (by simp) λh9 e9 o9=>?_;have g9:=g8.ext e9;refine sU (aI.1 g9.o.cells 3 _ rfl) (uh g9 o9.lO (by rw[cE,Av];omega) λfv c9 de=>aC ⟨rfl,k,b6,c9,rfl,T,A,?_⟩);have m1:(D (i+1) k).map (λy:El=>y.1)=(D i k).map (λy:El=>y.1)++[a]:=by rw[hD];exact dP (l₁:=D i k) (l₂:=[(a,t)])
      have m2:(D (i+1) k).map (λy:El=>y.2)=(D i k).map (λy:El=>y.2)++[t]:=by rw[hD];exact dP (l₁:=D i k) (l₂:=[(a,t)])
      show RI _ _ _ _ _ _ _ _ ((D (i+1) k).map (λy:El=>y.1)) ((D (i+1) k).map (λy:El=>y.2));rw[m1,m2];exact de
     .have C:¬(i<R.E.length/\dG 0 (x.2.take k)<=(i:Int)):=λh=>by rw[a0.2 h]at C;cases C
      refine aC ⟨rfl,k,c,d,rfl,T,A,?_⟩;have hD:D (i+1) k=D i k:=by
       show BH R.E 0 (x.2.take k)++(R.E.drop (dG 0 (x.2.take k)).toNat).take (i+1-(dG 0 (x.2.take k)).toNat)=BH R.E 0 (x.2.take k)++(R.E.drop (dG 0 (x.2.take k)).toNat).take (i-(dG 0 (x.2.take k)).toNat)
       congr 1
       by_cases h:dG 0 (x.2.take k)<=(i:Int)
       .have hlen:R.E.length<=i:=by
         by_cases B:i<R.E.length
         .exact absurd ⟨B,h⟩ C
         .omega
        exact(iY (by rw[cW];omega)).trans (iY (by rw[cW];omega)).symm
       .rw[show i+1-(dG 0 (x.2.take k)).toNat=0 by omega,show i-(dG 0 (x.2.take k)).toNat=0 by omega]
      show RI _ _ _ _ _ _ _ _ ((D (i+1) k).map _) ((D (i+1) k).map _);rw[hD];exact g6
   .rintro tag vs h5 ⟨rfl,k,c,d,rfl,T,A,g⟩
    refine bG (Cn (tys:=[tI, tI]) ((k:Int),dG 0 (x.2.take k),()) rfl ?_);rw[aW (by omega) (by omega)];exact aC ⟨λ_=>⟨(i+1,k,c,d),((k:Int),dG 0 (x.2.take k),(i:Int)+1,()),rfl,⟨by dsimp only;omega,rfl,rfl,by dsimp only;omega,T,A,g⟩,by dsimp only;omega⟩,λH=>absurd rfl H⟩
  .rw[mN,aN,bd]at hd
   have dx:k=x.2.length:=by
    by_cases cr:k<x.2.length
    .obtain⟨e,he⟩:∃e,x.2[k]?=some e:=⟨x.2[k]'cr,cK cr⟩
     have h1:=A e he;have B:=m.at he;omega
    .omega
   subst dx;refine aC ⟨λH=>absurd H (by decide),λ_=>⟨rfl,rfl,c,d,?_⟩⟩;have hD:D i x.2.length=jA R.E x.2:=by
    rw[ao,Zz];show BH R.E 0 (x.2.take x.2.length)++(R.E.drop (dG 0 (x.2.take x.2.length)).toNat).take (i-(dG 0 (x.2.take x.2.length)).toNat)=_;rw[fH,iY (by rw[cW];omega)]
   have g':RI B W.size B.size R.enc R.limit h4 c d ((D i x.2.length).map (·.1)) ((D i x.2.length).map (·.2)):=g;rw[hD]at g';exact g'
 .rintro tag vs h4 ⟨rfl,rfl,c,d,g⟩
  have hp:=g.nh;have b9:=Zs m r.fit Y;have fy:(jA R.E x.2).length<=1000000000+65536:=by
   have h1:=Nl (kR 0) m;have B:=Gl (Mk R.E.length) m;rw[ao,Zz,bQ,cW];omega
  have r4:=rr g.k
  let N:RX:=⟨B.size,R.enc,R.limit,c,d,⟨none,0,0⟩,jA R.E x.2,[],λi=>B.size<=i/\i<h4.size⟩
  have rN:Bb B.size h4 N:=⟨r.enc,r.A4,g.o,⟨g.la.mono (by omega),g.lt.mono (by omega)⟩,cA.nil _ _ _,λk hk=>(by cases hk),⟨bM _,(g.o.lt rfl).2⟩,λi hi=>by
   rcases hi with⟨y,J,rfl⟩|⟨y,J,rfl⟩
   .have:=g.la.own.lt J;exact⟨⟨by omega,this.2⟩,by show y.block≠B.size;omega,λa ha=>(by cases ha)⟩
   .have:=g.lt.own.lt J;exact⟨⟨by omega,this.2⟩,by show y.block≠B.size;omega,λa ha=>(by cases ha)⟩,λk hk=>(by cases hk),λa ha=>(by cases ha),λi hi=>hi,b9⟩
  refine bG (bO (aL rfl (aL rfl (bU (b:=bI) R.limit rfl r4.ob.cells rfl ?_))));have ei:(jA R.E x.2).length<=1073741824:=by omega
  refine aM (Xh rN ei) λ⟨(sz:Int),_⟩ h5 e5 a6=>?_;have a6:sz=lE R.enc (jA R.E x.2):=a6;subst a6;have g5:=g.ext e5;have r5:=rr g5.k;have bp:=e2.trans g5.k;refine sU (aI.1 r5.ob.cells 1 _ rfl) (aE (λV=>?_) λV=>?_)
  .rw[dL]at V
   exact aC ⟨rfl,same bp (.inr (.inr (.inr (.inl ⟨aw,m,Y,V,rfl⟩)))) (by decide)⟩
  rw[gF]at V;refine bU (b:=.sl) c rfl g5.o.cells rfl (aL rfl (aL rfl (fB (dN c) r5.ob (by simp) rfl λh6 o6 u6=>?_)));have c6:aV (λi=>i=R.b) h5 h6:=pR u6;have gv:R.b<h.size:=(r.lo _ r.zb).2;have s2:=e2.size;have df:=c6.own g5.o λy J f=>by cases J;have f:B.size=R.b:=f;omega
  refine bU (b:=.sl) d rfl df.cells rfl (aL rfl (aL rfl (fB (dN d) o6 (by simp) rfl λh7 o7 u7=>?_)));have c7:aV (λi=>i=R.b) h6 h7:=pR u7;have ab:=c6.trans c7 λ_ _ f=>f;have hv:=ab.1;have r7:∀k,MG n h5 k->(∀i,ZF k i->i≠R.b)->MG n h7 k:=λk s hk=>s.oZ ab λi hi f=>hk i hi f;have er:=ab.qL g5.la λy J f=>by have:=(g5.la.own.lt J).1;have f:y.block=R.b:=f;omega
  have ey:=ab.qL g5.lt λy J f=>by have:=(g5.lt.own.lt J).1;have f:y.block=R.b:=f;omega
  have fm:=ab.own r5.sk λy J f=>(r.zs y J).2 f;have a7:∀i,ZF (c,d,jA R.E x.2) i->W.size<=i/\i<h5.size:=λi hi=>by
   rcases hi with⟨y,J,rfl⟩|⟨y,J,rfl⟩
   .exact g5.la.own.lt J
   .exact g5.lt.own.lt J
  refine aC ⟨rfl,0,{R with sa:=c,st:=d,E:=jA R.E x.2,Z:=λi=>R.Z i\/ZF (c,d,jA R.E x.2) i},rfl, .inr (.inr (.inr (.inr ⟨aw,m,Y,V,rfl⟩))),?_,(aV.bD bp).trans ab λ_ _ f=>f,rfl,rfl,rfl,rfl,rfl,rfl,λi hi=>.inl hi,λi hi=>hi.imp id λhi=>by have:=a7 i hi;omega⟩;refine⟨r.enc,r.A4,o7,⟨er.mono (by omega),ey.mono (by omega)⟩,fm,λk hk=>r7 k (r5.kept k hk) λi hi=>(r.zk k hk i hi).2.1, .inl r.zb,λi hi=>?_,λk hk i hi=>⟨.inl (r.zk k hk i hi).1,(r.zk k hk i hi).2⟩,λa ha=>⟨.inl (r.zs a ha).1,(r.zs a ha).2⟩,λi hi=>?_,b9⟩
  .have hb:=a7 i hi
   exact⟨.inr hi,by show i≠R.b;omega,λa ha=>by have:=(r.lo _ (r.zs a ha).1).2;show a.block≠i;omega⟩
  .rcases hi with hi|hi
   .have:=r.lo i hi;have:=bp.size;exact⟨by omega,by omega⟩
   .have:=a7 i hi;exact⟨by omega,by omega⟩
end
end Go.Sw.Piece
namespace Go.Sw.Hist
open Go.Sw.Any Go.Sw.Codec Go.Sw.Piece
section
variable{P:Program}{S:cH}{h:aG}{Q:Nat->bH->aG->Prop}
variable{s:Sl}{l:bB}{e:Int×Int}
def Pt(l:Sl):aK:=
 .bind (.loop [tS, tI] ((⟨none,0,0⟩:Sl),(0:Int),()) λ(r:Sl×Int×Unit)=>aR (fG r.2.1 (aQ l.len))
   (bF (bN (aJ l.aD) (eU r.2.1 l.len))<|.load (tI) (aB l.aD (aZ (bP r.2.1) 1)) λ(v:Int)=>.alloc [aH v] λa=>.append 1 8 [aH 0] r.1 ⟨some a,1,1⟩ λ(q:Sl)=>.ret 0 [dN q,aH (aT .i64 r.2.1 1)])
   (.ret 2 [dN r.1])) λk vs=>aR (jI k 2) (.cast [tS] vs λ(r:Sl×Unit)=>.ret 0 [dN r.1]) .fail
theorem KL(m:kW .i64 h s l)(T:l.length<=4294967296):aS P (Pt s) [tS] h λ(y:Sl×Unit) h'=>bV h.size .i64 h' y.1 l:=by
 unfold Pt aS;have E:aQ s.len=(l.length:Int):=by rw[aN,m.len]
 rw[E];refine bL (λ(x:Sl×Int×Unit) h'=>Ext h h'/\∃i:Nat,x.2.1=i/\i<=l.length/\bV h.size .i64 h' x.1 (l.take i)) (λx _=>((l.length:Int)-x.2.1).toNat)
  (λt vs h'=>Ext h h'/\t=2/\∃q,vs=[dN q]/\bV h.size .i64 h' q l) ⟨Ext.refl _,0,rfl,cO _,bV.nil ..⟩ ?_ ?_
 .rintro⟨(q:Sl),(V:Int),u⟩ B ⟨b,i,hi,hle,o⟩
  dsimp only at hi o⊢;subst hi;refine aE (λd=>?_) λd=>?_
  .rw[aU]at d
   have j:i<l.length:=by omega
   have K:=b.1;refine qZ (m.ext b) (by omega) (by omega) λg=>?_;have r:l[i]?=some (l.getD (i:Int).toNat 0):=by simp[List.getD,cK j]
   generalize l.getD (i:Int).toNat 0=v at r g⊢;refine jG (k:=.i64) [v] (by intro z G;rw[dE.1 G];exact g) (by simp) λR c o2=>?_;have w:=(aV.bD (F:=λ_=>False) c).qL o λ_ _ x=>x;refine uU w (by have:=c.1;omega) o2.lO (by rw[dJ];simp;omega) (by rw[dJ];simp;omega) λI C U H J O _=>?_;rw[aW (by omega) (by omega)];have A:Ext h C:=jU.jQ (b.trans c) J λa ha=>(w.own.lt ha).1;refine aC ⟨λ_=>⟨(I,(i:Int)+1,()),rfl,⟨A,i+1,by push_cast;rfl,by omega,?_⟩,by dsimp only;omega⟩,λf=>absurd rfl f⟩;rw[eN,r];exact H
  .rw[aY]at d
   have:i=l.length:=by omega
   subst this;rw[fH]at o;exact aC ⟨λf=>absurd f (by decide),λ_=>⟨b,rfl,q,rfl,o⟩⟩
 .rintro t vs B ⟨b,rfl,q,rfl,o⟩
  exact bG (mP (aC ⟨rfl,b,(q,()),rfl,o⟩))
theorem MT(c:kW .i64 h s l)(b:l.length<=4294967296):aS P (zK S s) [tS] h λ(y:Sl×Unit) h'=>bV h.size .i64 h' y.1 l:=KL c b
theorem UK(c:kW .i64 h s l)(b:l.length<=4294967296):aS P (Ae S s) [tS] h λ(y:Sl×Unit) h'=>bV h.size .i64 h' y.1 l:=KL c b
theorem u_{n:Nat}{a:Addr}{m c:Nat}(o:cA n 1 h ⟨some a,m,c⟩ (Cy e)):Rd 2 h ⟨some a,1,1⟩ ([e].flatMap Cy):=
 ⟨rfl,λi v hi=>⟨a,rfl,aI.1 o.cells i v (by simpa using hi)⟩⟩
theorem L9{n:Nat}{l:iO}{K:Sl->aK}(o:iX n h s l)(z:n<=h.size)(y:l.length<=4294967296)
  (g:∀h' q,iX n h' q (l++[e])->aV (fZ s) h h'->(∀a,q.aD=some a->s.aD=some a\/h.size<=a.block)->wp P (K q) h' Q) :
  wp P (.alloc [aH e.1,aH e.2] λa=>.append 2 16 [aH 0,aH 0] s ⟨some a,1,1⟩ K) h Q:=by
 refine λel=>?_;have b:Ext h (h.push (.cells (Cy e).toArray el)):=Ext.push ..;have o1:cA h.size 1 (h.push (.cells (Cy e).toArray el)) ⟨some ⟨h.size,0,none⟩,2,2⟩ (Cy e):=bR rfl (by decide) (by decide);show wp P _ (h.push (.cells (Cy e).toArray el)) _;generalize h.push (.cells (Cy e).toArray el)=u at b o1⊢;have j:=(aV.bD (F:=λ_=>False) b).own o λ_ _ x=>x;have r:=b.1;have t:=iX.len o;refine iR j (by omega) (u_ o1) (by intro v c;simp at c;rcases c with rfl|rfl<;>rfl) rfl (by dsimp only;omega) (by dsimp only;omega) λq f o2 A m d _=>?_;refine g f q (by rw[iX,gX];exact o2) (aV.pre b (aV.dK m λa ha _=>⟨a,ha,rfl⟩)) λa ha=>(d a ha).imp id λw=>by omega
theorem Xg{m:Nat}{l:iO}(g:iX m h s l)(H:l.length<=4294967295):aS P (AN S s) [tS] h λ(y:Sl×Unit) h'=>iX h.size h' y.1 l:=by
 unfold AN aS;have C:aQ s.len=(l.length:Int):=by rw[aN,iX.len g]
 rw[C];refine bL (λ(x:Sl×Int×Unit) h'=>Ext h h'/\∃i:Nat,x.2.1=i/\i<=l.length/\iX h.size h' x.1 (l.take i)) (λx _=>((l.length:Int)-x.2.1).toNat)
  (λt vs h'=>Ext h h'/\t=2/\∃q,vs=[dN q]/\iX h.size h' q l) ⟨Ext.refl _,0,rfl,cO _,cA.nil ..⟩ ?_ ?_
 .rintro⟨(q:Sl),(I:Int),u⟩ z ⟨b,i,hi,hle,o⟩
  dsimp only at hi o⊢;subst hi;refine aE (λd=>?_) λd=>?_
  .rw[aU]at d
   have c:i<l.length:=by omega
   have r:=b.1;refine PX ((aV.bD (F:=λ_=>False) b).own g λ_ _ x=>x) rfl c ?_;dsimp only;refine L9 (e:=el l i) o r (by rw[dJ];omega) λA E o2 c2 G=>?_;rw[aW (by omega) (by omega)];have w:Ext h A:=by
    refine⟨dI b.1 c2.1,λj B=>(c2.2.1 j (by omega) ?_).trans (b.2.1 j B),λa ha=>c2.2.2 a (b.2.2 a ha)⟩;rintro⟨a,ha,rfl⟩;have:=(o.lt ha).1;omega
   refine aC ⟨λ_=>⟨(E,(i:Int)+1,()),rfl,⟨w,i+1,by push_cast;rfl,by omega,?_⟩,by dsimp only;omega⟩,λf=>absurd rfl f⟩;rw[eN,ED c];exact o2
  .rw[aY]at d
   have:i=l.length:=by omega
   subst this;rw[fH]at o;exact aC ⟨λf=>absurd f (by decide),λ_=>⟨b,rfl,q,rfl,o⟩⟩
 .rintro t vs z ⟨b,rfl,q,rfl,o⟩
  exact bG (mP (aC ⟨rfl,b,(q,()),rfl,o⟩))
theorem UQ{a:Int}:aS P (yQ S a) [tB] h λ(y:Bool×Unit) _=>y.1=true↔OB a:=by
 unfold yQ aS OB;refine bZ (OB a) ?_ λg m j hb=>aC ⟨rfl,j,(g,()),rfl,hb⟩;unfold OB;refine aE (λf=>?_) λf=>?_
 .rw[dD]at f
  refine aE (λd=>aC ⟨rfl,Ext.refl _,true,rfl,?_⟩) λd=>aE (λb=>aC ⟨rfl,Ext.refl _,true,rfl,?_⟩) λb=>aE (λc=>aC ⟨rfl,Ext.refl _,true,rfl,?_⟩) λc=>aC ⟨rfl,Ext.refl _,_,rfl,?_⟩
  .rw[gG]at d;exact⟨λ_=>.inl ⟨f,d⟩,λ_=>rfl⟩
  .rw[cM]at b;exact⟨λ_=>.inr (.inl b),λ_=>rfl⟩
  .rw[cM]at c;exact⟨λ_=>.inr (.inr (.inl c)),λ_=>rfl⟩
  .rw[dS]at b c
   rw[cM];have:¬a<=122:=λh=>by rw[gG.2 h]at d;cases d
   omega
 .rw[eS]at f
  refine aE (λb=>aC ⟨rfl,Ext.refl _,true,rfl,?_⟩) λb=>aE (λc=>aC ⟨rfl,Ext.refl _,true,rfl,?_⟩) λc=>aC ⟨rfl,Ext.refl _,_,rfl,?_⟩
  .rw[cM]at b;exact⟨λ_=>.inr (.inl b),λ_=>rfl⟩
  .rw[cM]at c;exact⟨λ_=>.inr (.inr (.inl c)),λ_=>rfl⟩
  .rw[dS]at b c
   rw[cM];omega
end
section
variable{P:Program}{S:cH}{h:aG}{Q:Nat->bH->aG->Prop}
variable{α:Type}{i:Nat}{s:Sl}{l:List iM}{h':aG}{e:iM}{x:GO}
theorem gM{f:α->bH}{m:Nat}(hm:∀x,(f x).length=m)(l:List α):(l.flatMap f).length=l.length*m:=by
 induction l with
 |nil=>simp
 |cons e l b=>rw[gD,bQ,b,hm,fM,CH];omega
theorem IT{f:α->bH}{m:Nat}(hm:∀x,(f x).length=m){l:List α}{j:Nat}{x:α}(hi:l[i]?=some x)(c:j<m):(l.flatMap f)[i*m+j]?=(f x)[j]? := by
 have b:=(cQ.1 hi).1;have g:l=l.take i++(x::l.drop (i+1)):=by
  rw[<-(cQ.1 hi).2,<-gY b,eY]
 have d:((l.take i).flatMap f).length=i*m:=by rw[gM hm,dJ,F5 (rX b)]
 conv=>lhs;rw[g]
 rw[gX,gD,jZ (by omega),d,show i*m+j-i*m=j by omega,mL (by rw[hm];exact c)]
theorem sQ{f:α->bH}{m n:Nat}(hm:∀x,(f x).length=m)(h0:0<m){l:List α}{x:α}(o:cA n m h s (l.flatMap f))(hi:l[i]?=some x):∃a,s.aD=some a/\Cells h (a.add (i*m)) (f x):=by
 obtain⟨a,ea,_⟩:=o.rd.2 (i*m+0) ((f x)[0]'(by rw[hm];exact h0)) (by rw[IT hm hi h0];simp);refine⟨a,ea,aI.2 λj v c=>?_⟩;have d:j<m:=by rw[<-hm x];exact(cQ.1 c).1
 obtain⟨b,eb,g⟩:=o.rd.2 (i*m+j) v (by rw[IT hm hi d];exact c);rw[ea]at eb;cases eb;rw[add_add];exact g
abbrev ek(e:iM):bH:=[aH e.1,aH e.2.1,dN e.2.2.1.1]
structure MB(n:Nat)(h:aG)(s:Sl)(l:List iM):Prop where
 own:cA n 3 h s (l.flatMap ek)
 put:∀e∈l,bV n .i64 h e.2.2.1.1 e.2.2.1.2/\cY .i64 e.1/\cY .i64 e.2.1
theorem MB.oZ{n:Nat}{F:Nat->Prop}(o:MB n h s l)(c:aV F h h')(f:∀i,n<=i->i<h.size->¬F i):MB n h' s l:=
 ⟨c.own o.own λa ha=>f _ (o.own.lt ha).1 (o.own.lt ha).2,λe he=>let ⟨a,b,d⟩:=o.put e he;⟨c.qL a λx g=>f _ (a.own.lt g).1 (a.own.lt g).2,b,d⟩⟩
theorem MB.ext{n:Nat}(o:MB n h s l)(e:Ext h h'):MB n h' s l:=o.oZ (aV.bD (F:=λ_=>False) e) λ_ _ _ x=>x
theorem MB.len{n:Nat}{s:Sl}{l:List iM}(o:MB n h s l):s.len=l.length:=by have:=o.own.1;rw[gM (m:=3) λ_=>rfl]at this;omega
theorem MB.ok{n:Nat}{s:Sl}{l:List iM}(o:MB n h s l):(Sh.list jT).ok h (s,l):=by
 refine⟨o.len,o.own.2.1,o.own.2.2.1,λi y hi=>?_⟩;obtain⟨a,ea,c⟩:=sQ (m:=3) (λ_=>rfl) (by decide) o.own hi;obtain⟨d,f,g⟩:=o.put y (eL hi);refine⟨a,ea,aI.2 λj v b=>?_,⟨f,g,Wt d.lO,trivial⟩⟩;refine aI.1 c j v ?_
 match j,b with
 |0,b=>exact b
 |1,b=>exact b
 |2,b=>exact b
 |j+3,b=>simp[Sh.cells]at b
theorem WC{n:Nat}{K:Sl->aK}(o:MB n h s l)(H:n<=h.size)(G:l.length<=1099511627776)(he:bV n .i64 h e.2.2.1.1 e.2.2.1.2)(h1:cY .i64 e.1)(u:cY .i64 e.2.1)(j:∀x∈e::l,∀a,x.2.2.1.1.aD=some a->∀b,s.aD=some b->a.block≠b.block)
  (w:∀h' q,MB n h' q (l++[e])->aV (fZ s) h h'->(∀a,q.aD=some a->s.aD=some a\/h.size<=a.block)->wp P (K q) h' Q) :
  wp P (.alloc [aH e.1,aH e.2.1,dN e.2.2.1.1] λa=>.append 3 40 [aH 0,aH 0, .slice none 0 0] s ⟨some a,1,1⟩ K) h Q:=by
 refine λel=>?_;have f:Ext h (h.push (.cells (ek e).toArray el)):=Ext.push ..;have o1:cA h.size 1 (h.push (.cells (ek e).toArray el)) ⟨some ⟨h.size,0,none⟩,3,3⟩ (ek e):=bR rfl (by decide) (by decide);show wp P _ (h.push (.cells (ek e).toArray el)) _;generalize h.push (.cells (ek e).toArray el)=t at f o1⊢;have y:=o.ext f;have B:=f.1;have C:=o.len;have rd:Rd 3 t ⟨some ⟨h.size,0,none⟩,1,1⟩ ([e].flatMap ek):=⟨rfl,λi v hi=>⟨_,rfl,aI.1 o1.cells i v (by simpa using hi)⟩⟩;refine iR y.own (by omega) rd (by intro v m;simp at m;rcases m with rfl|rfl|rfl<;>rfl) rfl (by dsimp only;omega) (by dsimp only;omega) λq g o2 I A r _=>?_;have c2:aV (fZ s) h g:=aV.pre f (aV.dK A λa ha _=>⟨a,ha,rfl⟩);refine w g q ⟨by rw[gX];exact o2,λx d=>?_⟩ c2 λa ha=>(r a ha).imp id λE=>by omega
 have aP:∀x∈e::l,bV n .i64 h x.2.2.1.1 x.2.2.1.2->bV n .i64 g x.2.2.1.1 x.2.2.1.2:=λx d z=>c2.qL z λa ha ⟨b,hb,e⟩=>j x d a ha b hb e.symm;rcases dH.1 d with d|d
 .obtain⟨a,b,c⟩:=o.put x d
  exact⟨aP x (eK _ d) a,b,c⟩
 .rw[dE.1 d]
  exact⟨aP e (eO ..) he,h1,u⟩
theorem Vo{f:Nat}{v:Value}{K:aK}(ok:(Sh.list jT).ok h x)(he:x.2[i]?=some e)(g:(jT.cells e)[f]?=some v)(d:wp P K h Q) :
  wp P (.check (aB (aB x.1.aD (aZ (bP (i:Int)) 3)) f) [v] K) h Q:=by
 obtain⟨a,ea,c,_⟩:=ok.2.2.2 i e he;refine⟨⟨(a.add (i*3)).add f,by rw[ea,hO,eP,cR];rfl,aI.2 λj w b=>?_⟩,d⟩;cases j with
 |zero=>
  cases b;rw[add_zero'];exact aI.1 c f _ g
 |succ j=>simp at b
theorem YV(ok:(Sh.list jT).ok h x)(hl:x.2.length<=1073741824)(hp:∀e∈x.2,e.2.2.1.2.length<=4294967296) :
  aS P (yR S x.1) [tS] h λ(y:Sl×Unit) h'=>∃T,T.map hP=x.2.map hP/\MB h.size h' y.1 T:=by
 unfold yR aS;have hn:aQ x.1.len=(x.2.length:Int):=by rw[aN,ok.len]
 rw[hn];refine bL (λ(s:Sl×Int×Unit) h'=>Ext h h'/\∃(i:Nat) (l:List iM),s.2.1=i/\i<=x.2.length/\l.map hP=(x.2.take i).map hP/\MB h.size h' s.1 l/\∀e∈l,∀a,e.2.2.1.1.aD=some a->∀b,s.1.aD=some b->a.block≠b.block) (λs _=>((x.2.length:Int)-s.2.1).toNat)
  (λt vs h'=>Ext h h'/\t=2/\∃q l,vs=[dN q]/\l.map hP=x.2.map hP/\MB h.size h' q l) ⟨Ext.refl _,0,[],rfl,cO _,rfl,⟨cA.nil .., λe he=>by cases he⟩,λe he=>by cases he⟩ ?_ ?_
 .rintro⟨(q:Sl),(si:Int),u⟩ B ⟨r,i,l,hi,hle,g,o,C⟩
  dsimp only at hi o C⊢;subst hi;refine aE (λI=>?_) λI=>?_
  .rw[aU]at I
   have K:i<x.2.length:=by omega
   obtain⟨c,d⟩:∃c,x.2[i]?=some c:=⟨x.2[i],cK K⟩;have R:=r.1;have m:=ok.ext r;have ab:l.length=i:=by have:=congrArg List.length g;rw[cE,cE,dJ]at this;omega
   refine jW (b:=bI) (z:=c.1) m d rfl (jW (b:=bI) (z:=c.2.1) m d rfl (jW (b:=.sl) (z:=c.2.2.1.1) m d rfl ?_));have O:=hp c (eL d);refine aM (MT (HF m d) O) λ⟨(w:Sl),_⟩ G A ow=>?_;have ow:bV B.size .i64 G w c.2.2.1.2:=ow;have E:=m.ext A;refine Vo E d rfl (Vo E d rfl ?_);have H:=E.el d;have al:=A.1;have o2:=o.ext A;have U:∀b,q.aD=some b->b.block<B.size:=λb hb=>(o.own.lt hb).2;refine WC (e:=(c.1,c.2.1,(w,c.2.2.1.2),())) o2 (by omega) (by omega) (ow.mono R) H.1 H.2.1 (λy f a ha b hb=>?_) λY q' o3 c3 V=>?_
   .rcases eH.1 f with rfl|f
    .have B:=(ow.own.lt ha).1;have G:=U b hb;omega
    .exact C y f a ha b hb
   rw[aW (by omega) (by omega)];have W:Ext h Y:=by
    refine⟨by have:=c3.1;omega,λj Z=>(c3.2.1 j (by omega) ?_).trans ((r.trans A).2.1 j Z),λa ha=>c3.2.2 a ((r.trans A).2.2 a ha)⟩;rintro⟨a,ha,rfl⟩;have:=(o.own.lt ha).1;omega
   refine aC ⟨λ_=>⟨(q',(i:Int)+1,()),rfl,⟨W,i+1,l++[(c.1,c.2.1,(w,c.2.2.1.2),())],by push_cast;rfl,by omega,?_,o3,λy f a ha b hb=>?_⟩,by dsimp only;omega⟩,λJ=>absurd rfl J⟩
   .rw[eN,d,dP,dP,g];rfl
   .have DO:∀a,y.2.2.1.1.aD=some a->a.block<G.size/\∀b,q.aD=some b->a.block≠b.block:=λa ha=>by
     rcases dH.1 f with f|f
     .exact⟨((o2.put y f).1.own.lt ha).2,λb hb=>C y f a ha b hb⟩
     .rw[dE.1 f]at ha
      exact⟨(ow.own.lt ha).2,λb hb=>by have B:=(ow.own.lt ha).1;have G:=U b hb;omega⟩
    rcases V b hb with hb|hb
    .exact(DO a ha).2 b hb
    .have:=(DO a ha).1;omega
  .rw[aY]at I
   have:i=x.2.length:=by omega
   subst this;rw[fH]at g;exact aC ⟨λJ=>absurd J (by decide),λ_=>⟨r,rfl,q,l,rfl,g,o⟩⟩
 .rintro t vs B ⟨r,rfl,q,l,rfl,g,o⟩
  exact bG (mP (aC ⟨rfl,r,(q,()),rfl,l,g,o⟩))
theorem D4{K:Addr->aK}(ok:(Sh.list jT).ok h x)(he:x.2[i]?=some e)
  (f:∀h' a,Ext h h'->cA h.size 1 h' ⟨some a,3,3⟩ (ek e)->wp P (K a) h' Q) :
  wp P (bF (bN (aJ x.1.aD) (eU (i:Int) x.1.len))<|.load (.agg [.int .i64, .int .i64, .sl]) (aB x.1.aD (aZ (bP (i:Int)) 3)) λ(r:Int×Int×Sl×Unit)=>
   .alloc [aH 0,aH 0, .slice none 0 0] λa=>.store (some a) [aH r.1,aH r.2.1,dN r.2.2.1] (K a)) h Q:=by
 refine Rr (e:=jT) (x:=x) (y:=e) ok (by omega) (by simpa using he) rfl (z:=(e.1,e.2.1,e.2.2.1.1,())) rfl ?_;refine λel=>?_;have b:Ext h (h.push (.cells [aH 0,aH 0, .slice none 0 0].toArray el)):=Ext.push ..;have o1:cA h.size 1 (h.push (.cells [aH 0,aH 0, .slice none 0 0].toArray el)) ⟨some ⟨h.size,0,none⟩,3,3⟩ [aH 0,aH 0, .slice none 0 0]:=bR rfl (by decide) (by decide);show wp P _ (h.push (.cells [aH 0,aH 0, .slice none 0 0].toArray el)) _;generalize h.push (.cells [aH 0,aH 0, .slice none 0 0].toArray el)=j at b o1⊢;refine Am (ek e) o1 rfl (by intro v c;simp only[ek,eH,lG,or_false]at c;rcases c with rfl|rfl|rfl<;>rfl) λd o2 g m=>?_;exact f d _ (jU.jQ b g λa ha=>by cases ha;exact bM _) o2
theorem VW{m:Int}(ok:(Sh.list jT).ok h x)(hb:Ls (x.2.map dO))(h0:0<=m)(h1:m<=2199023255552) :
  aS P (vY S m x.1) [tI, tB] h λ(y:Int×Bool×Unit) _=>y.1=(qX m (x.2.map dO)).1/\y.2.1=(qX m (x.2.map dO)).2:=by
 have a1:=ok.len;have hlen:x.2.length<=131072:=by have:=hb.1;rwa [cE]at this
 unfold vY aS;have hn:bK .i64 (aQ x.1.len) 1=(x.2.length:Int)-1:=by rw[aN,a1];exact bY (by omega) (by omega)
 rw[hn];refine bL (λ(s:Int×Bool×Int×Unit) h'=>Ext h h'/\∃i:Nat,i<=x.2.length/\s.2.2.1=(i:Int)-1/\s.1=(qX m ((x.2.drop i).map dO)).1/\s.2.1=(qX m ((x.2.drop i).map dO)).2) (λs _=>(s.2.2.1+1).toNat)
  (λt vs h'=>Ext h h'/\t=2/\vs=[aH (qX m (x.2.map dO)).1, .bool (qX m (x.2.map dO)).2]) ⟨Ext.refl _,x.2.length,bM _,rfl,by simp[qX],by simp[qX]⟩ ?_ ?_
 .rintro⟨(c:Int),(d:Bool),(i':Int),u⟩ T ⟨w,i,hi,O,hm,g⟩
  dsimp only at O hm g⊢;subst O;refine aE (λU=>?_) λU=>?_
  .rw[dD]at U
   obtain⟨j,rfl⟩:∃j,i=j+1:=⟨i-1,by omega⟩;have hj:(((j+1:Nat):Int)-1)=(j:Int):=by omega
   rw[hj];obtain⟨e,he⟩:∃e,x.2[j]?=some e:=⟨x.2[j]'(by omega),cK (by omega)⟩;have f:x.2.drop j=e::x.2.drop (j+1):=by
    have a0:=(cQ.1 he).1;rw[<-(cQ.1 he).2,<-gY a0]
   have V:qX m ((x.2.drop j).map dO)=LZ (dO e) (qX m ((x.2.drop (j+1)).map dO)):=by rw[f];rfl
   have ab:=hb.2 (dO e) (dB.2 ⟨e,eL he,rfl⟩);have J:=C4 h0 h1 (hb.drop (j+1));rw[<-Ml]at J;have a3:((x.2.drop (j+1)).map dO).length<=131072:=by rw[cE,cW];omega
   rw[<-hm]at J;have gv:qX m ((x.2.drop (j+1)).map dO)=(c,d):=by rw[hm,g]
   rw[gv]at V;have ao:∀v:Int×Bool,LZ (dO e) (c,d)=v->∀z,Ext T z->(Ext h z/\∃i:Nat,i<=x.2.length/\(j:Int)-1=(i:Int)-1/\v.1=(qX m ((x.2.drop i).map dO)).1/\v.2=(qX m ((x.2.drop i).map dO)).2):=λv hv z C=>⟨w.trans C,j,by omega,rfl,by rw[V,hv],by rw[V,hv]⟩;have al:=(ok.ext w).el he;have r:e.2.2.1.1.len=e.2.2.1.2.length:=al.2.2.1.1;obtain⟨E,G,H,a2,I⟩:=ab;have E:0<=e.1:=E;have G:e.1<=e.2.1:=G;have H:e.2.1<=2199023255552:=H;have I:(e.2.2.1.2.length:Int)<=2199023255552:=I;refine cZ (λt vs h'=>t=0/\Ext T h'/\vs=[aH (LZ (dO e) (c,d)).1, .bool (LZ (dO e) (c,d)).2]) ?_ ?_
   .refine D4 (ok.ext w) he λA a R o3=>?_
    have f0:∀{K:Int->aK} {Q},wp P (K e.1) A Q->wp P (.load (tI) (aB (some a) 0) K) A Q:=λW=>bU (b:=bI) e.1 rfl o3.cells rfl W;have f1:∀{K:Int->aK} {Q},wp P (K e.2.1) A Q->wp P (.load (tI) (aB (some a) 1) K) A Q:=λW=>bU (b:=bI) e.2.1 rfl o3.cells rfl W;refine bU (b:=.sl) e.2.2.1.1 rfl o3.cells rfl (f0 (aE (λf=>aC ⟨rfl,R,?_⟩) λf=>f1 (aE (λo=>f1 (f0 ?_)) λo=>?_)))
    .rw[aU]at f
     unfold LZ;rw[if_pos (show c<(dO e).1 from f)]
    .rw[aY]at f
     rw[dD]at o;rw[aN,r,bY (a:=e.2.1) (by omega) (by omega),aW (by omega) (by omega),bY (by omega) (by omega)];refine aC ⟨rfl,R,?_⟩;unfold LZ;rw[if_neg (show ¬c<(dO e).1 by show ¬c<e.1;omega),if_pos (show(dO e).2.1<=c from o)];show[aH _, .bool d]=[aH (c+((e.2.2.1.2.length:Int)-(e.2.1-e.1))), .bool d]
     congr 2;omega
    .rw[aY]at f
     rw[eS]at o;refine fL (tys:=[tI]) (λ(y:Int×Unit) h'=>y.1=min (c-e.1) e.2.2.1.2.length/\h'=A) ?_ λ⟨(y:Int),_⟩ z C B=>?_
     .refine f0 (aE (λY=>f0 (aC ⟨rfl,Ext.refl _,(bK .i64 c e.1,()),rfl,?_,rfl⟩)) λY=>aC ⟨rfl,Ext.refl _,(aQ e.2.2.1.1.len,()),rfl,?_,rfl⟩)
      .rw[aU,bY (by omega) (by omega),aN,r]at Y
       show bK .i64 c e.1=_;rw[bY (by omega) (by omega)];omega
      .rw[aY,bY (by omega) (by omega),aN,r]at Y
       show aQ e.2.2.1.1.len=_;rw[aN,r];omega
     .obtain⟨B,rfl⟩:=B
      have B:y=min (c-e.1) e.2.2.1.2.length:=B;subst B;refine f0 ?_;rw[aW (by omega) (by omega)];refine aC ⟨rfl,R,?_⟩;unfold LZ;rw[if_neg (show ¬c<(dO e).1 by show ¬c<e.1;omega),if_neg (show ¬(dO e).2.1<=c by show ¬e.2.1<=c;omega)];rfl
   .rintro t vs z ⟨rfl,C,rfl⟩
    refine bG ⟨((LZ (dO e) (c,d)).1,(LZ (dO e) (c,d)).2,()),rfl,?_⟩;dsimp only;rw[bY (by omega) (by omega)];exact aC ⟨λ_=>⟨((LZ (dO e) (c,d)).1,(LZ (dO e) (c,d)).2,(j:Int)-1,()),rfl,ao _ rfl z C,by dsimp only;omega⟩,λZ=>absurd rfl Z⟩
  .rw[eS]at U
   have aw:i=0:=by omega
   subst aw;rw[Ek]at hm g;refine aC ⟨λZ=>absurd Z (by decide),λ_=>⟨w,rfl,?_⟩⟩;show[aH c, .bool d]=_;rw[hm,g]
 .rintro t vs T ⟨w,rfl,rfl⟩
  exact bG ⟨((qX m (x.2.map dO)).1,(qX m (x.2.map dO)).2,()),rfl,aC ⟨rfl,w,(_,_,()),rfl,rfl,rfl⟩⟩
end
section
variable{P:Program}{S:cH}{h:aG}{Q:Nat->bH->aG->Prop}{k:Nat}{rho:Nat->Nat}
variable{rho':Nat->Nat}{h':aG}{s:Sl}{F:Nat->Prop}{i:Nat}{M:Mo}
def tL(r size:Nat)(rho:Nat->Nat)(h:aG)(s:Sl)(vs:bH):Prop:=cA 0 size h s vs/\∀a,s.aD=some a->rho a.block=r
theorem tL.aP{r size:Nat}{vs:bH}(o:tL r size rho h s vs)(c:aV F h h')(b:∀i,i<h.size->F i->rho i≠r)(h0:∀i,i<h.size->rho i=r->rho' i=r):tL r size rho' h' s vs:=
 ⟨c.own o.1 λa ha d=>b _ (o.1.lt ha).2 d (o.2 a ha),λa ha=>h0 _ (o.1.lt ha).2 (o.2 a ha)⟩
def BW(r:Nat)(rho:Nat->Nat)(h:aG)(s:Sl)(l:bB):Prop:=bV 0 .i64 h s l/\∀a,s.aD=some a->rho a.block=r
theorem BW.aP{r:Nat}{l:bB}(o:BW r rho h s l)(c:aV F h h')(b:∀i,i<h.size->F i->rho i≠r)(h0:∀i,i<h.size->rho i=r->rho' i=r):BW r rho' h' s l:=
 ⟨c.qL o.1 λa ha d=>b _ (o.1.own.lt ha).2 d (o.2 a ha),λa ha=>h0 _ (o.1.own.lt ha).2 (o.2 a ha)⟩
def JZ(p:aG->Prop)(rho:Nat->Nat)(h:aG):Prop:=∀h',aV (λi=>0<rho i) h h'->p h'
theorem JZ.now{p:aG->Prop}(k:JZ p rho h):p h:=k h (aV.refl _ h)
theorem JZ.aP{p:aG->Prop}(k:JZ p rho h)(c:aV F h h')(f:∀i,i<h.size->F i->rho i≠0)(h0:∀i,i<h.size->rho i=0->rho' i=0):JZ p rho' h':=λg d=>
 k g ((c.mono λi hi j=>Nat.pos_of_ne_zero (f i hi j)).trans d λi hi b=>by
  rcases Nat.eq_zero_or_pos (rho i)with h|h
  .have b:0<rho' i:=b
   rw[h0 i hi h]at b;omega
  .exact h)
structure DG where
 c:Yv
 bg:Int
 en:Int
 st:Int
abbrev Ep(g:DG):bH:=[dN g.c.1,aH g.bg,aH g.en,aH g.st]
def wY(g:DG):GM:=⟨g.c.2.map λe=>e.2.map hP,g.bg,g.en,g.st⟩
structure Doc where
 b:Addr
 t:Nat
 enc:Int
 limit:Int
 depth:Int
 sb:Sl
 lb:bB
 sa:Sl
 st:Sl
 E:List El
 sd:Sl
 D:List DG
 sn:Sl
 R:List DG
 lost:Int
 sm:Sl
 ms:iO
 sw:Sl
 ws:bB
 op:Bool
 c:Yv
 bg:Int
 en:Int
 gs:Int
 so:Sl
 om:iO
 sv:Sl
 ow:bB
 saved:Int
 last:Int
abbrev Bf(D:Doc):bH:=[aH D.enc,aH D.limit,aH D.depth,dN D.sb, .pointer (some (Cq D.t)),dN D.sd,dN D.sn,aH D.lost,dN D.sm,dN D.sw, .bool D.op,dN D.c.1,aH D.bg,aH D.en,aH D.gs,dN D.so,dN D.sv,aH D.saved,aH D.last]
abbrev wm(D:Doc):bH:=[aH D.enc,aH D.limit,dN D.sa,dN D.st, .slice none 0 0]
structure DocP(k:Nat)(rho:Nat->Nat)(h:aG)(D:Doc):Prop where
 ot:tL (k+2) 1 rho h ⟨some (Cq D.t),5,5⟩ (wm D)
 ea:BW 0 rho h D.sa (D.E.map (·.1))
 et:BW 0 rho h D.st (D.E.map (·.2))
 HX:JZ (λh=>kW .u8 h D.sb D.lb) rho h
 dn:tL (k+6) 4 rho h D.sd (D.D.flatMap Ep)
 dk:∀g∈D.D,JZ (λh=>Ba.ok h g.c) rho h
 nx:JZ (λh=>Rd 4 h D.sn (D.R.flatMap Ep)) rho h
 nc:D.sn.len<=D.sn.cap/\D.sn.cap<2^63
 nk:∀g∈D.R,JZ (λh=>Ba.ok h g.c) rho h
 ma:tL (k+3) 2 rho h D.sm (D.ms.flatMap Cy)
 wa:BW (k+4) rho h D.sw D.ws
 nw:D.op=true->tL (k+5) 1 rho h D.c.1 (D.c.2.map λy=>dN y.1)/\(∀y∈D.c.2,JZ (λh=>(Sh.list jT).ok h y) rho h)/\tL (k+7) 2 rho h D.so (D.om.flatMap Cy)/\BW (k+8) rho h D.sv D.ow
 kn:eM D.enc
 li:0<=D.limit/\D.limit<=65536
 fi:∀a,a∈D.E.map (·.1)->0<bX D.enc a
structure eZ(k:Nat)(rho:Nat->Nat)(h:aG)(D:Doc):Prop extends DocP k rho h D where
 ob:tL (k+1) 1 rho h ⟨some D.b,19,19⟩ (Bf D)
variable{D:Doc}
theorem DocP.aP{rho':Nat->Nat}{h':aG}{F:Nat->Prop}(d:DocP k rho h D)(c:aV F h h')(j:∀i,i<h.size->F i->rho i≠0/\¬(k+2<=rho i/\rho i<=k+8))(h0:∀i,i<h.size->rho i=0\/(k+2<=rho i/\rho i<=k+8)->rho' i=rho i):DocP k rho' h' D where
 ot:=d.ot.aP c (λi hi b=>by have:=j i hi b;omega) λi hi f=>by rw[h0 i hi (by omega)];exact f
 ea:=d.ea.aP c (λi hi b=>by have:=j i hi b;omega) λi hi f=>by rw[h0 i hi (by omega)];exact f
 et:=d.et.aP c (λi hi b=>by have:=j i hi b;omega) λi hi f=>by rw[h0 i hi (by omega)];exact f
 HX:=d.HX.aP c (λi hi b=>(j i hi b).1) λi hi f=>by rw[h0 i hi (by omega)];exact f
 dn:=d.dn.aP c (λi hi b=>by have:=j i hi b;omega) λi hi f=>by rw[h0 i hi (by omega)];exact f
 dk:=λg m=>(d.dk g m).aP c (λi hi b=>(j i hi b).1) λi hi f=>by rw[h0 i hi (by omega)];exact f
 nx:=d.nx.aP c (λi hi b=>(j i hi b).1) λi hi f=>by rw[h0 i hi (by omega)];exact f
 nc:=d.nc
 nk:=λg m=>(d.nk g m).aP c (λi hi b=>(j i hi b).1) λi hi f=>by rw[h0 i hi (by omega)];exact f
 ma:=d.ma.aP c (λi hi b=>by have:=j i hi b;omega) λi hi f=>by rw[h0 i hi (by omega)];exact f
 wa:=d.wa.aP c (λi hi b=>by have:=j i hi b;omega) λi hi f=>by rw[h0 i hi (by omega)];exact f
 nw:=λw=>by
  obtain⟨o,r,t,u⟩:=d.nw w;exact⟨o.aP c (λi hi b=>by have:=j i hi b;omega) λi hi f=>by rw[h0 i hi (by omega)];exact f,λy z=>(r y z).aP c (λi hi b=>(j i hi b).1) λi hi f=>by rw[h0 i hi (by omega)];exact f,
   t.aP c (λi hi b=>by have:=j i hi b;omega) λi hi f=>by rw[h0 i hi (by omega)];exact f,u.aP c (λi hi b=>by have:=j i hi b;omega) λi hi f=>by rw[h0 i hi (by omega)];exact f⟩
 kn:=d.kn
 li:=d.li
 fi:=d.fi
theorem eZ.aP{rho':Nat->Nat}{h':aG}{F:Nat->Prop}(d:eZ k rho h D)(c:aV F h h')(f:∀i,i<h.size->F i->rho i≠0/\¬(k+1<=rho i/\rho i<=k+8))(h0:∀i,i<h.size->rho i=0\/(k+1<=rho i/\rho i<=k+8)->rho' i=rho i):eZ k rho' h' D where
 toDocP:=d.toDocP.aP c (λi hi b=>by have:=f i hi b;omega) λi hi g=>h0 i hi (by omega)
 ob:=d.ob.aP c (λi hi b=>by have:=f i hi b;omega) λi hi g=>by rw[h0 i hi (by omega)];exact g
theorem eZ.zr{h':aG}(d:eZ k rho h D)(e:Ext h h'):eZ k (Hist.zr h rho) h' D:=
 d.aP (aV.bD (F:=λ_=>False) e) (λ_ _ f=>f.elim) λi hi _=>tD hi
theorem eZ.ext(d:eZ k rho h D)(e:Ext h h'):eZ k rho h' D:=
 d.aP (aV.bD (F:=λ_=>False) e) (λ_ _ f=>f.elim) λ_ _ _=>rfl
theorem eZ.rd(r:eZ k rho h D){b:B}(x:b.den){K:b.den->aK}(d:(Bf D)[i]?=some (b.inj x))(c:wp P (K x) h Q) :
  wp P (bF (aJ (some D.b))<|bF (aJ (some D.b))<|.load (.one b) (aB (some D.b) i) K) h Q:=
 aL rfl (aL rfl (bU (b:=b) x rfl r.ob.1.cells d c))
theorem eZ.yh(r:eZ k rho h D){b:B}(x:b.den){K:b.den->aK}(d:(wm D)[i]?=some (b.inj x))(c:wp P (K x) h Q) :
  wp P (bF (aJ (some (Cq D.t)))<|bF (aJ (some (Cq D.t)))<|.load (.one b) (aB (some (Cq D.t)) i) K) h Q:=
 aL rfl (aL rfl (bU (b:=b) x rfl r.ot.1.cells d c))
theorem eZ.wr(r:eZ k rho h D)(d:Doc){v:Value}{K:aK}(hi:i<19)(g:flat v=true)(t:Bf d=(Bf D).set i v)(hb:d.b=D.b)
  (m:∀h',aV (λi=>i=D.b.block) h h'->DocP k rho h' D->DocP k rho h' d)
  (j:∀h',eZ k rho h' d->aV (λi=>i=D.b.block) h h'->wp P K h' Q) :
  wp P (bF (aJ (some D.b))<|bF (aJ (some D.b))<|.store (aB (some D.b) i) [v] K) h Q:=by
 refine aL rfl (aL rfl (fB v r.ob.1 (by simpa[Bf] using hi) g λh' o u=>?_));have c:aV (λi=>i=D.b.block) h h':=aV.dK u λa ha _=>by cases ha;rfl
 have f:=r.ob.2 D.b rfl;refine j h' {toDocP:=m h' c (r.toDocP.aP c (λi hi e=>by subst e;omega) λ_ _ _=>rfl),ob:=⟨by rw[hb,t];exact o,λa ha=>by cases ha;rw[hb];exact f⟩} c
structure DocM(D:Doc)(M:Mo):Prop where
 E:D.E=M.E
 dn:D.D.map wY=M.lost++M.done
 lo:D.lost=M.lost.length
 nx:D.R.map wY=M.next
 ms:D.ms=M.marks
 ws:D.ws=M.watched
 op:D.op=M.now.isSome
 nw:∀q,M.now=some q->(D.c.2.map λe=>e.2.map hP)=q.lI/\D.bg=q.bg/\D.om=q.om/\D.ow=q.ow
 sv:D.saved=M.saved
 la:D.last=M.last
 dp:D.depth=M.depth
 e0:iH 0 0 (bJ D.enc D.lb)=M.E0
 li:(D.lb.length:Int)<=D.limit
def kA(k:Nat)(h:aG)(rho:Nat->Nat)(h':aG)(D:Doc)(M:Mo):Prop:=
 ∃rho' D',cX k h rho h' rho'/\eZ k rho' h' D'/\DocM D' M/\D'.b=D.b/\D'.enc=D.enc/\D'.limit=D.limit
theorem kA.ext(d:eZ k rho h D)(m:DocM D M)(e:Ext h h'):kA k h rho h' D M:=
 ⟨_,D,cX.mV e,d.zr e,m,rfl,rfl,rfl⟩
theorem Io(r:eZ k rho h D)(a:Int):aS P (jD S (some D.b) a) [tB] h λ(y:Bool×Unit) _=>y.1=true↔0<=a/\a<=D.E.length:=by
 unfold jD aS;have g:aQ D.sa.len=(D.E.length:Int):=by rw[aN,r.ea.1.len,cE]
 refine bZ (0<=a/\a<=D.E.length) ?_ λd j f hb=>aC ⟨rfl,f,(d,()),rfl,hb⟩;refine aE (λc=>?_) λc=>aC ⟨rfl,Ext.refl _,false,rfl,?_⟩
 .rw[dD]at c
  refine r.rd (b:=.ptr) (some (Cq D.t)) rfl (r.yh (b:=.sl) D.sa rfl (aC ⟨rfl,Ext.refl _,_,rfl,?_⟩));rw[gG,g];exact⟨λh=>⟨c,h⟩,λh=>h.2⟩
 .rw[eS]at c
  exact⟨λh=>(by cases h),λh=>(by omega)⟩
theorem Zc(r:eZ k rho h D)(m:DocM D M)(hb:M.lost.length+M.done.length<=4294967296):aS P (qQ S (some D.b)) [tI, tI] h λ(y:Int×Int×Unit) _=>y.1=M.done.length/\y.2.1=M.next.length:=by
 unfold qQ aS;have c:=r.dn.1.1;rw[gM (m:=4) λ_=>rfl]at c;have d:=r.nx.now.1;rw[gM (m:=4) λ_=>rfl]at d;have f:=congrArg List.length m.dn;have g:=congrArg List.length m.nx;rw[cE,bQ]at f;rw[cE]at g;have j:=m.lo;refine r.rd (b:=.sl) D.sd rfl (r.rd (b:=bI) D.lost rfl (r.rd (b:=.sl) D.sn rfl ?_));rw[aN,aN,bY (by omega) (by omega)];exact aC ⟨rfl,Ext.refl _,(_,_,()),rfl,by show(D.sd.len:Int)-D.lost=_;omega,by show(D.sn.len:Int)=_;omega⟩
theorem V3(r:eZ k rho h D)(m:DocM D M):aS P (oH S (some D.b)) [tI] h λ(y:Int×Unit) _=>y.1=M.st:=by
 unfold oH aS;have d:=r.dn.1.1;rw[gM (m:=4) λ_=>rfl]at d;have z:=r.dn.1.2.1;have A:=r.dn.1.2.2.1;refine r.rd (b:=.sl) D.sd rfl (aE (λf=>?_) λf=>?_)
 .rw[cM,aN]at f
  have h0:D.D=[]:=At (by omega);have o:=m.dn;rw[h0]at o;refine aC ⟨rfl,Ext.refl _,(0,()),rfl,?_⟩;unfold Mo.st;rw[<-o];rfl
 .rw[dS,aN]at f
  obtain⟨c,g,j⟩:∃c g,D.D=c++[g]:=by
   rcases Mv D.D with h0|⟨c,g,h0⟩
   .rw[h0]at d;simp at d;omega
   .exact⟨c,g,by rw[h0,JS]⟩
  have B:D.D.length=c.length+1:=by rw[j];simp
  have hi:D.D[c.length]?=some g:=by rw[j];simp
  refine r.rd (b:=.sl) D.sd rfl (r.rd (b:=.sl) D.sd rfl ?_);have w:bK .i64 (aQ D.sd.len) 1=(c.length:Int):=by rw[aN,bY (by omega) (by omega)];omega
  rw[w];obtain⟨a,ea,t⟩:=sQ (m:=4) (λ_=>rfl) (by decide) r.dn.1 hi;refine aL (fA.2 ⟨by rw[ea];rfl,kN.2 ⟨by omega,by omega⟩⟩) ?_;have u:aB D.sd.aD (aZ (bP (c.length:Int)) 4)=some (a.add (c.length*4)):=by rw[ea,hO,eP,cR];rfl
  rw[u];refine aL rfl (bU (b:=bI) g.st rfl t rfl (aC ⟨rfl,Ext.refl _,(g.st,()),rfl,?_⟩));unfold Mo.st;rw[<-m.dn,j,dP];exact(Dq 0 (c.map wY) (wY g)).symm
theorem qo(r:eZ k rho h D)(m:DocM D M):wp P (uA S (some D.b)) h λtg vs h'=>tg=0/\vs=[]/\kA k h rho h' D M.save:=by
 unfold uA;refine r.rd (b:=.bool) D.op rfl (aE (λd=>?_) λd=>?_)
 .rw[dF,m.op]at d
  have w:M.now=none:=by cases h:M.now with
   |none=>rfl
   |some q=>rw[h]at d;cases d
  refine aM (V3 r m) λ⟨(y:Int),_⟩ t f j=>?_;have j:y=M.st:=j;subst j;have g:M.save={M with saved:=M.st}:=by unfold Mo.save;rw[w];rfl
  have o:=r.zr f;refine o.wr {D with saved:=M.st} (i:=17) (by decide) rfl rfl rfl (λh' c p=>⟨p.ot,p.ea,p.et,p.HX,p.dn,p.dk,p.nx,p.nc,p.nk,p.ma,p.wa,p.nw,p.kn,p.li,p.fi⟩) λu z c2=>?_;refine aC ⟨rfl,rfl,_,_,(cX.mV f).trans (cX.of c2 (λi hi e=>by subst e;rw[o.ob.2 D.b rfl];omega) λi t u=>by have:=c2.2.2;have:=qN (rho:=rho) (h:=h) (i:=i) (by have:=f.1;omega);exact this),z,?_,rfl,rfl,rfl⟩;rw[g];exact⟨m.E,m.dn,m.lo,m.nx,m.ms,m.ws,m.op,m.nw,rfl,m.la,m.dp,m.e0,m.li⟩
 .rw[eG,m.op]at d
  have g:M.save=M:=by
   unfold Mo.save;cases h:M.now with
   |none=>rw[h]at d;cases d
   |some q=>rfl
  rw[g];exact aC ⟨rfl,rfl,kA.ext r m (Ext.refl _)⟩
end
section
variable{P:Program}{S:cH}{h:aG}{Q:Nat->bH->aG->Prop}{k:Nat}{rho:Nat->Nat}{D:Doc}
variable{s:Sl}{i:Nat}{h':aG}{cs:bH}
open Classical in
noncomputable def nr(h:aG)(rho:Nat->Nat)(s:Sl)(r:Nat):Nat->Nat:=λi=>if i<h.size then rho i else if fZ s i then r else 0
theorem wP{r:Nat}(hi:i<h.size):nr h rho s r i=rho i:=if_pos hi
theorem EL{r:Nat}(hi:h.size<=i)(b:fZ s i):nr h rho s r i=r:=by unfold nr;rw[if_neg (by omega),if_pos b]
theorem Kk{r:Nat}(hi:h.size<=i)(b:¬fZ s i):nr h rho s r i=0:=by unfold nr;rw[if_neg (by omega),if_neg b]
theorem Je{r:Nat}(e:Ext h h')(f:k<r/\r<=k+10):cX k h rho h' (nr h rho s r):=
 ⟨aV.bD e,λi hi _=>wP hi,λi hi b=>by
  by_cases c:i<h.size
  .rw[wP c]
   rcases b with b|b
   .omega
   .exact .inr b
  .by_cases d:fZ s i
   .rw[EL (by omega) d];exact .inr f
   .rw[Kk (by omega) d];exact .inl rfl⟩
structure LS(k:Nat)(rho:Nat->Nat)(h:aG)(D:Doc)(cs:bH):Prop where
 p:DocP k rho h D
 o:tL (k+1) 1 rho h ⟨some D.b,19,19⟩ cs
theorem eZ.w(d:eZ k rho h D):LS k rho h D (Bf D):=⟨d.toDocP,d.ob⟩
theorem LS.ext(w:LS k rho h D cs)(e:Ext h h'):LS k rho h' D cs:=
 ⟨w.p.aP (aV.bD (F:=λ_=>False) e) (λ_ _ f=>f.elim) λ_ _ _=>rfl,w.o.aP (aV.bD (F:=λ_=>False) e) (λ_ _ f=>f.elim) λ_ _ h=>h⟩
theorem LS.nr{s:Sl}{r:Nat}{h':aG}{cs:bH}(w:LS k rho h D cs)(e:Ext h h'):LS k (Hist.nr h rho s r) h' D cs:=
 ⟨w.p.aP (aV.bD (F:=λ_=>False) e) (λ_ _ f=>f.elim) λi hi _=>wP hi,w.o.aP (aV.bD (F:=λ_=>False) e) (λ_ _ f=>f.elim) λi hi h=>by rw[wP hi];exact h⟩
theorem LS.done{c:Doc}(w:LS k rho h D cs)(hb:c.b=D.b)(d:Bf c=cs)(f:DocP k rho h D->DocP k rho h c):eZ k rho h c:={toDocP:=f w.p,ob:=by rw[hb,d];exact w.o}
theorem LS.rd{b:B}(w:LS k rho h D cs)(x:b.den){K:b.den->aK}(d:cs[i]?=some (b.inj x))(c:wp P (K x) h Q) :
  wp P (bF (aJ (some D.b))<|bF (aJ (some D.b))<|.load (.one b) (aB (some D.b) i) K) h Q:=
 aL rfl (aL rfl (bU (b:=b) x rfl w.o.1.cells d c))
theorem LS.put(new:bH){K:aK}(w:LS k rho h D cs)(hi:i+new.length<=cs.length)(h0:0<new.length)(j:∀v∈new,flat v=true)
  (m:∀h',LS k rho h' D (cs.take i++new++cs.drop (i+new.length))->aV (λi=>i=D.b.block) h h'->h'.size=h.size->wp P K h' Q) :
  wp P (.store (aB (some D.b) i) new K) h Q:=by
 have g:=w.o.1;have f:cs=cs.take i++(cs.drop i).take new.length++cs.drop (i+new.length):=by
  rw[<-Ej,dX,eY,eY]
 rw[f]at g;have y:=w.o.2 D.b rfl;have d:((cs.drop i).take new.length).length=new.length:=by rw[dJ,cW];omega
 refine qF (mid:=(cs.drop i).take new.length) new g (by rw[dJ];omega) d.symm (λe=>by rw[e]at d;simp at d;omega) j λh' r t u=>?_;have c:aV (λi=>i=D.b.block) h h':=aV.dK t λa ha _=>by cases ha;rfl
 exact m h' ⟨w.p.aP c (λi hi e=>by subst e;omega) λ_ _ _=>rfl,r,w.o.2⟩ c u
theorem LS.Di{v:Value}{K:aK}(w:LS k rho h D cs)(hi:i<cs.length)(c:flat v=true)
  (d:∀h',LS k rho h' D (cs.take i++[v]++cs.drop (i+1))->aV (λi=>i=D.b.block) h h'->h'.size=h.size->wp P K h' Q) :
  wp P (bF (aJ (some D.b))<|bF (aJ (some D.b))<|.store (aB (some D.b) i) [v] K) h Q:=
 aL rfl (aL rfl (w.put [v] hi (gB rfl) (by intro x f;rw[dE.1 f];exact c) d))
theorem kI{b:Addr}(g:rho b.block=k+1)(c:aV (λi=>i=b.block) h h')(j:h'.size=h.size):cX k h rho h' rho:=
 cX.of c (λi hi e=>by subst e;omega) λi d f=>by omega
theorem gu(r:eZ k rho h D){M:Mo}{N:Nat}(m:DocM D M)(o:iF D.enc D.limit M N)(hN:N<=68719476736){a:Int}(hM:M.marks.length<=4294967295/\M.watched.length<=4294967295)(a4:cY .i64 a) :
  wp P (oG S (some D.b) a) h λtg vs h'=>tg=0/\vs=[aH (M.Hi a).1]/\kA k h rho h' D (M.Hi a).2:=by
 unfold oG Mo.Hi;refine r.rd (b:=.bool) D.op rfl (aE (λj=>?_) λj=>?_)
 .rw[m.op]at j
  rw[if_pos j];exact aC ⟨rfl,rfl,kA.ext r m (Ext.refl _)⟩
 rw[m.op]at j;rw[if_neg (by rw[j];decide)];refine aM (Io r a) λ⟨(y:Bool),_⟩ h1 K u=>?_;have u:y=true↔0<=a/\a<=D.E.length:=u;have z:M.ins a↔0<=a/\a<=D.E.length:=by unfold Mo.ins;rw[m.E]
 dsimp only;refine aE (λd=>?_) λd=>?_
 .rw[dF]at d
  rw[if_neg (λhh=>by rw[u.2 (z.1 hh)]at d;cases d)];exact aC ⟨rfl,rfl,kA.ext r m K⟩
 rw[eG]at d;rw[if_pos (z.2 (u.1 d))];have a0:=cX.mV (k:=k) (rho:=rho) K;have w1:=(r.zr K).w;have G:=w1.o.2 D.b rfl;refine w1.Di (gB rfl) rfl λh2 w2 c2 z2=>aL rfl (aL rfl (w2.put [.slice none 0 0,aH a,aH 0,aH 0] (gB rfl) (gB rfl) (by intro v hv;simp only[eH,lG,or_false]at hv;rcases hv with rfl|rfl|rfl|rfl<;>rfl) λR V c3 z3=>?_));have a1:=(a0.trans (kI G c2 z2)).trans (kI G c3 z3);refine V.rd (b:=.sl) D.sm rfl ?_;refine aM (Xg V.p.ma.1 (by rw[m.ms];exact hM.1)) λ⟨(sm:Sl),_⟩ h4 e4 om=>?_;have om:iX R.size h4 sm D.ms:=om;have W:=V.nr (s:=sm) (r:=k+7) e4;have H:=a1.trans (Je (s:=sm) (r:=k+7) e4 (by omega));have am:tL (k+7) 2 (Hist.nr R (Hist.zr h rho) sm (k+7)) h4 sm (D.ms.flatMap Cy):=⟨cA.mono om (cO _),λb hb=>EL (om.lt hb).1 ⟨b,hb,rfl⟩⟩;generalize Hist.nr R (Hist.zr h rho) sm (k+7)=g at W H am;have T:=W.o.2 D.b rfl;refine W.Di (gB rfl) rfl λA Y c5 z5=>?_;have a2:=H.trans (kI T c5 z5);have ab:=am.aP (rho':=g) c5 (λi hi e=>by subst e;omega) λ_ _ h=>h;refine Y.rd (b:=.sl) D.sw rfl ?_;refine aM (MT Y.p.wa.1.lO (by rw[m.ws];omega)) λ⟨(sw:Sl),_⟩ h6 O ow=>?_;have ow:bV A.size .i64 h6 sw D.ws:=ow;have Z:=Y.nr (s:=sw) (r:=k+8) O;have I:=a2.trans (Je (s:=sw) (r:=k+8) O (by omega));have B:=ab.aP (rho':=Hist.nr A g sw (k+8)) (aV.bD (F:=λ_=>False) O) (λ_ _ f=>f.elim) λi hi h=>by rw[wP hi];exact h
 have aw:BW (k+8) (Hist.nr A g sw (k+8)) h6 sw D.ws:=⟨ow.mono (cO _),λb hb=>EL (ow.own.lt hb).1 ⟨b,hb,rfl⟩⟩;generalize Hist.nr A g sw (k+8)=t at Z I B aw;have U:=Z.o.2 D.b rfl;refine Z.Di (gB rfl) rfl λh7 w7 J z7=>?_;have a3:=I.trans (kI U J z7);have al:=B.aP (rho':=t) J (λi hi e=>by subst e;omega) λ_ _ h=>h;have ao:=aw.aP (rho':=t) J (λi hi e=>by subst e;omega) λ_ _ h=>h;refine aC ⟨rfl,rfl,t,{D with op:=true,c:=(⟨none,0,0⟩,[]),bg:=a,en:=0,gs:=0,so:=sm,om:=D.ms,sv:=sw,ow:=D.ws},a3,?_,?_,rfl,rfl,rfl⟩
 .refine w7.done rfl rfl λp=>⟨p.ot,p.ea,p.et,p.HX,p.dn,p.dk,p.nx,p.nc,p.nk,p.ma,p.wa,λ_=>⟨⟨cA.nil .., λb hb=>(by cases hb)⟩,λy u=>(by cases u),al,ao⟩,p.kn,p.li,p.fi⟩
 .have hn:M.now=none:=by cases h:M.now with
   |none=>rfl
   |some q=>rw[h]at j;cases j
  have hE:M.E=M.C:=Mo.xK hn;exact⟨m.E.trans hE,m.dn,m.lo,m.nx,m.ms,m.ws,rfl,λq hq=>by cases hq;exact⟨rfl,rfl,m.ms,m.ws⟩,m.sv,m.la,m.dp,m.e0,m.li⟩
end
section
variable{P:Program}{S:cH}{h:aG}{Q:Nat->bH->aG->Prop}{k:Nat}{rho:Nat->Nat}{D:Doc}
variable{M:Mo}
theorem gy(r:eZ k rho h D)(m:DocM D M){s:Sl}{l:bB}(C:kW .i64 h s l)(hl:l.length<=4294967296) :
  wp P (sE S (some D.b) s) h λtg vs h'=>tg=0/\vs=[aH (M.Kv l).1]/\kA k h rho h' D (M.Kv l).2:=by
 unfold sE Mo.Kv;have hn:aQ s.len=(l.length:Int):=by rw[aN,C.len]
 rw[hn];refine bL (λ(x:Int×Unit) h'=>Ext h h'/\∃i:Nat,x.1=i/\i<=l.length/\∀v∈l.take i,M.ins v) (λx _=>((l.length:Int)-x.1).toNat)
  (λt vs h'=>Ext h h'/\((t=2/\vs=[]/\∀v∈l,M.ins v)\/(t=1/\vs=[aH 2]/\¬∀v∈l,M.ins v))) ⟨Ext.refl _,0,rfl,cO _,λv G=>by simp at G⟩ ?_ ?_
 .rintro⟨(si:Int),u⟩ I ⟨d,i,hi,hle,c⟩
  dsimp only at hi⊢;subst hi;refine aE (λR=>?_) λR=>?_
  .rw[aU]at R
   have W:i<l.length:=by omega
   refine qZ (C.ext d) (by omega) (by omega) λ_=>?_;have G:l[i]?=some (l.getD (i:Int).toNat 0):=by simp[List.getD,cK W]
   generalize l.getD (i:Int).toNat 0=v at G⊢;refine aM (Io (r.ext d) v) λ⟨(y:Bool),_⟩ O A J=>?_;have J:y=true↔0<=v/\v<=D.E.length:=J;have B:M.ins v↔0<=v/\v<=D.E.length:=by unfold Mo.ins;rw[m.E]
   dsimp only;refine aE (λf=>?_) λf=>?_
   .rw[dF]at f
    exact aC ⟨λg=>absurd g (by decide),λ_=>⟨d.trans A, .inr ⟨rfl,rfl,λg=>by rw[J.2 (B.1 (g v (eL G)))]at f;cases f⟩⟩⟩
   .rw[eG]at f
    have g:=C.max;have ab:=C.cap;rw[aW (by omega) (by omega)];refine aC ⟨λ_=>⟨((i:Int)+1,()),rfl,⟨d.trans A,i+1,by push_cast;rfl,by omega,λz j=>?_⟩,by dsimp only;omega⟩,λg=>absurd rfl g⟩;rw[eN,G]at j;rcases dH.1 j with j|j
    .exact c z j
    .simp at j;subst j;exact B.2 (J.1 f)
  .rw[aY]at R
   have:i=l.length:=by omega
   subst this;rw[fH]at c;exact aC ⟨λg=>absurd g (by decide),λ_=>⟨d, .inl ⟨rfl,rfl,c⟩⟩⟩
 .rintro t vs I ⟨d,⟨rfl,rfl,c⟩|⟨rfl,rfl,c⟩⟩
  .rw[if_pos c]
   refine bG (bO ?_);refine aM (MT (C.ext d) hl) λ⟨(sw:Sl),_⟩ O A ow=>?_;have ow:bV I.size .i64 O sw l:=ow;have Z:=cX.mV (k:=k) (rho:=rho) d;have T:=(r.zr d).w.nr (s:=sw) (r:=k+4) A;have K:=Z.trans (Je (s:=sw) (r:=k+4) A (by omega));have U:BW (k+4) (Hist.nr I (Hist.zr h rho) sw (k+4)) O sw l:=⟨ow.mono (cO _),λb hb=>EL (ow.own.lt hb).1 ⟨b,hb,rfl⟩⟩;generalize Hist.nr I (Hist.zr h rho) sw (k+4)=H at T K U;have Y:=T.o.2 D.b rfl;refine T.Di (gB rfl) rfl λh3 w3 c3 z3=>?_;have V:=U.aP (rho':=H) c3 (λi hi e=>by subst e;omega) λ_ _ h=>h;refine aC ⟨rfl,rfl,H,{D with sw:=sw,ws:=l},K.trans (kI Y c3 z3),?_,?_,rfl,rfl,rfl⟩
   .exact w3.done rfl rfl λp=>⟨p.ot,p.ea,p.et,p.HX,p.dn,p.dk,p.nx,p.nc,p.nk,p.ma,V,p.nw,p.kn,p.li,p.fi⟩
   .exact⟨m.E,m.dn,m.lo,m.nx,m.ms,rfl,m.op,m.nw,m.sv,m.la,m.dp,m.e0,m.li⟩
  .rw[if_neg c]
   exact oF (by decide) (bG ⟨(2,()),rfl,aC ⟨rfl,rfl,kA.ext r m d⟩⟩)
theorem PQ{name a:Int}:∀{l:iO},(∀e∈l,e.1<name)->qE name a l=l++[(name,a)]
 |[],_=>rfl
 |e::l,h=>by
  unfold qE;rw[if_pos (h e (eO ..)),PQ λx b=>h x (eK _ b)];rfl
theorem Kl{name a:Int}{e:Int×Int}(he:name<=e.1):∀{l:iO},(∀x∈l,x.1<name)->qE name a (l++[e])=l++[(name,a)]++(if e.1=name then [] else [e])
 |[],_=>by
  show qE name a [e]=_;unfold qE;rw[if_neg (by omega)];by_cases h:e.1=name
  .rw[if_pos h,if_pos h];rfl
  .rw[if_neg h,if_neg h];rfl
 |x::l,h=>by
  show qE name a (x::(l++[e]))=_;unfold qE;rw[if_pos (h x (eO ..)),Kl he λy b=>h y (eK _ b)];rfl
theorem TO{name a:Int}{e:Int×Int}:∀{l:iO},(∃x∈l,name<=x.1)->qE name a (l++[e])=qE name a l++[e]
 |[],⟨x,b,_⟩=>by cases b
 |y::l,⟨x,b,d⟩=>by
  show qE name a (y::(l++[e]))=_;by_cases c:y.1<name
  .unfold qE
   rw[if_pos c,if_pos c];rcases eH.1 b with rfl|b
   .omega
   .rw[TO ⟨x,b,d⟩];rfl
  .unfold qE
   rw[if_neg c,if_neg c];split<;>rfl
theorem Xp(r:eZ k rho h D)(m:DocM D M)(so:M.marks.Pairwise λx y=>x.1<y.1)(hM:M.marks.length<=1073741824){name a:Int}(hf:cY .i64 name/\cY .i64 a) :
  wp P (mD S (some D.b) name a) h λtg vs h'=>tg=0/\vs=[aH (M.X6 name a).1]/\kA k h rho h' D (M.X6 name a).2:=by
 unfold mD Mo.X6;refine aM (UQ (a:=name)) λ⟨(y:Bool),_⟩ h1 e1 I=>?_;have I:y=true↔OB name:=I;dsimp only;refine aE (λA=>?_) λA=>?_
 .rw[dF]at A
  rw[if_neg (λY=>by rw[I.2 Y]at A;cases A)];exact aC ⟨rfl,rfl,kA.ext r m e1⟩
 rw[eG]at A;rw[if_pos (I.1 A)];clear I A;refine aM (Io (r.ext e1) a) λ⟨(y:Bool),_⟩ G e2 I=>?_;have I:y=true↔0<=a/\a<=D.E.length:=I;have aw:M.ins a↔0<=a/\a<=D.E.length:=by unfold Mo.ins;rw[m.E]
 dsimp only;refine aE (λJ=>?_) λJ=>?_
 .rw[dF]at J
  rw[if_neg (λY=>by rw[I.2 (aw.1 Y)]at J;cases J)];exact aC ⟨rfl,rfl,kA.ext r m (e1.trans e2)⟩
 rw[eG]at J;rw[if_pos (aw.2 (I.1 J))];have Z:=e1.trans e2;have a5:=m.ms;rw[<-a5]at so hM;refine bL (λ(x:Sl×Bool×Int×Unit) h'=>Ext h h'/\G.size<=h'.size/\∃i:Nat,x.2.2.1=i/\i<=D.ms.length/\iX G.size h' x.1 (if x.2.1 then qE name a (D.ms.take i) else D.ms.take i)/\(if x.2.1 then ∃e∈D.ms.take i,name<=e.1 else ∀e∈D.ms.take i,e.1<name)) (λx _=>((D.ms.length:Int)-x.2.2.1).toNat)
  (λt vs h'=>Ext h h'/\G.size<=h'.size/\t=2/\∃q f,vs=[dN q, .bool f]/\iX G.size h' q (if f then qE name a D.ms else D.ms)/\(f=false->∀e∈D.ms,e.1<name)) ⟨Z,bM _,0,rfl,cO _,cA.nil .., λe he=>by simp at he⟩ ?_ ?_
 .rintro⟨(q:Sl),(f:Bool),(si:Int),u⟩ B ⟨C,s3,i,hi,hle,H,z⟩
  dsimp only at hi H z⊢;subst hi;have r3:=r.ext C;refine r3.rd (b:=.sl) D.sm rfl ?_;have b0:aQ D.sm.len=(D.ms.length:Int):=by rw[aN,iX.len r3.ma.1]
  rw[b0];refine aE (λA=>?_) λA=>?_
  .rw[aU]at A
   have a4:i<D.ms.length:=by omega
   have K:D.ms.take (i+1)=D.ms.take i++[el D.ms i]:=by rw[eN,ED a4];rfl
   generalize bt:el D.ms i=e at K;have cd:(D.ms.take i).length=i:=by rw[dJ];omega
   have b9:(if f then qE name a (D.ms.take i) else D.ms.take i).length<=i+1:=by
    split
    .have:=L6 (name:=name) (a:=a) (l:=D.ms.take i);omega
    .omega
   refine cZ (λt vs h'=>t=0/\∃c d,vs=[dN c, .bool d]/\Ext h h'/\G.size<=h'.size/\iX G.size h' c (if d then qE name a (D.ms.take (i+1)) else D.ms.take (i+1))/\(if d then ∃e∈D.ms.take (i+1),name<=e.1 else ∀e∈D.ms.take (i+1),e.1<name)) ?_ ?_
   .refine r3.rd (b:=.sl) D.sm rfl (PX r3.ma.1 rfl a4 ?_)
    rw[bt];refine λab=>?_;have a2:Ext B (B.push (.cells (Cy (0,0)).toArray ab)):=Ext.push ..;have a8:cA B.size 1 (B.push (.cells (Cy (0,0)).toArray ab)) ⟨some ⟨B.size,0,none⟩,2,2⟩ (Cy (0,0)):=bR rfl (by decide) (by decide);show wp P _ (B.push (.cells (Cy (0,0)).toArray ab)) _;generalize B.push (.cells (Cy (0,0)).toArray ab)=g4 at a2 a8⊢;refine Am (Cy e) a8 rfl (by intro v hv;simp only[Cy,eH,lG,or_false]at hv;rcases hv with rfl|rfl<;>rfl) λh4 W u4 z4=>?_;have R:Ext B h4:=jU.jQ a2 u4 λx g=>by cases g;exact bM _
    have b3:=(aV.bD (F:=λ_=>False) R).own H λ_ _ x=>x;have cg:=R.1;refine cZ (λt vs h'=>t=0/\∃c d,vs=[dN c, .bool d]/\Ext h h'/\h4.size<=h'.size/\cA B.size 1 h' ⟨some ⟨B.size,0,none⟩,2,2⟩ (Cy e)/\iX G.size h' c (if d then (if f then qE name a (D.ms.take i) else D.ms.take i++[(name,a)]) else D.ms.take i)/\(d=true↔f=true\/name<=e.1)/\(∀b,c.aD=some b->b.block≠B.size)) ?_ ?_
    .have a0:∀b,q.aD=some b->b.block≠B.size:=λb hb=>by have:=(H.lt hb).2;omega
     refine bZ (f=false/\name<=e.1) ?_ λb5 h5 e5 a3=>?_
     .refine aE (λT=>?_) λT=>aC ⟨rfl,Ext.refl _,false,rfl,?_⟩
      .rw[dF]at T
       refine bU (b:=bI) e.1 rfl W.cells rfl (aC ⟨rfl,Ext.refl _,_,rfl,?_⟩);rw[dD];exact⟨λh=>⟨T,h⟩,λh=>h.2⟩
      .rw[eG]at T
       exact⟨λh=>(by cases h),λh=>by rw[T]at h;exact absurd h.1 (by decide)⟩
     have a9:=(aV.bD (F:=λ_=>False) e5).own W λ_ _ x=>x;have V:=(aV.bD (F:=λ_=>False) e5).own b3 λ_ _ x=>x;have s5:=e5.1;refine aE (λal=>?_) λal=>?_
     .obtain⟨ao,U⟩:=a3.1 al
      subst ao;have V:iX G.size h5 q (D.ms.take i):=V;refine L9 (e:=(name,a)) V (by omega) (by omega) λh6 c o6 c6 b6=>?_;refine aC ⟨rfl,c,true,rfl,?_,by have:=c6.1;omega,c6.own a9 λb hb ⟨x,g,ex⟩=>by cases hb;exact a0 x g ex,o6,⟨λ_=>.inr U,λ_=>rfl⟩,λb hb=>?_⟩
      .refine⟨by have:=c6.1;have:=C.1;omega,λj hj=>(c6.2.1 j (by have:=C.1;omega) ?_).trans (((C.trans R).trans e5).2.1 j hj),λb hb=>c6.2.2 b (((C.trans R).trans e5).2.2 b hb)⟩
       rintro⟨x,g,rfl⟩;have:=(H.lt g).1;have:=Z.1;omega
      .rcases b6 b hb with hb|hb
       .exact a0 b hb
       .have h1:B.size<h4.size:=(W.lt rfl).2
        omega
     .refine aC ⟨rfl,q,f,rfl,(C.trans R).trans e5,by omega,a9,?_,?_,a0⟩
      .cases f with
       |true=>exact V
       |false=>exact V
      .refine⟨λh=>.inl h,λh=>h.elim id λU=>?_⟩
       cases f with
       |true=>rfl
       |false=>rw[a3.2 ⟨rfl,U⟩]at al;cases al
    .rintro t vs h6 ⟨rfl,c,d,rfl,e6,s6,ba,o6,O,cc⟩
     refine bG ⟨(c,d,()),rfl,?_⟩;dsimp only;have b8:(if d then (if f then qE name a (D.ms.take i) else D.ms.take i++[(name,a)]) else D.ms.take i).length<=i+1:=by
      split
      .split
       .have:=L6 (name:=name) (a:=a) (l:=D.ms.take i);omega
       .simp;omega
      .omega
     refine bU (b:=bI) e.1 rfl ba.cells rfl (aE (λa6=>?_) λheq=>?_)
     .rw[kG]at a6
      refine Cj (e.1,e.2,()) ba rfl (L9 (e:=e) o6 (by omega) (by omega) λh7 q7 o7 c7 b7=>?_);refine aC ⟨rfl,q7,d,rfl,?_,by have:=c7.1;omega,?_,?_⟩
      .refine⟨by have:=c7.1;have:=e6.1;omega,λj hj=>(c7.2.1 j (by have:=e6.1;omega) ?_).trans (e6.2.1 j hj),λb hb=>c7.2.2 b (e6.2.2 b hb)⟩
       rintro⟨x,g,rfl⟩;have:=(o6.lt g).1;have:=Z.1;omega
      .rw[K]
       cases d with
       |false=>exact o7
       |true=>
        cases f with
        |true=>
         show iX G.size h7 q7 (qE name a (D.ms.take i++[e]));rw[TO z];exact o7
        |false=>
         have U:name<=e.1:=(O.1 rfl).elim (λh=>by cases h) id;show iX G.size h7 q7 (qE name a (D.ms.take i++[e]));rw[Kl U z,if_neg a6];exact o7
      .rw[K]
       cases d with
       |true=>
        rcases O.1 rfl with h|h
        .subst h
         obtain⟨x,g,hn⟩:=z;exact⟨x,oW _ g,hn⟩
        .exact⟨e,qM _ (dE.2 rfl),h⟩
       |false=>
        have b1:¬(f=true\/name<=e.1):=λh=>by have:=O.2 h;cases this
        cases f with
        |true=>exact absurd (.inl rfl) b1
        |false=>
         intro x g;rcases dH.1 g with g|g
         .exact z x g
         .rw[dE.1 g];omega
     .rw[lQ]at heq
      have bs:d=true:=O.2 (.inr (by omega));have ao:f=false:=by
       cases f with
       |false=>rfl
       |true=>
        obtain⟨x,g,hn⟩:=z;have a7:(D.ms.take (i+1)).Pairwise λx y=>x.1<y.1:=so.sublist (List.take_sublist _ _);rw[K,Mx]at a7;have:=a7.2.2 x g e (dE.2 rfl);omega
      subst bs;subst ao;refine aC ⟨rfl,c,true,rfl,e6,by omega,?_,?_⟩
      .rw[K]
       show iX G.size h6 c (qE name a (D.ms.take i++[e]));rw[Kl (by omega) z,if_pos heq,kQ];exact o6
      .rw[K]
       exact⟨e,qM _ (dE.2 rfl),by omega⟩
   .rintro t vs h7 ⟨rfl,c,d,rfl,e7,s7,o7,bp⟩
    refine bG ⟨(c,d,()),rfl,?_⟩;dsimp only;rw[aW (by omega) (by omega)];exact aC ⟨λ_=>⟨(c,d,(i:Int)+1,()),rfl,⟨e7,s7,i+1,by push_cast;rfl,by omega,o7,bp⟩,by dsimp only;omega⟩,λY=>absurd rfl Y⟩
  .rw[aY]at A
   have:i=D.ms.length:=by omega
   subst this;rw[fH]at H z;exact aC ⟨λY=>absurd Y (by decide),λ_=>⟨C,s3,rfl,q,f,rfl,H,λh=>by subst h;exact z⟩⟩
 .rintro t vs B ⟨C,s3,rfl,q,f,rfl,H,z⟩
  refine bG ⟨(q,f,()),rfl,?_⟩;dsimp only;have cf:=Z.1;refine cZ (λt vs h'=>t=0/\∃c,vs=[dN c]/\Ext h h'/\iX G.size h' c (qE name a D.ms)) ?_ ?_
  .refine aE (λA=>?_) λA=>?_
   .rw[dF]at A
    subst A;have H:iX G.size B q D.ms:=H;refine L9 (e:=(name,a)) H s3 (by omega) λh4 c W c4 b4=>aC ⟨rfl,c,rfl,?_,?_⟩
    .refine⟨by have:=c4.1;have:=C.1;omega,λj hj=>(c4.2.1 j (by have:=C.1;omega) ?_).trans (C.2.1 j hj),λb hb=>c4.2.2 b (C.2.2 b hb)⟩
     rintro⟨x,g,rfl⟩;have:=(H.lt g).1;omega
    .rw[PQ (z rfl)];exact W
   .rw[eG]at A
    subst A;exact aC ⟨rfl,q,rfl,C,H⟩
  .rintro t vs h4 ⟨rfl,c,rfl,e4,W⟩
   refine bG (mP ?_);have hq:∀b,c.aD=some b->h.size<=b.block:=λb hb=>by have:=(W.lt hb).1;omega
   have w4:=r.w.nr (s:=c) (r:=k+3) e4;have bd:=Je (k:=k) (rho:=rho) (s:=c) (r:=k+3) e4 (by omega);have am:tL (k+3) 2 (Hist.nr h rho c (k+3)) h4 c ((qE name a D.ms).flatMap Cy):=⟨cA.mono W (cO _),λb hb=>EL (hq b hb) ⟨b,hb,rfl⟩⟩;generalize Hist.nr h rho c (k+3)=a1 at w4 bd am;have b2:=w4.o.2 D.b rfl;refine w4.Di (gB rfl) rfl λh5 w5 c5 z5=>?_;have bo:=am.aP (rho':=a1) c5 (λi hi e=>by subst e;omega) λ_ _ h=>h;refine aC ⟨rfl,rfl,a1,{D with sm:=c,ms:=qE name a D.ms},bd.trans (kI b2 c5 z5),?_,?_,rfl,rfl,rfl⟩
   .exact w5.done rfl rfl λp=>⟨p.ot,p.ea,p.et,p.HX,p.dn,p.dk,p.nx,p.nc,p.nk,bo,p.wa,p.nw,p.kn,p.li,p.fi⟩
   .exact⟨m.E,m.dn,m.lo,m.nx,by show qE name a D.ms=qE name a M.marks;rw[a5],m.ws,m.op,m.nw,m.sv,m.la,m.dp,m.e0,m.li⟩
end
section
variable{P:Program}{S:cH}{h:aG}{Q:Nat->bH->aG->Prop}{k:Nat}{rho:Nat->Nat}{D:Doc}
variable{h':aG}{F:Nat->Prop}{s:Sl}{l:iO}{i:Nat}{v:Int}{x:List mS}
def Zf(rho:Nat->Nat)(h:aG):Prop:=∀i,h.size<=i->rho i=0
theorem Lr(h:aG)(rho:Nat->Nat):Zf (Hist.zr h rho) h:=λi hi=>qN hi
theorem Zf.mono(z:Zf rho h)(b:h.size<=h'.size):Zf rho h':=λi hi=>z i (dI b hi)
theorem pP(z:Zf rho h)(c:aV F h h')(d:∀i,i<h.size->F i->k<rho i/\rho i<=k+10):cX k h rho h' rho:=cX.of c d λi b _=>z i b
theorem eZ.zt{f:iO}(r:eZ k rho h D)(c:aV F h h')(d:∀i,i<h.size->F i->rho i=k+3)(o:iX 0 h' D.sm f):eZ k rho h' {D with ms:=f} where
 ob:=r.ob.aP c (λi hi b=>by have:=d i hi b;omega) λ_ _ h=>h
 ot:=r.ot.aP c (λi hi b=>by have:=d i hi b;omega) λ_ _ h=>h
 ea:=r.ea.aP c (λi hi b=>by have:=d i hi b;omega) λ_ _ h=>h
 et:=r.et.aP c (λi hi b=>by have:=d i hi b;omega) λ_ _ h=>h
 HX:=r.HX.aP c (λi hi b=>by have:=d i hi b;omega) λ_ _ h=>h
 dn:=r.dn.aP c (λi hi b=>by have:=d i hi b;omega) λ_ _ h=>h
 dk:=λg j=>(r.dk g j).aP c (λi hi b=>by have:=d i hi b;omega) λ_ _ h=>h
 nx:=r.nx.aP c (λi hi b=>by have:=d i hi b;omega) λ_ _ h=>h
 nc:=r.nc
 nk:=λg j=>(r.nk g j).aP c (λi hi b=>by have:=d i hi b;omega) λ_ _ h=>h
 ma:=⟨o,r.ma.2⟩
 wa:=r.wa.aP c (λi hi b=>by have:=d i hi b;omega) λ_ _ h=>h
 nw:=λz=>by
  obtain⟨m,t,u,w⟩:=r.nw z;exact⟨m.aP c (λi hi b=>by have:=d i hi b;omega) λ_ _ h=>h,λy A=>(t y A).aP c (λi hi b=>by have:=d i hi b;omega) λ_ _ h=>h,u.aP c (λi hi b=>by have:=d i hi b;omega) λ_ _ h=>h,w.aP c (λi hi b=>by have:=d i hi b;omega) λ_ _ h=>h⟩
 kn:=r.kn
 li:=r.li
 fi:=r.fi
theorem eZ.um{f:bB}(r:eZ k rho h D)(c:aV F h h')(d:∀i,i<h.size->F i->rho i=k+4)(o:bV 0 .i64 h' D.sw f):eZ k rho h' {D with ws:=f} where
 ob:=r.ob.aP c (λi hi b=>by have:=d i hi b;omega) λ_ _ h=>h
 ot:=r.ot.aP c (λi hi b=>by have:=d i hi b;omega) λ_ _ h=>h
 ea:=r.ea.aP c (λi hi b=>by have:=d i hi b;omega) λ_ _ h=>h
 et:=r.et.aP c (λi hi b=>by have:=d i hi b;omega) λ_ _ h=>h
 HX:=r.HX.aP c (λi hi b=>by have:=d i hi b;omega) λ_ _ h=>h
 dn:=r.dn.aP c (λi hi b=>by have:=d i hi b;omega) λ_ _ h=>h
 dk:=λg j=>(r.dk g j).aP c (λi hi b=>by have:=d i hi b;omega) λ_ _ h=>h
 nx:=r.nx.aP c (λi hi b=>by have:=d i hi b;omega) λ_ _ h=>h
 nc:=r.nc
 nk:=λg j=>(r.nk g j).aP c (λi hi b=>by have:=d i hi b;omega) λ_ _ h=>h
 ma:=r.ma.aP c (λi hi b=>by have:=d i hi b;omega) λ_ _ h=>h
 wa:=⟨o,r.wa.2⟩
 nw:=λz=>by
  obtain⟨m,t,u,w⟩:=r.nw z;exact⟨m.aP c (λi hi b=>by have:=d i hi b;omega) λ_ _ h=>h,λy A=>(t y A).aP c (λi hi b=>by have:=d i hi b;omega) λ_ _ h=>h,u.aP c (λi hi b=>by have:=d i hi b;omega) λ_ _ h=>h,w.aP c (λi hi b=>by have:=d i hi b;omega) λ_ _ h=>h⟩
 kn:=r.kn
 li:=r.li
 fi:=r.fi
theorem Oc{n:Nat}{j:Nat}{K:Int->aK}(o:iX n h s l)(hi:i<l.length)(g:(Cy (el l i))[j]?=some (aH v))(d:wp P (K v) h Q) :
  wp P (bF (bN (aJ s.aD) (eU (i:Int) s.len))<|bF (aJ (aB s.aD (aZ (bP (i:Int)) 2)))<|.load (tI) (aB (aB s.aD (aZ (bP (i:Int)) 2)) j) K) h Q:=by
 have hlen:=iX.len o;obtain⟨a,ea,c⟩:=sQ (m:=2) (λ_=>rfl) (by decide) o (ED hi);refine aL (fA.2 ⟨by rw[ea];rfl,kN.2 ⟨by omega,by omega⟩⟩) ?_;have f:aB s.aD (aZ (bP (i:Int)) 2)=some (a.add (i*2)):=by rw[ea,hO,eP,cR];rfl
 rw[f];exact aL rfl (bU (b:=bI) v rfl c g d)
theorem ui{n:Nat}{K:aK}(o:iX n h s l)(hi:i<l.length)
  (r:∀h',iX n h' s (l.set i ((el l i).1,v))->aV (fZ s) h h'->h'.size=h.size->wp P K h' Q) :
  wp P (bF (bN (aJ s.aD) (eU (i:Int) s.len))<|bF (aJ (aB s.aD (aZ (bP (i:Int)) 2)))<|.store (aB (aB s.aD (aZ (bP (i:Int)) 2)) 1) [aH v] K) h Q:=by
 have hlen:=iX.len o;obtain⟨a,ea,A⟩:=sQ (m:=2) (λ_=>rfl) (by decide) o (ED hi);refine aL (fA.2 ⟨by rw[ea];rfl,kN.2 ⟨by omega,by omega⟩⟩) ?_;refine aL (by rw[ea];rfl) ?_;have c:l=l.take i++(l[i]::l.drop (i+1)):=by rw[<-gY hi,eY]
 have g:el l i=l[i]:=by simp[List.getD,cK hi]
 have d:l.set i ((el l i).1,v)=l.take i++(((el l i).1,v)::l.drop (i+1)):=by
  conv=>lhs;rw[c]
  have j:(l.take i).length=i:=by rw[dJ];omega
  rw[Au (h:=by omega),j,tC,wX,<-c]
 have t:cA n 2 h s (((l.take i).flatMap Cy++[aH (el l i).1])++[aH (el l i).2]++(l.drop (i+1)).flatMap Cy):=by
  have f:cA n 2 h s (l.flatMap Cy):=o;rw[c,gX,gD]at f;rw[g];simpa using f
 have b:aB (aB s.aD (aZ (bP (i:Int)) 2)) 1=aB s.aD ((l.take i).flatMap Cy++[aH (el l i).1]).length:=by
  rw[bQ,L5,dJ,ea,hO,eP,cR];show some ((a.add (i*2)).add 1)=some (a.add _);rw[add_add,F5 (rX hi)];rfl
 rw[b];refine qF (mid:=[aH (el l i).2]) [aH v] t rfl rfl (by simp) (by intro x u;rw[dE.1 u];rfl) λh' w y z=>r h' ?_ (aV.dK y λa ha _=>⟨a,ha,rfl⟩) z;show cA n 2 h' s ((l.set i ((el l i).1,v)).flatMap Cy);rw[d,gX,gD];simpa using w
theorem T7{n:Nat}{l:bB}{K:aK}(o:bV n .i64 h s l)(hi:i<l.length)(m:cY .i64 v)
  (r:∀h',bV n .i64 h' s (l.set i v)->aV (fZ s) h h'->h'.size=h.size->wp P K h' Q) :
  wp P (bF (bN (aJ s.aD) (eU (i:Int) s.len))<|.store (aB s.aD (aZ (bP (i:Int)) 1)) [aH v] K) h Q:=by
 have hlen:=o.len;have j:l=l.take i++(l[i]::l.drop (i+1)):=by rw[<-gY hi,eY]
 have t:cA n 1 h s ((l.take i).map (.int .i64)++[aH l[i]]++(l.drop (i+1)).map (.int .i64)):=by
  have f:=o.own;rw[j,dP,fT]at f;simpa using f
 have d:l.set i v=l.take i++(v::l.drop (i+1)):=by
  conv=>lhs;rw[j]
  have g:(l.take i).length=i:=by rw[dJ];omega
  rw[Au (h:=by omega),g,tC,wX]
 obtain⟨a,ea,_⟩:=o.lO.rd.2 i (.int .i64 l[i]) (by rw[gQ,cK hi];rfl);refine aL (fA.2 ⟨by rw[ea];rfl,kN.2 ⟨by omega,by omega⟩⟩) ?_;have c:aZ (bP (i:Int)) 1=((l.take i).map (Value.int .i64)).length:=by rw[cE,dJ,hO,eP,cR];omega
 rw[c];refine qF (mid:=[aH l[i]]) [aH v] t rfl rfl (by simp) (by intro x b;rw[dE.1 b];rfl) λh' u w y=>r h' ⟨?_,λx b=>?_⟩ (aV.dK w λa ha _=>⟨a,ha,rfl⟩) y
 .rw[d,dP,fT];simpa using u
 .rcases R1 b with b|rfl
  .exact o.wf x b
  .exact m
theorem Zv(hi:i<l.length):(lY x (l.take i)++l.drop i).set i ((el (lY x (l.take i)++l.drop i) i).1,(qX (el (lY x (l.take i)++l.drop i) i).2 x).1)=lY x (l.take (i+1))++l.drop (i+1)/\el (lY x (l.take i)++l.drop i) i=el l i:=by
 have b:(lY x (l.take i)).length=i:=by unfold lY;rw[cE,dJ];omega
 have he:el (lY x (l.take i)++l.drop i) i=el l i:=by
  simp only[el,gJ];rw[jZ (by omega),b,tC,Aq];rfl
 refine⟨?_,he⟩;rw[he,Au (h:=by omega),b,tC,gY hi,wX,eN,ED hi];unfold lY;simp
theorem Zw{l:bB}(hi:i<l.length):(lM x (l.take i)++l.drop i).set i (wv x (l.getD i 0))=lM x (l.take (i+1))++l.drop (i+1)/\(lM x (l.take i)++l.drop i).getD i 0=l.getD i 0:=by
 have b:(lM x (l.take i)).length=i:=by unfold lM;rw[cE,dJ];omega
 have he:(lM x (l.take i)++l.drop i).getD i 0=l.getD i 0:=by
  simp only[gJ];rw[jZ (by omega),b,tC,Aq];rfl
 refine⟨?_,he⟩;have c:l[i]?=some (l.getD i 0):=by simp[List.getD,cK hi]
 rw[Au (h:=by omega),b,tC,gY hi,wX,eN,c];unfold lM;simp
theorem MZ(r:eZ k rho h D)(z:Zf rho h){x:GO}(hx:∀h',aV (λi=>rho i=k+3\/rho i=k+4) h h'->(Sh.list jT).ok h' x)(hb:Ls (x.2.map dO))(hm:∀e∈D.ms,0<=e.2/\e.2<=2199023255552)(hw:∀v∈D.ws,v<=2199023255552) :
  wp P (kS S (some D.b) x.1) h λtg vs h'=>tg=0/\vs=[]/\aV (λi=>rho i=k+3\/rho i=k+4) h h'/\eZ k rho h' {D with ms:=lY (x.2.map dO) D.ms,ws:=lM (x.2.map dO) D.ws}:=by
 unfold kS;refine bL (λ(s:Int×Unit) h'=>∃i:Nat,s.1=i/\i<=D.ms.length/\aV (λi=>rho i=k+3) h h'/\eZ k rho h' {D with ms:=lY (x.2.map dO) (D.ms.take i)++D.ms.drop i}) (λs _=>((D.ms.length:Int)-s.1).toNat)
  (λt vs h'=>t=2/\vs=[]/\aV (λi=>rho i=k+3) h h'/\eZ k rho h' {D with ms:=lY (x.2.map dO) D.ms}) ⟨0,rfl,cO _,aV.refl _ _,r⟩ ?_ ?_
 .rintro⟨(si:Int),u⟩ h1 ⟨i,hi,hle,c1,C⟩
  dsimp only at hi⊢;subst hi;have m:(lY (x.2.map dO) (D.ms.take i)++D.ms.drop i).length=D.ms.length:=by unfold lY;rw[bQ,cE,dJ,cW];omega
  have o:=iX.len C.ma.1;rw[show({D with ms:=lY (x.2.map dO) (D.ms.take i)++D.ms.drop i}:Doc).ms=_ from rfl,m]at o;have o:D.sm.len=D.ms.length:=o;refine C.rd (b:=.sl) D.sm rfl ?_;have V:aQ D.sm.len=(D.ms.length:Int):=by rw[aN,o]
  rw[V];refine aE (λw=>?_) λw=>?_
  .rw[aU]at w
   have f:i<D.ms.length:=by omega
   obtain⟨G,H⟩:=Zv (x:=x.2.map dO) f;refine C.rd (b:=.sl) D.sm rfl (Oc (j:=1) (v:=(el D.ms i).2) C.ma.1 (by show i<_;rw[m];exact f) (by show(Cy (el (lY (x.2.map dO) (D.ms.take i)++D.ms.drop i) i))[1]?=_;rw[H];rfl) ?_);have ao:=hm _ (eL (ED f));refine aM (VW (hx h1 (c1.mono λ_ _ h=>.inl h)) hb ao.1 ao.2) λ⟨(y:Int),(b':Bool),_⟩ Y e2 B=>?_;have B:y=(qX (el D.ms i).2 (x.2.map dO)).1:=B.1;subst B;dsimp only;have d:=C.ext e2;refine d.rd (b:=.sl) D.sm rfl (ui d.ma.1 (by show i<_;rw[m];exact f) λZ o3 c3 z3=>?_);have I:=d.ma.1.2.1;have O:=d.ma.1.2.2.1;have I:D.sm.len<=D.sm.cap:=I;have O:D.sm.cap<2^63:=O;rw[aW (by omega) (by omega)];have a6:iX 0 Z D.sm (lY (x.2.map dO) (D.ms.take (i+1))++D.ms.drop (i+1)):=by
    rw[<-G];have:(el (lY (x.2.map dO) (D.ms.take i)++D.ms.drop i) i).2=(el D.ms i).2:=by rw[H]
    rw[this];exact o3
   have T:∀j,j<Y.size->fZ D.sm j->rho j=k+3:=λj _ ⟨a,ha,e⟩=>by rw[<-e];exact d.ma.2 a ha
   have a2:aV (λi=>rho i=k+3) h Z:=(c1.ext e2).trans c3 λj hj hf=>T j (by have:=c1.1;have:=e2.1;omega) hf;exact aC ⟨λ_=>⟨((i:Int)+1,()),rfl,⟨i+1,by push_cast;rfl,by omega,a2,d.zt c3 T a6⟩,by dsimp only;omega⟩,λJ=>absurd rfl J⟩
  .rw[aY]at w
   have:i=D.ms.length:=by omega
   subst this;rw[fH,F6,kQ]at C;exact aC ⟨λJ=>absurd J (by decide),λ_=>⟨rfl,rfl,c1,C⟩⟩
 rintro t vs h1 ⟨rfl,rfl,c1,C⟩;refine bG (bO ?_);obtain⟨c,R⟩:∃c,c=({D with ms:=lY (x.2.map dO) D.ms}:Doc):=⟨_,rfl⟩;rw[<-R]at C;have ab:c.ws=D.ws:=by rw[R]
 have a3:c.b=D.b:=by rw[R]
 have a0:({D with ms:=lY (x.2.map dO) D.ms,ws:=lM (x.2.map dO) D.ws}:Doc)={c with ws:=lM (x.2.map dO) D.ws}:=by rw[R]
 rw[a0,<-a3,<-ab];rw[<-ab]at hw;have a1:aV (λi=>rho i=k+3\/rho i=k+4) h h1:=c1.mono λ_ _ h=>.inl h;refine bL (λ(s:Int×Unit) h'=>∃i:Nat,s.1=i/\i<=c.ws.length/\aV (λi=>rho i=k+3\/rho i=k+4) h h'/\eZ k rho h' {c with ws:=lM (x.2.map dO) (c.ws.take i)++c.ws.drop i}) (λs _=>((c.ws.length:Int)-s.1).toNat)
  (λt vs h'=>t=4/\vs=[]/\aV (λi=>rho i=k+3\/rho i=k+4) h h'/\eZ k rho h' {c with ws:=lM (x.2.map dO) c.ws}) ⟨0,rfl,cO _,a1,C⟩ ?_ ?_
 .rintro⟨(si:Int),u⟩ Y ⟨i,hi,hle,c2,d⟩
  dsimp only at hi⊢;subst hi;have m:(lM (x.2.map dO) (c.ws.take i)++c.ws.drop i).length=c.ws.length:=by unfold lM;rw[bQ,cE,dJ,cW];omega
  have o:=d.wa.1.len;rw[show({c with ws:=lM (x.2.map dO) (c.ws.take i)++c.ws.drop i}:Doc).ws=_ from rfl,m]at o;have o:c.sw.len=c.ws.length:=o;have I:c.sw.len<=c.sw.cap:=d.wa.1.own.2.1;have O:c.sw.cap<2^63:=d.wa.1.own.2.2.1;refine d.rd (b:=.sl) c.sw rfl ?_;have V:aQ c.sw.len=(c.ws.length:Int):=by rw[aN,o]
  rw[V];refine aE (λw=>?_) λw=>?_
  .rw[aU]at w
   have f:i<c.ws.length:=by omega
   obtain⟨G,H⟩:=Zw (x:=x.2.map dO) f;have hv:c.ws[i]?=some (c.ws.getD i 0):=by simp[List.getD,cK f]
   have aw:=hw _ (eL hv);have al:∀{g:aG} {Q:Nat->bH->aG->Prop} {K:Int->aK},eZ k rho g {c with ws:=lM (x.2.map dO) (c.ws.take i)++c.ws.drop i}->wp P (K (c.ws.getD i 0)) g Q ->
     wp P (bF (bN (aJ c.sw.aD) (eU (i:Int) c.sw.len)) (.load (tI) (aB c.sw.aD (aZ (bP (i:Int)) 1)) K)) g Q:=by
    intro g Q K r hk;refine qZ r.wa.1.lO (by omega) (by show(i:Int)<((lM (x.2.map dO) (c.ws.take i)++c.ws.drop i).length:Nat);rw[m];omega) λ_=>?_;rw[cR];show wp P (K ((lM (x.2.map dO) (c.ws.take i)++c.ws.drop i).getD i 0)) _ _;rw[H];exact hk
   refine cZ (λt vs h'=>t=0/\vs=[]/\aV (λi=>rho i=k+3\/rho i=k+4) h h'/\eZ k rho h' {c with ws:=lM (x.2.map dO) (c.ws.take (i+1))++c.ws.drop (i+1)}) ?_ ?_
   .refine d.rd (b:=.sl) c.sw rfl (al d (aE (λA=>?_) λA=>?_))
    .rw[aU]at A
     refine aC ⟨rfl,rfl,c2,?_⟩;have:lM (x.2.map dO) (c.ws.take (i+1))++c.ws.drop (i+1)=lM (x.2.map dO) (c.ws.take i)++c.ws.drop i:=by
      rw[<-G];have a8:wv (x.2.map dO) (c.ws.getD i 0)=(lM (x.2.map dO) (c.ws.take i)++c.ws.drop i).getD i 0:=by unfold wv;rw[if_pos A,H]
      rw[a8];refine Si λj=>?_;rw[R0];split
      .rename_i a5
       subst a5;rw[if_pos (by rw[m];exact f),gJ,cK (by rw[m];exact f)];rfl
      .rfl
     rw[this];exact d
    .rw[aY]at A
     refine d.rd (b:=.sl) c.sw rfl (al d ?_);refine aM (VW (hx Y c2) hb A aw) λ⟨(y:Int),(b':Bool),_⟩ Z e3 B=>?_;obtain⟨B,U⟩:=B;have B:y=(qX (c.ws.getD i 0) (x.2.map dO)).1:=B;have U:b'=(qX (c.ws.getD i 0) (x.2.map dO)).2:=U;have a4:=C4 A aw hb;have ba:=hb.1;rw[<-B]at a4;dsimp only;refine fL (tys:=[tI]) (λ(y':Int×Unit) h'=>y'.1=wv (x.2.map dO) (c.ws.getD i 0)/\h'=Z) ?_ λ⟨(y':Int),_⟩ h4 e4 E=>?_
     .unfold wv
      rw[if_neg (by omega),<-U,<-B];refine aE (λw=>aC ⟨rfl,Ext.refl _,(-1,()),rfl,?_,rfl⟩) λw=>aC ⟨rfl,Ext.refl _,(y,()),rfl,?_,rfl⟩
      .rw[dF]at w;rw[w];rfl
      .rw[eG]at w;rw[w];rfl
     obtain⟨E,rfl⟩:=E;have E:y'=wv (x.2.map dO) (c.ws.getD i 0):=E;have a9:cY .i64 y':=by
      rw[E];unfold wv;rw[if_neg (by omega)];split
      .rw[<-B];exact eV.2 (by omega)
      .exact eV.2 (by omega)
     have r3:=d.ext e3;dsimp only;refine r3.rd (b:=.sl) c.sw rfl (T7 r3.wa.1 (by show i<_;rw[m];exact f) a9 λh5 o5 W z5=>?_);have a7:bV 0 .i64 h5 c.sw (lM (x.2.map dO) (c.ws.take (i+1))++c.ws.drop (i+1)):=by
      rw[<-G,<-E];exact o5
     have T:∀j,j<h4.size->fZ c.sw j->rho j=k+4:=λj _ ⟨a,ha,e⟩=>by rw[<-e];exact r3.wa.2 a ha
     exact aC ⟨rfl,rfl,(c2.ext e3).trans W λj hj hf=>.inr (T j (by have:=c2.1;have:=e3.1;omega) hf),r3.um W T a7⟩
   .rintro t vs h5 ⟨rfl,rfl,W,r5⟩
    refine bG (bO ?_);rw[aW (by omega) (by omega)];exact aC ⟨λ_=>⟨((i:Int)+1,()),rfl,⟨i+1,by push_cast;rfl,by omega,W,r5⟩,by dsimp only;omega⟩,λJ=>absurd rfl J⟩
  .rw[aY]at w
   have:i=c.ws.length:=by omega
   subst this;rw[fH,F6,kQ]at d;exact aC ⟨λJ=>absurd J (by decide),λ_=>⟨rfl,rfl,c2,d⟩⟩
 .rintro t vs Y ⟨rfl,rfl,c2,d⟩
  exact bG (bO (aC ⟨rfl,rfl,c2,d⟩))
end
section
variable{P:Program}{S:cH}{h:aG}{Q:Nat->bH->aG->Prop}{k:Nat}{rho:Nat->Nat}{D:Doc}
variable{M:Mo}{q:CR}
theorem Og{enc limit r:Int}{E:List El}{es:List iM}:EW enc limit E (es.map hP) r↔EW enc limit E es r:=by
 unfold EW;rw[cE,Kq,Gr,Ds]
theorem Xm{x y:List iM}(h:x.map hP=y.map hP):M.oZ q x=M.oZ q y:=by
 have b:nY x=nY y:=by rw[<-FR x,<-FR y,h]
 unfold Mo.oZ;rw[h,b]
abbrev xt(D:Doc):RX:={b:=D.t,enc:=D.enc,limit:=D.limit,sa:=D.sa,st:=D.st,sk:=⟨none,0,0⟩,E:=D.E,K:=[],Z:=λi=>i=D.t\/ZF (D.sa,D.st,D.E) i}
theorem eZ.ry(r:eZ k rho h D){i:Nat}(hi:ZF (D.sa,D.st,D.E) i):rho i=0/\i<h.size:=by
 rcases hi with⟨a,ha,rfl⟩|⟨a,ha,rfl⟩
 .exact⟨r.ea.2 a ha,(r.ea.1.own.lt ha).2⟩
 .exact⟨r.et.2 a ha,(r.et.1.own.lt ha).2⟩
theorem eZ.zj(r:eZ k rho h D):Bb 0 h (xt D) where
 enc:=r.kn
 A4:=r.li
 ob:=r.ot.1
 cur:=⟨r.ea.1,r.et.1⟩
 sk:=cA.nil ..
 kept:=λ_ b=>by cases b
 zb:=.inl rfl
 zc:=λi hi=>⟨.inr hi,λe=>by have d:=(r.ry hi).1;have c:=r.ot.2 (Cq D.t) rfl;have c:rho D.t=k+2:=c;have e:i=D.t:=e;rw[e]at d;omega,λa ha=>by cases ha⟩
 zk:=λ_ b=>by cases b
 zs:=λa ha=>by cases ha
 lo:=λi hi=>⟨cO _,hi.elim (λe=>by rw[e];exact(r.ot.1.lt rfl).2) λhi=>(r.ry hi).2⟩
 fit:=r.fi
theorem eZ.ofT{h':aG}{R:RX}(r:eZ k rho h D)(z:Zf rho h)(j:Bb 0 h' R)(c:aV (λi=>i=D.t) h h')(hb:R.b=D.t)(he:R.enc=D.enc)(J:R.limit=D.limit)(O:R.sk=⟨none,0,0⟩)(U:∀i,R.Z i->(xt D).Z i\/h.size<=i) :
  eZ k rho h' {D with sa:=R.sa,st:=R.st,E:=R.E}:=by
 have u:rho D.t=k+2:=r.ot.2 (Cq D.t) rfl;have o:∀i,ZF (R.sa,R.st,R.E) i->rho i=0:=λi hi=>by
  obtain⟨I,A,_⟩:=j.zc i hi;rw[hb]at A;rcases U i I with(m|m)|m
  .exact absurd m A
  .exact(r.ry m).1
  .exact z i m
 have f:∀i,i<h.size->i=D.t->rho i=k+2:=λi _ e=>by rw[e];exact u
 exact{
  ob:=r.ob.aP c (λi hi d=>by have:=f i hi d;omega) λ_ _ h=>h
  ot:=⟨by have:=j.ob;rw[hb,he,J,O]at this;exact this,λa ha=>by cases ha;exact u⟩
  ea:=⟨j.cur.1,λa ha=>o _ (.inl ⟨a,ha,rfl⟩)⟩
  et:=⟨j.cur.2,λa ha=>o _ (.inr ⟨a,ha,rfl⟩)⟩
  HX:=r.HX.aP c (λi hi d=>by have:=f i hi d;omega) λ_ _ h=>h
  dn:=r.dn.aP c (λi hi d=>by have:=f i hi d;omega) λ_ _ h=>h
  dk:=λg w=>(r.dk g w).aP c (λi hi d=>by have:=f i hi d;omega) λ_ _ h=>h
  nx:=r.nx.aP c (λi hi d=>by have:=f i hi d;omega) λ_ _ h=>h
  nc:=r.nc
  nk:=λg w=>(r.nk g w).aP c (λi hi d=>by have:=f i hi d;omega) λ_ _ h=>h
  ma:=r.ma.aP c (λi hi d=>by have:=f i hi d;omega) λ_ _ h=>h
  wa:=r.wa.aP c (λi hi d=>by have:=f i hi d;omega) λ_ _ h=>h
  nw:=λK=>by
   obtain⟨B,C,G,H⟩:=r.nw K;exact⟨B.aP c (λi hi d=>by have:=f i hi d;omega) λ_ _ h=>h,λy T=>(C y T).aP c (λi hi d=>by have:=f i hi d;omega) λ_ _ h=>h,G.aP c (λi hi d=>by have:=f i hi d;omega) λ_ _ h=>h,H.aP c (λi hi d=>by have:=f i hi d;omega) λ_ _ h=>h⟩
  kn:=r.kn
  li:=r.li
  fi:=by have:=j.fit;rw[he]at this;exact this}
theorem MB.stk{n:Nat}{s:Sl}{l:List iM}(o:MB n h s l)(j:∀i,n<=i->i<h.size->rho i=0):JZ (λh=>(Sh.list jT).ok h (s,l)) rho h:=λg c=>
 (o.oZ c λi d f b=>by rw[j i d f]at b;exact absurd b (HV 0)).ok
theorem Rm{L:Int}:∀{es:List iM} {a:Int},uQ L a es->∀c∈es,a<=c.1/\c.1<=c.2.1/\c.2.1<=L
 |[],_,_,c,b=>by cases b
 |e::es,a,⟨d,f,g,j⟩,c,b=>by
  rcases eH.1 b with rfl|b
  .exact⟨d,f,g⟩
  .have:=Rm j c b
   omega
theorem Qt(r:eZ k rho h D)(m:DocM D M)(d:M.now=none){x:Sl}:wp P (jC S (some D.b) x) h λtg vs h'=>tg=0/\vs=[aH 71]/\kA k h rho h' D M:=by
 unfold jC;refine r.rd (b:=.bool) D.op rfl (aE (λc=>aC ⟨rfl,rfl,kA.ext r m (Ext.refl _)⟩) λc=>?_);rw[m.op,d]at c;cases c
theorem Zb(r:eZ k rho h D){N:Nat}(m:DocM D M)(o:iF D.enc D.limit M N)(hN:N<=68719476736)(hm:M.now=some q){x:GO}(hx:∀h',aV (λi=>k<rho i/\rho i<=k+10) h h'->(Sh.list jT).ok h' x)(a7:x.2.length<=1073741824)(b8:(aX x.2).length<=1000000000)
  (eg:q.lI.length<=1099511627776) :
  wp P (jC S (some D.b) x.1) h λtg vs h'=>tg=0/\∃e,vs=[aH e]/\EW D.enc D.limit M.E x.2 e/\kA k h rho h' D (if e=0 then M.oZ q x.2 else M):=by
 unfold jC;have a5:D.op=true:=by rw[m.op,hm];rfl
 have a9:=cX.mV (k:=k) (rho:=rho) (Ext.refl h);have r0:=r.zr (Ext.refl h);have z0:=Lr h rho;have aw:∀h',aV (λi=>k<Hist.zr h rho i/\Hist.zr h rho i<=k+10) h h'->(Sh.list jT).ok h' x:=λh' c=>hx h' (c.mono λi hi A=>by rw[tD hi]at A;exact A);generalize Hist.zr h rho=B at a9 r0 z0 aw;refine r0.rd (b:=.bool) D.op rfl (aE (λI=>by rw[dF,a5]at I;cases I) λ_=>?_);refine r0.rd (b:=.ptr) (some (Cq D.t)) rfl ?_;have a6:B D.t=k+2:=r0.ot.2 (Cq D.t) rfl;have a1:=o.len;rw[<-m.E]at a1;have cc:=KM (P:=P) (S:=S) r0.zj (cO _) (aw h (aV.refl _ _)) (by show D.E.length<=65536;omega) a7 b8;refine dW cc λtg vs h1 hq=>?_;obtain⟨rfl,e,R',rfl,Z,RT,c1,rb,re,rl,rK,c8,rE,ei,c9⟩:=hq;refine⟨rfl,(e,()),rfl,?_⟩;have c1:aV (λi=>i=D.t) h h1:=c1;have r1:=r0.ofT z0 RT c1 rb re rl c8 c9;have Z:EW D.enc D.limit D.E x.2 e:=Z;have rE:R'.E=if e=0 then jA D.E x.2 else D.E:=rE
 obtain⟨d,u⟩:∃d,d=({D with sa:=R'.sa,st:=R'.st,E:=R'.E}:Doc):=⟨_,rfl⟩;rw[<-u]at r1;have s1:=c1.1;have z1:=z0.mono s1;have ba:=a9.trans (pP z0 c1 λi _ e=>by rw[e,a6];omega);dsimp only;refine aE (λI=>?_) λI=>?_
 .rw[kG]at I
  refine aC ⟨rfl,e,rfl,by rw[<-m.E];exact Z,B,d,ba,r1,?_,by rw[u],by rw[u],by rw[u]⟩;rw[if_neg I,u];rw[if_neg I]at rE;exact⟨rE.trans m.E,m.dn,m.lo,m.nx,m.ms,m.ws,m.op,m.nw,m.sv,m.la,m.dp,m.e0,m.li⟩
 rw[lQ]at I;subst I;rw[if_pos rfl]at rE;have a3:d.b=D.b:=by rw[u]
 have a4:d.c=D.c:=by rw[u]
 have ab:d.op=true:=by rw[u];exact a5
 obtain⟨n1,n2,n3,n4⟩:=r1.nw ab;have dr:Bf d=Bf D:=by rw[u]
 rw[<-a3];obtain⟨a8,ct,cx,c7⟩:=m.nw q hm;have ds:d.c.2.length=q.lI.length:=by rw[a4,<-a8,cE]
 have b0:=n1.1.1;rw[cE]at b0;refine aL rfl (aL rfl (aL rfl ?_));have bs:aB (aB (some d.b) 11) 0=aB (some d.b) 11:=by show some ((d.b.add 11).add 0)=some (d.b.add 11);rw[add_zero']
 rw[bs];refine bU (b:=.sl) d.c.1 rfl r1.ob.1.cells rfl ?_;have bp:=aw h1 (c1.mono λi _ e=>by rw[e,a6];omega);refine aM (YV bp a7 λe he=>?_) λ⟨(cy:Sl),_⟩ O e2 V=>?_
 .have:e.2.2.1.2.length<=(aX x.2).length:=by
   unfold aX;rw[Mz];exact yG (λe:iM=>e.2.2.1.2.length) he
  omega
 obtain⟨l',b2,oy⟩:=V;have oy:MB h1.size O cy l':=oy;have r2:=r1.ext e2;refine⟨⟨_,rfl,aI.2 λj v T=>?_⟩,?_⟩
 .cases j with
  |zero=>cases T;exact aI.1 r2.ob.1.cells 11 _ rfl
  |succ j=>simp at T
 refine λel=>?_;have e3:Ext O (O.push (.cells [dN cy].toArray el)):=Ext.push ..;have o3:cA O.size 1 (O.push (.cells [dN cy].toArray el)) ⟨some ⟨O.size,0,none⟩,1,1⟩ [dN cy]:=bR rfl (by decide) (by decide);show wp P _ (O.push (.cells [dN cy].toArray el)) _;generalize O.push (.cells [dN cy].toArray el)=W at e3 o3⊢;have H:=r2.ext e3;refine⟨⟨_,rfl,aI.2 λj v T=>?_⟩,?_⟩
 .cases j with
  |zero=>cases T;exact aI.1 H.ob.1.cells 11 _ rfl
  |succ j=>simp at T
 obtain⟨n1,n2,n3,n4⟩:=H.nw ab;have s2:=e2.1;have s3:=e3.1;refine iR n1.1 (cO _) o3.rd (by intro v K;rw[dE.1 K];rfl) rfl (by dsimp only;omega) (by dsimp only;omega) λq4 Y o4 l4 u4 b4 _=>?_;have C:aV (fZ d.c.1) W Y:=aV.dK u4 λa ha _=>⟨a,ha,rfl⟩;have G:∀i,i<W.size->fZ d.c.1 i->B i=k+5:=λi _ ⟨a,ha,e⟩=>by rw[<-e];exact n1.2 a ha
 have s4:=C.1;have a2:∀a,q4.aD=some a->(d.c.1.aD=some a)\/W.size<=a.block:=b4
 let z:Nat->Nat:=Hist.nr W B q4 (k+5)
 have z3:=z1.mono (dI s2 s3);have w:∀i,i<W.size->z i=B i:=λi hi=>wP hi;have z4:Zf z Y:=λi hi=>Kk (by omega) λ⟨a,ha,e⟩=>by have:=(o4.lt ha).2;omega
 have de:cX k W B Y z:=⟨C.mono λi hi A=>by rw[G i hi A];omega,λi hi _=>w i hi,λi hi T=>by
  by_cases b6:i<W.size
  .rw[w i b6]
   rcases T with T|T
   .omega
   .exact .inr T
  .by_cases hs:fZ q4 i
   .rw[show z i=k+5 from EL (by omega) hs];exact .inr (by omega)
   .rw[show z i=0 from Kk (by omega) hs];exact .inl rfl⟩
 have ac:tL (k+5) 1 z Y q4 ((d.c.2++[(cy,l')]).map λy=>dN y.1):=by
  refine⟨by rw[dP];exact o4,λa ha=>?_⟩;rcases a2 a ha with hb|hb
  .rw[w _ (n1.1.lt hb).2];exact n1.2 a hb
  .exact EL hb ⟨a,ha,rfl⟩
 have J:∀i,i<W.size->fZ d.c.1 i->B i≠0:=λi hi A=>by rw[G i hi A];omega
 have df:∀i,h1.size<=i->i<O.size->B i=0:=λi h1 O=>z1 i h1;have ky:JZ (λh=>(Sh.list jT).ok h (cy,l')) z Y:=((oy.stk df).aP (rho':=B) (aV.bD (F:=λ_=>False) e3) (λ_ _ f=>f.elim) λ_ _ h=>h).aP C J λi hi h=>by rw[w i hi];exact h
 have w4:LS k z Y {d with op:=false} (Bf d):=by
  refine⟨?_,H.ob.aP C (λi hi A=>by rw[G i hi A];omega) λi hi h=>by rw[w i hi];exact h⟩;exact⟨H.ot.aP C (λi hi A=>by rw[G i hi A];omega) λi hi h=>by rw[w i hi];exact h,H.ea.aP C (λi hi A=>by rw[G i hi A];omega) λi hi h=>by rw[w i hi];exact h,H.et.aP C (λi hi A=>by rw[G i hi A];omega) λi hi h=>by rw[w i hi];exact h,
   H.HX.aP C J λi hi h=>by rw[w i hi];exact h,H.dn.aP C (λi hi A=>by rw[G i hi A];omega) λi hi h=>by rw[w i hi];exact h,λg hg=>(H.dk g hg).aP C J λi hi h=>by rw[w i hi];exact h,H.nx.aP C J λi hi h=>by rw[w i hi];exact h,H.nc,
   λg hg=>(H.nk g hg).aP C J λi hi h=>by rw[w i hi];exact h,H.ma.aP C (λi hi A=>by rw[G i hi A];omega) λi hi h=>by rw[w i hi];exact h,H.wa.aP C (λi hi A=>by rw[G i hi A];omega) λi hi h=>by rw[w i hi];exact h,(λhh=>by cases hh),H.kn,H.li,H.fi⟩
 have cf:=λy V=>(n2 y V).aP (rho':=z) C J λi hi h=>by rw[w i hi];exact h
 have cg:=n3.aP C (rho':=z) (λi hi A=>by rw[G i hi A];omega) λi hi h=>by rw[w i hi];exact h
 have cr:=n4.aP C (rho':=z) (λi hi A=>by rw[G i hi A];omega) λi hi h=>by rw[w i hi];exact h
 have bo:=((ba.trans (pP z1 (aV.bD (F:=λ_=>False) (e2.trans e3)) λ_ _ f=>f.elim)).trans de)
 clear_value z
 have b9:z d.b.block=k+1:=w4.o.2 d.b rfl;refine aL rfl (aL rfl (aL rfl (w4.put [dN q4] (gB rfl) (gB rfl) (by intro v K;rw[dE.1 K];rfl) λh5 w5 U z5=>?_)));have U:aV (λi=>i=d.b.block) Y h5:=U;have a0:=bo.trans (kI b9 U z5);have r5:eZ k z h5 {d with c:=(q4,d.c.2++[(cy,l')])}:=by
  refine w5.done rfl rfl λp=>⟨p.ot,p.ea,p.et,p.HX,p.dn,p.dk,p.nx,p.nc,p.nk,p.ma,p.wa,λ_=>⟨ac.aP U (λi hi e=>by subst e;omega) λ_ _ h=>h,λy V=>?_,cg.aP U (λi hi e=>by subst e;omega) λ_ _ h=>h,cr.aP U (λi hi e=>by subst e;omega) λ_ _ h=>h⟩,p.kn,p.li,p.fi⟩;rcases dH.1 V with V|V
  .exact(cf y V).aP U (λi hi e=>by subst e;omega) λ_ _ h=>h
  .rw[dE.1 V]
   exact ky.aP U (λi hi e=>by subst e;omega) λ_ _ h=>h
 have bb:Zf z h5:=z4.mono U.1;have bt:=o.len;have dx:=Z;have al:x.2.length<=70000/\uQ D.E.length 0 x.2:=by
  unfold EW at Z;rcases Z with h|h|h|h|h
  .exact absurd h.2 (by decide)
  .exact absurd h.2.2 (by decide)
  .exact absurd h.2.2.2 (by decide)
  .exact absurd h.2.2.2.2 (by decide)
  .exact⟨h.1,h.2.1⟩
 have bd:Ls (x.2.map dO):=by
  refine⟨by rw[cE];omega,λe he=>?_⟩;obtain⟨c,I,rfl⟩:=dB.1 he;have b1:=al.2.le c I;have b3:0<=c.1:=(Rm al.2 c I).1;have eh:c.2.1<=D.E.length:=(Rm al.2 c I).2.2;have ec:c.2.2.1.2.length<=(aX x.2).length:=by
   unfold aX;rw[Mz];exact yG (λe:iM=>e.2.2.1.2.length) I
  show 0<=c.1/\c.1<=c.2.1/\c.2.1<=2199023255552/\0<=(c.2.2.1.2.length:Int)/\(c.2.2.1.2.length:Int)<=2199023255552;exact⟨b3,b1,by omega,by omega,by omega⟩
 have cd:∀h',aV (λi=>z i=k+3\/z i=k+4) h5 h'->(Sh.list jT).ok h' x:=λh' c'=>by
  have cc:=a0.c.trans c' λi hi A=>?_
  .exact hx h' cc
  .by_cases ho:rho i<=k\/k+10<rho i
   .rw[a0.old i hi ho]at A;omega
   .omega
 refine dW (MZ r5 bb cd bd (λe he=>?_) λv K=>?_) λtg vs h6 hq=>?_
 .have he:e∈d.ms:=he
  rw[u]at he;have he:e∈D.ms:=he;rw[m.ms]at he;have:=o.mi e he;omega
 .have K:v∈d.ws:=K
  rw[u]at K;have K:v∈D.ws:=K;rw[m.ws]at K;have:=o.wk v K;omega
 obtain⟨rfl,rfl,c6,r6⟩:=hq;refine⟨rfl,(),rfl,aC ⟨rfl,0,rfl,by rw[<-m.E];exact Z,z,_,a0.trans (pP bb c6 λi _ A=>by rcases A with A|A<;>omega),r6,?_,a3,by show d.enc=_;rw[u],by show d.limit=_;rw[u]⟩⟩;rw[if_pos rfl];refine⟨?_,?_,?_,?_,?_,?_,?_,λq' ao=>?_,?_,?_,?_,?_,?_⟩
 .show d.E=(M.oZ q x.2).E
  rw[u,Mo.Y8 hm];show R'.E=_;rw[rE,m.E]
 .show d.D.map wY=_;rw[u];exact m.dn
 .show d.lost=_;rw[u];exact m.lo
 .show d.R.map wY=_;rw[u];exact m.nx
 .show lY _ d.ms=lY _ M.marks;rw[u];show lY _ D.ms=_;rw[m.ms]
 .show lM _ d.ws=lM _ M.watched;rw[u];show lM _ D.ws=_;rw[m.ws]
 .show d.op=true;exact ab
 .have ao:some _=some q':=ao
  cases ao;refine⟨?_,by show d.bg=q.bg;rw[u];exact ct,by show d.om=q.om;rw[u];exact cx,by show d.ow=q.ow;rw[u];exact c7⟩;show(d.c.2++[(cy,l')]).map (λe=>e.2.map hP)=q.lI++[x.2.map hP];rw[dP,a4,a8];show q.lI++[l'.map hP]=_;rw[b2]
 .show d.saved=_;rw[u];exact m.sv
 .show d.last=_;rw[u];exact m.la
 .show d.depth=_;rw[u];exact m.dp
 .show iH 0 0 (bJ d.enc d.lb)=_;rw[u];exact m.e0
 .show(d.lb.length:Int)<=d.limit;rw[u];exact m.li
end
section
variable{P:Program}{S:cH}{h:aG}{Q:Nat->bH->aG->Prop}{k:Nat}{rho:Nat->Nat}{D:Doc}
variable{α:Type}{i:Nat}{M:Mo}
theorem SA{f:α->Bool}{l:List α}{x:α}(hi:l[i]?=some x):(l.take (i+1)).any f=((l.take i).any f || f x):=by
 rw[eN,hi,Mt];simp
theorem Sz{f:α->Bool}{l:List α}(h:(l.take i).any f=true):l.any f=true:=by
 obtain⟨x,c,b⟩:=JE.1 h;exact JE.2 ⟨x,rW c,b⟩
theorem Pr{x:Yv}(ok:Ba.ok h x)(a b c:Int):aS P (rI S (x.1,a,b,c,())) [tB] h λ(y:Bool×Unit) _=>y.1=C2 (x.2.map (·.2)):=by
 unfold rI aS;refine λel=>?_;have R:Ext h (h.push (.cells [dN x.1,aH a,aH b,aH c].toArray el)):=Ext.push ..;have o1:cA h.size 1 (h.push (.cells [dN x.1,aH a,aH b,aH c].toArray el)) ⟨some ⟨h.size,0,none⟩,4,4⟩ [dN x.1,aH a,aH b,aH c]:=bR rfl (by decide) (by decide);show wp P _ (h.push (.cells [dN x.1,aH a,aH b,aH c].toArray el)) _;generalize h.push (.cells [dN x.1,aH a,aH b,aH c].toArray el)=E at R o1⊢;have a0:=ok.2.1;have a2:=ok.2.2.1;have al:aQ x.1.len=(x.2.length:Int):=by rw[aN,ok.1]
 have hlen:=ok.1;have Z:∀{g:aG} {Q:Nat->bH->aG->Prop} {K:Sl->aK},Ext E g->wp P (K x.1) g Q->wp P (.load (tS) (aB (some ⟨h.size,0,none⟩) 0) K) g Q:=λe hk=>bU (b:=.sl) x.1 rfl ((aV.bD (F:=λ_=>False) e).own o1 λ_ _ x=>x).cells rfl hk;have V:C2 (x.2.map (·.2))=x.2.any λy=>y.2.any pA:=by unfold C2;rw[Mu];rfl
 rw[V];refine bL (λ(s:Int×Unit) h'=>Ext E h'/\∃i:Nat,s.1=i/\i<=x.2.length/\(x.2.take i).any (λy=>y.2.any pA)=false) (λs _=>((x.2.length:Int)-s.1).toNat)
  (λt vs h'=>Ext E h'/\((t=2/\vs=[]/\(x.2.any λy=>y.2.any pA)=false)\/(t=1/\vs=[.bool true]/\(x.2.any λy=>y.2.any pA)=true))) ⟨Ext.refl _,0,rfl,cO _,rfl⟩ ?_ ?_
 .rintro⟨(si:Int),u⟩ h2 ⟨B,i,hi,hle,o⟩
  dsimp only at hi⊢;subst hi;refine Z B ?_;rw[al];refine aE (λU=>?_) λU=>?_
  .rw[aU]at U
   have ao:i<x.2.length:=by omega
   obtain⟨g,C⟩:∃g,x.2[i]?=some g:=⟨x.2[i],cK ao⟩;have A:=ok.el C;have ab:aQ g.1.len=(g.2.length:Int):=by rw[aN,A.1]
   have a1:=A.1;have a5:=A.2.1;have a6:=A.2.2.1;have J:=SA (f:=λy:GO=>y.2.any pA) C;rw[o,Bool.false_or]at J;refine bL (λ(s:Int×Unit) h'=>Ext E h'/\∃j:Nat,s.1=j/\j<=g.2.length/\(g.2.take j).any pA=false) (λs _=>((g.2.length:Int)-s.1).toNat)
    (λt vs h'=>Ext E h'/\((t=4/\vs=[]/\g.2.any pA=false)\/(t=1/\vs=[.bool true]/\g.2.any pA=true))) ⟨B,0,rfl,cO _,rfl⟩ ?_ ?_
   .rintro⟨(sj:Int),u⟩ h3 ⟨m,j,hj,a3,r⟩
    dsimp only at hj⊢;subst hj;have z:=ok.ext (R.trans m);refine Z m (Ob z C ?_);rw[ab];refine aE (λG=>?_) λG=>?_
    .rw[aU]at G
     have W:j<g.2.length:=by omega
     obtain⟨e,he⟩:∃e,g.2[j]?=some e:=⟨g.2[j],cK W⟩;have I:=SA (f:=pA) he;rw[r,Bool.false_or]at I;refine Z m (Ob z C (D4 (z.el C) he λh4 a4 e4 o4=>?_));have aw:e.2.2.1.1.len=e.2.2.1.2.length:=((z.el C).el he).2.2.1.1;refine fL (tys:=[tB]) (λ(y:Bool×Unit) h'=>y.1=pA e/\h'=h4) ?_ λ⟨(y:Bool),_⟩ h5 e5 O=>?_
     .refine bU (b:=bI) e.1 rfl o4.cells rfl (bU (b:=bI) e.2.1 rfl o4.cells rfl (aE (λT=>aC ⟨rfl,Ext.refl _,(true,()),rfl,?_,rfl⟩) λT=>bU (b:=.sl) e.2.2.1.1 rfl o4.cells rfl (aC ⟨rfl,Ext.refl _,(sN (aQ e.2.2.1.1.len) 0,()),rfl,?_,rfl⟩)))
      .rw[aU]at T
       show true=pA e;unfold pA;rw[decide_eq_true T];rfl
      .rw[aY]at T
       show sN (aQ e.2.2.1.1.len) 0=pA e;unfold pA;rw[decide_eq_false (by omega),Bool.false_or,aN,aw];rw[Bool.eq_iff_iff,dL,decide_eq_true_iff];omega
     obtain⟨O,rfl⟩:=O;have O:y=pA e:=O;subst O;refine aE (λH=>?_) λH=>?_
     .refine aC ⟨λd=>absurd d (by decide),λ_=>⟨m.trans e4, .inr ⟨rfl,rfl,Sz (i:=j+1) ?_⟩⟩⟩
      rw[I];exact H
     .rw[aW (by omega) (by omega)]
      exact aC ⟨λ_=>⟨((j:Int)+1,()),rfl,⟨m.trans e4,j+1,by push_cast;rfl,by omega,by rw[I];exact H⟩,by dsimp only;omega⟩,λd=>absurd rfl d⟩
    .rw[aY]at G
     have:j=g.2.length:=by omega
     subst this;rw[fH]at r;exact aC ⟨λd=>absurd d (by decide),λ_=>⟨m, .inl ⟨rfl,rfl,r⟩⟩⟩
   .rintro t vs h3 ⟨m,⟨rfl,rfl,Y⟩|⟨rfl,rfl,w⟩⟩
    .refine bG (bO ?_)
     rw[aW (by omega) (by omega)];exact aC ⟨λ_=>⟨((i:Int)+1,()),rfl,⟨m,i+1,by push_cast;rfl,by omega,by rw[J];exact Y⟩,by dsimp only;omega⟩,λd=>absurd rfl d⟩
    .refine oF (by decide) (bG (gA (aC ⟨λd=>absurd d (by decide),λ_=>⟨m, .inr ⟨rfl,rfl,Sz (i:=i+1) ?_⟩⟩⟩)))
     rw[J];exact w
  .rw[aY]at U
   have:i=x.2.length:=by omega
   subst this;rw[fH]at o;exact aC ⟨λd=>absurd d (by decide),λ_=>⟨B, .inl ⟨rfl,rfl,o⟩⟩⟩
 .rintro t vs h2 ⟨B,⟨rfl,rfl,o⟩|⟨rfl,rfl,w⟩⟩
  .exact bG (bO (aC ⟨rfl,R.trans B,(false,()),rfl,o.symm⟩))
  .exact oF (by decide) (bG (gA (aC ⟨rfl,R.trans B,(true,()),rfl,w.symm⟩)))
theorem eZ.okc(r:eZ k rho h D)(b:D.op=true):Ba.ok h D.c:=by
 obtain⟨f,g,_⟩:=r.nw b;exact PK f.1 λy d=>(g y d).now
theorem DocM.SX(m:DocM D M){q:CR}(hm:M.now=some q):C2 (D.c.2.map (·.2))=C2 q.lI:=by
 rw[<-(m.nw q hm).1];unfold C2;rw[Mu,Mu]
 congr 1
 funext e
 exact(P0 e.2).symm
theorem ay(r:eZ k rho h D){K:Sl×Int×Int×Int×Unit->aK}(f:wp P (K (D.c.1,D.bg,D.en,D.gs,())) h Q) :
  wp P (bF (aJ (some D.b))<|bF (aJ (some D.b))<|.load (.agg [.sl, .int .i64, .int .i64, .int .i64]) (aB (some D.b) 11) K) h Q:=by
 refine aL rfl (aL rfl ⟨D.b.add 11,rfl,(D.c.1,D.bg,D.en,D.gs,()),aI.2 λj v d=>?_,f⟩);rw[add_add];refine aI.1 r.ob.1.cells (11+j) v ?_
 match j,d with
 |0,d=>exact d
 |1,d=>exact d
 |2,d=>exact d
 |3,d=>exact d
 |j+4,d=>exact absurd (cQ.1 d).1 (by show ¬(j+4<4);omega)
theorem gx(r:eZ k rho h D)(m:DocM D M):aS P (sD S (some D.b)) [tB] h λ(y:Bool×Unit) _=>y.1=M.Er:=by
 unfold sD aS;refine cZ (λt vs h'=>Ext h h'/\((t=1/\vs=[.bool true]/\(M.now.map λq=>C2 q.lI).getD false=true)\/(t=0/\vs=[]/\(M.now.map λq=>C2 q.lI).getD false=false))) ?_ ?_
 .refine r.rd (b:=.bool) D.op rfl (aE (λc=>?_) λc=>?_)
  .have z:=c
   rw[m.op]at c;obtain⟨q,hm⟩:=BC.1 c;refine ay r ?_;dsimp only;refine aM (Pr (r.okc z) D.bg D.en D.gs) λ⟨(y:Bool),_⟩ A f d=>?_;have d:y=C2 q.lI:=d.trans (m.SX hm);subst d;rw[hm];refine aE (λc=>aC ⟨f, .inl ⟨rfl,rfl,c⟩⟩) λc=>aC ⟨f, .inr ⟨rfl,rfl,c⟩⟩
  .rw[m.op]at c
   have B:M.now=none:=by cases h:M.now with
    |none=>rfl
    |some q=>rw[h]at c;cases c
   rw[B];exact aC ⟨Ext.refl _, .inr ⟨rfl,rfl,rfl⟩⟩
 .rintro t vs A ⟨f,⟨rfl,rfl,d⟩|⟨rfl,rfl,d⟩⟩
  .refine bG (gA (aC ⟨rfl,f,(true,()),rfl,?_⟩))
   show true=M.Er;unfold Mo.Er;rw[d,Bool.or_true]
  .refine oF (by decide) (bG (bO ?_))
   have o:=r.ext f;refine o.rd (b:=bI) D.saved rfl ?_;refine aM (V3 o m) λ⟨(y:Int),_⟩ E u g=>?_;have g:y=M.st:=g;subst g;have C:=o.ext u;refine⟨⟨_,rfl,aI.2 λj v w=>?_⟩,aC ⟨rfl,f.trans u,(_,()),rfl,?_⟩⟩
   .cases j with
    |zero=>cases w;rw[add_zero'];exact aI.1 C.ob.1.cells 17 _ rfl
    |succ j=>simp at w
   .show G8 M.st D.saved=M.Er
    unfold Mo.Er;rw[d,Bool.or_false,m.sv];unfold G8;by_cases h:M.st=M.saved
    .simp[h]
    .simp[h]
theorem qk(r:eZ k rho h D)(m:DocM D M)(name:Int):aS P (tZ S (some D.b) name) [tI, tI] h λ(y:Int×Int×Unit) _=>y.1=(M.EK name).1/\y.2.1=(M.EK name).2:=by
 unfold tZ aS;have g:=m.ms;have w:aQ D.sm.len=(D.ms.length:Int):=by rw[aN,iX.len r.ma.1]
 have A:=r.ma.1.2.1;have C:=r.ma.1.2.2.1;have hlen:=iX.len r.ma.1;refine bL (λ(s:Int×Unit) h'=>h'=h/\∃i:Nat,s.1=i/\i<=D.ms.length/\Cb name D.ms=Cb name (D.ms.drop i)) (λs _=>((D.ms.length:Int)-s.1).toNat)
  (λt vs h'=>h'=h/\((t=2/\vs=[]/\Cb name D.ms=none)\/(t=1/\∃v,vs=[aH v,aH 0]/\Cb name D.ms=some v))) ⟨rfl,0,rfl,cO _,rfl⟩ ?_ ?_
 .rintro⟨(E:Int),u⟩ z ⟨rfl,i,hi,hle,c⟩
  dsimp only at hi⊢;subst hi;refine r.rd (b:=.sl) D.sm rfl ?_;rw[w];refine aE (λo=>?_) λo=>?_
  .rw[aU]at o
   have d:i<D.ms.length:=by omega
   have B:D.ms.drop i=el D.ms i::D.ms.drop (i+1):=by
    rw[gY d]
    congr 1
    simp[el,List.getD,cK d]
   rw[B,show Cb name (el D.ms i::D.ms.drop (i+1))=if (el D.ms i).1=name then some (el D.ms i).2 else Cb name (D.ms.drop (i+1)) from rfl]at c;refine r.rd (b:=.sl) D.sm rfl (Oc (j:=0) (v:=(el D.ms i).1) r.ma.1 d rfl (aE (λhe=>?_) λhe=>?_))
   .rw[cM]at he
    rw[if_pos he]at c;refine r.rd (b:=.sl) D.sm rfl (Oc (j:=1) (v:=(el D.ms i).2) r.ma.1 d rfl ?_);exact aC ⟨λf=>absurd f (by decide),λ_=>⟨rfl, .inr ⟨rfl,_,rfl,c⟩⟩⟩
   .rw[dS]at he
    rw[if_neg he]at c;rw[aW (by omega) (by omega)];exact aC ⟨λ_=>⟨((i:Int)+1,()),rfl,⟨rfl,i+1,by push_cast;rfl,by omega,c⟩,by dsimp only;omega⟩,λf=>absurd rfl f⟩
  .rw[aY]at o
   have:i=D.ms.length:=by omega
   subst this;rw[F6]at c;exact aC ⟨λf=>absurd f (by decide),λ_=>⟨rfl, .inl ⟨rfl,rfl,c⟩⟩⟩
 .rintro t vs z ⟨rfl,⟨rfl,rfl,c⟩|⟨rfl,v,rfl,c⟩⟩
  .refine bG (bO (aC ⟨rfl,Ext.refl _,(0,74,()),rfl,?_⟩))
   unfold Mo.EK;rw[<-g,c];exact⟨rfl,rfl⟩
  .refine oF (by decide) (bG ⟨(v,0,()),rfl,aC ⟨rfl,Ext.refl _,(v,0,()),rfl,?_⟩⟩)
   unfold Mo.EK;rw[<-g,c];exact⟨rfl,rfl⟩
end
section
variable{P:Program}{S:cH}{h:aG}{Q:Nat->bH->aG->Prop}{k:Nat}{rho:Nat->Nat}{D:Doc}
theorem SC{r size:Nat}{s q:Sl}{vs d:bH}{h':aG}(z:Zf rho h)(o:tL r size rho h s vs)(c:aV (fZ s) h h')(o':cA 0 size h' q d)(hb:∀a,q.aD=some a->s.aD=some a\/h.size<=a.block)(m:k<r/\r<=k+10) :
  ∃rho',cX k h rho h' rho'/\tL r size rho' h' q d/\Zf rho' h'/\(∀i,i<h.size->rho' i=rho i)/\∀i,i<h.size->fZ s i->rho i=r:=by
 have f:∀i,i<h.size->fZ s i->rho i=r:=λi _ ⟨a,ha,e⟩=>by rw[<-e];exact o.2 a ha
 have u:=c.1;have old:∀i,i<h.size->Hist.nr h rho q r i=rho i:=λi hi=>wP hi;refine⟨Hist.nr h rho q r,⟨c.mono λi hi t=>by rw[f i hi t];exact m,λi hi _=>old i hi,λi hi b=>?_⟩,⟨o',λa ha=>?_⟩,λi hi=>Kk (by omega) λ⟨a,ha,e⟩=>by have:=(o'.lt ha).2;omega,old,f⟩
 .by_cases g:i<h.size
  .rw[old i g]
   rcases b with b|b
   .omega
   .exact .inr b
  .by_cases j:fZ q i
   .rw[EL (by omega) j];exact .inr m
   .rw[Kk (by omega) j];exact .inl rfl
 .rcases hb a ha with hb|hb
  .rw[old _ (o.1.lt hb).2];exact o.2 a hb
  .exact EL hb ⟨a,ha,rfl⟩
open Classical in
theorem eZ.shut(r:eZ k rho h D)(B:D.op=true)(z:Zf rho h):∃rho',cX k h rho h rho'/\LS k rho' h {D with op:=false} (Bf D)/\JZ (λh=>Ba.ok h D.c) rho' h/\Zf rho' h/\tL (k+7) 2 rho' h D.so (D.om.flatMap Cy)/\BW (k+8) rho' h D.sv D.ow:=by
 obtain⟨u,G,H,I⟩:=r.nw B;have w:∀i,fZ D.c.1 i->rho i=k+5:=λi ⟨a,ha,e⟩=>by rw[<-e];exact u.2 a ha
 let rho':Nat->Nat:=λi=>if fZ D.c.1 i then 0 else rho i
 have same:∀i r,r≠k+5->rho i=r->rho' i=r:=λi r C he=>by
  show(if fZ D.c.1 i then 0 else rho i)=r;by_cases j:fZ D.c.1 i
  .exact absurd ((w i j).symm.trans he).symm C
  .rw[if_neg j];exact he
 have c:=aV.refl (λ_=>False) h;have b:∀{r:Nat} (i:Nat),i<h.size->(λ_:Nat=>False) i->rho i≠r:=λi _ f=>f.elim;refine⟨rho',⟨aV.refl _ _,λi hi d=>?_,λi hi d=>?_⟩,⟨?_,r.ob.aP c b λi hi h=>same i _ (by omega) h⟩,λg o=>?_,λi hi=>same i 0 (by omega) (z i hi),H.aP c b λi hi h=>same i _ (by omega) h,I.aP c b λi hi h=>same i _ (by omega) h⟩
 .exact same i _ (λe=>by omega) rfl
 .by_cases j:fZ D.c.1 i
  .exact .inl (if_pos j)
  .rw[show rho' i=rho i from if_neg j]
   rcases d with d|d
   .omega
   .exact .inr d
 .exact⟨r.ot.aP c b λi hi h=>same i _ (by omega) h,r.ea.aP c b λi hi h=>same i _ (by omega) h,r.et.aP c b λi hi h=>same i _ (by omega) h,r.HX.aP c b λi hi h=>same i _ (by omega) h,r.dn.aP c b λi hi h=>same i _ (by omega) h,
   λg m=>(r.dk g m).aP c b λi hi h=>same i _ (by omega) h,r.nx.aP c b λi hi h=>same i _ (by omega) h,r.nc,λg m=>(r.nk g m).aP c b λi hi h=>same i _ (by omega) h,r.ma.aP c b λi hi h=>same i _ (by omega) h,r.wa.aP c b λi hi h=>same i _ (by omega) h,λA=>(by cases A),r.kn,r.li,r.fi⟩
 .refine PK (o.own u.1 λa ha t=>?_) λy E=>((G y E).aP (rho':=rho') c b λi hi h=>same i _ (by omega) h) g o
  have:rho' a.block=0:=if_pos ⟨a,ha,rfl⟩;rw[this]at t;exact absurd t (HV 0)
theorem wi(r:eZ k rho h D){M:Mo}{N:Nat}(m:DocM D M)(o:iF D.enc D.limit M N)(hN:N<=68719476736){a:Int}(g3:cY .i64 a)(g5:M.lost.length+M.done.length<=4294967295) :
  wp P (rJ S (some D.b) a) h λtg vs h'=>tg=0/\vs=[aH (M.OU a).1]/\kA k h rho h' D (M.OU a).2:=by
 unfold rJ;have g7:=cX.mV (k:=k) (rho:=rho) (Ext.refl h);refine r.rd (b:=.bool) D.op rfl (aE (λhc=>?_) λhc=>?_)
 .rw[dF,m.op]at hc
  have hn:M.now=none:=by cases h:M.now with
   |none=>rfl
   |some q=>rw[h]at hc;cases hc
  have:M.OU a=(71,M):=by unfold Mo.OU;rw[hn]
  rw[this];exact aC ⟨rfl,rfl,kA.ext r m (Ext.refl _)⟩
 rw[eG]at hc;have eg:=hc;rw[m.op]at hc;obtain⟨q,hm⟩:=BC.1 hc;have cr:M.OU a=if M.ins a then (0,if C2 q.lI then M.aP q a else {M with now:=none}) else (2,M):=by unfold Mo.OU;rw[hm]
 rw[cr];refine aM (Io r a) λ⟨(y:Bool),_⟩ h1 e1 hy=>?_;have hy:y=true↔0<=a/\a<=D.E.length:=hy;have a3:M.ins a↔0<=a/\a<=D.E.length:=by unfold Mo.ins;rw[m.E]
 dsimp only;refine aE (λab=>?_) λab=>?_
 .rw[dF]at ab
  rw[if_neg (λZ=>by rw[hy.2 (a3.1 Z)]at ab;cases ab)];exact aC ⟨rfl,rfl,kA.ext r m e1⟩
 rw[eG]at ab;rw[if_pos (a3.2 (hy.1 ab))];have e7:=cX.mV (k:=k) (rho:=rho) e1;have r1:=r.zr e1;have z1:=(Lr h rho).mono e1.1;obtain⟨H,bb,w2,eh,z2,_⟩:=r1.shut eg z1;have bb:=e7.trans bb;have ao:H D.b.block=k+1:=w2.o.2 D.b rfl;obtain⟨A,u⟩:∃A,A=({D with op:=false}:Doc):=⟨_,rfl⟩;have aw:A.b=D.b:=by rw[u]
 have g2:Bf D=(Bf A).take 10++[.bool D.op]++(Bf A).drop 11:=by rw[u];rfl
 rw[<-u]at w2;have kept:∀{g g':aG} {p:aG->Prop},JZ p H g->aV (λi=>i=A.b.block) g g'->JZ p H g':=λkk c=>kk.aP c (λi hi e=>by rw[e,aw,ao];omega) λ_ _ h=>h;rw[<-aw]at ao⊢;refine w2.Di (gB rfl) rfl λh3 w3 c3 z3=>?_;have e9:=bb.trans (kI ao c3 z3);have a8:=kept eh c3;have df:(Bf D).take 10++[Value.bool false]++(Bf D).drop (10+1)=Bf A:=by rw[u];rfl
 rw[df]at w3;have r3:eZ k H h3 A:={toDocP:=w3.p,ob:=w3.o};have b0:D.c=A.c:=by rw[u]
 rw[b0]at a8;refine ay r3 ?_;dsimp only;refine aM (Pr a8.now A.bg A.en A.gs) λ⟨(y:Bool),_⟩ h4 e4 a7=>?_;have a7:y=C2 q.lI:=by
  have h1:y=_:=a7;rw[h1,<-b0];exact m.SX hm
 subst a7;have cc:=e9.trans (pP (z2.mono (by rw[z3];exact bM _)) (aV.bD (F:=λ_=>False) e4) λ_ _ f=>f.elim);have z4:Zf H h4:=z2.mono (by have:=e4.1;omega);have w4:=w3.ext e4;have ei:=a8.aP (rho':=H) (aV.bD (F:=λ_=>False) e4) (λ_ _ f=>f.elim) λ_ _ h=>h;have hE:M.E=lL M.C q.lI:=by unfold Mo.E Mo.ch;rw[hm];rfl
 dsimp only;refine aE (λal=>?_) λal=>?_
 .rw[dF]at al
  rw[al,if_neg (by decide)];refine aC ⟨rfl,rfl,H,A,cc,{toDocP:=w4.p,ob:=w4.o},?_,aw,by rw[u],by rw[u]⟩;have bo:({M with now:=none}:Mo).E=M.E:=by
   rw[Mo.xK rfl,hE];have b8:=o.eu;have:M.ch=q.lI:=by unfold Mo.ch;rw[hm];rfl
   rw[this]at b8;exact(IN b8 al).symm
  rw[u];exact⟨m.E.trans bo.symm,m.dn,m.lo,m.nx,m.ms,m.ws,rfl,λq' a5=>(by cases a5),m.sv,m.la,m.dp,m.e0,m.li⟩
 rw[eG]at al;rw[al,if_pos rfl];have g4 : -4611686018427387904<=A.last/\A.last<=4611686018427387904:=by
  have h1:A.last=M.last:=by rw[u];exact m.la
  have h2:=o.la;have h3:=o.sz;unfold Mo.sz at h3;omega
 have r4:eZ k H h4 A:={toDocP:=w4.p,ob:=w4.o};refine w4.rd (b:=bI) A.last rfl ?_;rw[aW (by omega) (by omega)];refine w4.Di (gB rfl) rfl λh5 w5 c5 z5=>?_;have fj:=cc.trans (kI ao c5 z5);have ej:=kept ei c5;have sh:∀j,aB (aB (some A.b) 11) j=aB (some A.b) (11+j):=λj=>by show some ((A.b.add 11).add j)=some (A.b.add (11+j));rw[add_add]
 refine aL rfl (aL rfl (aL rfl ?_));rw[sh 2];refine w5.put [aH a] (gB rfl) (gB rfl) (by intro v hv;rw[dE.1 hv];rfl) λh6 w6 c6 z6=>?_;have fl:=fj.trans (kI ao c6 z6);have er:=kept ej c6;refine w6.rd (b:=bI) (A.last+1) rfl (aL rfl (aL rfl (aL rfl ?_)));rw[sh 3];refine w6.put [aH (A.last+1)] (gB rfl) (gB rfl) (by intro v hv;rw[dE.1 hv];rfl) λh7 w7 c7 z7=>?_;have fm:=fl.trans (kI ao c7 z7);have ey:=kept er c7;obtain⟨d,B⟩:∃d,d=({A with last:=A.last+1,en:=a,gs:=A.last+1}:Doc):=⟨_,rfl⟩;have b1:d.b=A.b:=by rw[B]
 have r7:eZ k H h7 d:=by
  rw[B];exact w7.done rfl rfl λp=>⟨p.ot,p.ea,p.et,p.HX,p.dn,p.dk,p.nx,p.nc,p.nk,p.ma,p.wa,λZ=>p.nw Z,p.kn,p.li,p.fi⟩
 rw[<-b1];have g1:h7.size=h4.size:=by omega
 have cd:Zf H h7:=z4.mono (by omega);refine r7.rd (b:=.sl) d.sd rfl (ay r7 ?_);dsimp only;obtain⟨G,hG⟩:∃G:DG,G=⟨d.c,d.bg,d.en,d.gs⟩:=⟨_,rfl⟩;refine λel=>?_;have e8:Ext h7 (h7.push (.cells [dN d.c.1,aH d.bg,aH d.en,aH d.gs].toArray el)):=Ext.push ..;have o8:cA h7.size 1 (h7.push (.cells [dN d.c.1,aH d.bg,aH d.en,aH d.gs].toArray el)) ⟨some ⟨h7.size,0,none⟩,4,4⟩ [dN d.c.1,aH d.bg,aH d.en,aH d.gs]:=bR rfl (by decide) (by decide);show wp P _ (h7.push (.cells [dN d.c.1,aH d.bg,aH d.en,aH d.gs].toArray el)) _;generalize h7.push (.cells [dN d.c.1,aH d.bg,aH d.en,aH d.gs].toArray el)=h8 at e8 o8⊢;have T:=r7.ext e8;have ft:=fm.trans (pP cd (aV.bD (F:=λ_=>False) e8) λ_ _ f=>f.elim);have g0:=cd.mono e8.1;have e2:=ey.aP (rho':=H) (aV.bD (F:=λ_=>False) e8) (λ_ _ f=>f.elim) λ_ _ h=>h;refine⟨⟨_,rfl,aI.2 λj v hj=>?_⟩,?_⟩
 .cases j with
  |zero=>cases hj;rw[add_zero'];exact aI.1 T.ob.1.cells 5 _ rfl
  |succ j=>simp at hj
 have dr:=T.dn.1.1;rw[gM (m:=4) λ_=>rfl]at dr;have b6:d.D.map wY=M.lost++M.done:=by rw[B,u];exact m.dn
 have cg:=congrArg List.length b6;rw[cE,bQ]at cg;have e6:Rd 4 h8 ⟨some ⟨h7.size,0,none⟩,1,1⟩ ([G].flatMap Ep):=⟨rfl,λi v hi=>⟨_,rfl,aI.1 o8.cells i v (by rw[hG]at hi;simpa using hi)⟩⟩;refine iR T.dn.1 (cO _) e6 (by intro v hv;simp at hv;rcases hv with rfl|rfl|rfl|rfl<;>rfl) rfl (by dsimp only;omega) (by dsimp only;omega) λq9 h9 o9 l9 u9 b9 _=>?_;have Y:aV (fZ d.sd) h8 h9:=aV.dK u9 λx hx _=>⟨x,hx,rfl⟩;rw[<-gX]at o9;obtain⟨O,ct,a9,z9,J,de⟩:=SC (k:=k) (r:=k+6) g0 T.dn Y o9 b9 (by omega);have fv:=ft.trans ct;have U:∀i,i<h8.size->fZ d.sd i->H i=k+6:=de;have e3:=e2.aP (rho':=O) Y (λi hi K=>by rw[U i hi K];omega) λi hi h=>by rw[J i hi];exact h
 have a4:d.op=false:=by rw[B,u]
 have cf:d.c=A.c:=by rw[B]
 have w9:LS k O h9 {d with sd:=q9,D:=d.D++[G]} (Bf d):=by
  refine⟨?_,T.ob.aP Y (λi hi K=>by rw[U i hi K];omega) λi hi h=>by rw[J i hi];exact h⟩;refine⟨T.ot.aP Y (λi hi K=>by rw[U i hi K];omega) λi hi h=>by rw[J i hi];exact h,T.ea.aP Y (λi hi K=>by rw[U i hi K];omega) λi hi h=>by rw[J i hi];exact h,T.et.aP Y (λi hi K=>by rw[U i hi K];omega) λi hi h=>by rw[J i hi];exact h,
   T.HX.aP Y (λi hi K=>by rw[U i hi K];omega) λi hi h=>by rw[J i hi];exact h,a9,λg V=>?_,T.nx.aP Y (λi hi K=>by rw[U i hi K];omega) λi hi h=>by rw[J i hi];exact h,T.nc,
   λg V=>(T.nk g V).aP Y (λi hi K=>by rw[U i hi K];omega) λi hi h=>by rw[J i hi];exact h,T.ma.aP Y (λi hi K=>by rw[U i hi K];omega) λi hi h=>by rw[J i hi];exact h,T.wa.aP Y (λi hi K=>by rw[U i hi K];omega) λi hi h=>by rw[J i hi];exact h,λZ=>?_,T.kn,T.li,T.fi⟩
  .rcases dH.1 V with V|V
   .exact(T.dk g V).aP Y (λi hi K=>by rw[U i hi K];omega) λi hi h=>by rw[J i hi];exact h
   .rw[dE.1 V,hG]
    show JZ (λh=>Ba.ok h d.c) O h9;rw[cf];exact e3
  .have Z:d.op=true:=Z
   rw[a4]at Z;cases Z
 have a6:O d.b.block=k+1:=w9.o.2 d.b rfl;refine w9.Di (gB rfl) rfl λbp fy a0 gm=>fy.Di (gB rfl) rfl λbs gf a1 gv=>?_;have a0:aV (λi=>i=d.b.block) h9 bp:=a0;have a1:aV (λi=>i=d.b.block) bp bs:=a1;have ba:=(fv.trans (kI a6 a0 gm)).trans (kI a6 a1 gv);obtain⟨z,I⟩:∃z,z=({d with sd:=q9,D:=d.D++[G],sn:=⟨none,0,0⟩,R:=[]}:Doc):=⟨_,rfl⟩;have b2:z.b=d.b:=by rw[I]
 have W:eZ k O bs z:=by
  rw[I];exact gf.done rfl rfl λp=>⟨p.ot,p.ea,p.et,p.HX,p.dn,p.dk,λg c=>⟨rfl,λi v hi=>by simp at hi⟩,⟨bM 0,(by decide:0<2^63)⟩,λg V=>(by cases V),p.ma,p.wa,λZ=>p.nw Z,p.kn,p.li,p.fi⟩
 rw[<-b2];have ec:(M.aP q a).E=M.E:=by rw[Mo.xK (M:=M.aP q a) rfl];exact Mo.U7 hm
 have dx:wY G=⟨q.lI,q.bg,a,M.last+1⟩:=by
  have n:=m.nw q hm;rw[hG,B,u];show(⟨D.c.2.map λe=>e.2.map hP,D.bg,a,D.last+1⟩:GM)=_;rw[n.1,n.2.1,m.la]
 have b3:z.D.map wY=(M.aP q a).lost++(M.aP q a).done:=by
  rw[Mo.C7,I];show(d.D++[G]).map wY=_;rw[dP,b6];show _++[wY G]=_;rw[dx]
 have b4:z.lost=M.lost.length:=by rw[I,B,u];exact m.lo
 have ds:z.depth=M.depth:=by rw[I,B,u];exact m.dp
 have g6:(z.sd.len:Int)=M.lost.length+M.done.length+1:=by
  have h1:=W.dn.1.1;rw[gM (m:=4) λ_=>rfl]at h1;have h2:=congrArg List.length b3;rw[cE,Mo.C7]at h2;simp at h2;omega
 have fin:∀(L:Int) (D3:Doc),L=(M.aP q a).lost.length->D3={z with lost:=L}->DocM D3 (M.aP q a)/\D3.b=D.b/\D3.enc=D.enc/\D3.limit=D.limit:=λL D3 hL c4=>by
  have c8:z.E=M.E:=by rw[I,B,u];exact m.E
  subst c4;refine⟨⟨by rw[ec];exact c8,b3,hL,?_,?_,?_,?_,λq' a5=>(by cases a5),?_,?_,ds,?_,?_⟩,?_,?_,?_⟩
  .show z.R.map wY=[];rw[I];rfl
  .show z.ms=M.marks;rw[I,B,u];exact m.ms
  .show z.ws=M.watched;rw[I,B,u];exact m.ws
  .show z.op=false;rw[I];exact a4
  .show z.saved=M.saved;rw[I,B,u];exact m.sv
  .show z.last=M.last+1;rw[I,B,u];show D.last+1=_;rw[m.la]
  .show iH 0 0 (bJ z.enc z.lb)=M.E0;rw[I,B,u];exact m.e0
  .show(z.lb.length:Int)<=z.limit;rw[I,B,u];exact m.li
  .show z.b=D.b;rw[b2,b1,aw]
  .show z.enc=D.enc;rw[I,B,u]
  .show z.limit=D.limit;rw[I,B,u]
 have bd:O z.b.block=k+1:=W.ob.2 z.b rfl;refine cZ (λt vs h'=>t=0/\vs=[]/\kA k h rho h' D (M.aP q a)) ?_ ?_
 .refine W.rd (b:=.sl) z.sd rfl (W.rd (b:=bI) z.lost rfl (W.rd (b:=bI) z.depth rfl ?_))
  rw[aN,bY (by omega) (by omega)];refine aE (λV=>?_) λV=>?_
  .rw[dL]at V
   have a2:M.depth<(M.done.length:Int)+1:=by omega
   refine W.rd (b:=bI) z.lost rfl ?_;rw[aW (by omega) (by omega)];refine W.w.Di (gB rfl) rfl λbt gg cx gw=>?_;have e5:eZ k O bt {z with lost:=z.lost+1}:=gg.done rfl rfl λp=>⟨p.ot,p.ea,p.et,p.HX,p.dn,p.dk,p.nx,p.nc,p.nk,p.ma,p.wa,λZ=>p.nw Z,p.kn,p.li,p.fi⟩;have hL:z.lost+1=((M.aP q a).lost.length:Int):=by
    unfold Mo.aP;dsimp only;rw[if_pos a2,b4];have:(M.done++[(⟨q.lI,q.bg,a,M.last+1⟩:GM)]).length=M.done.length+1:=by simp
    rw[bQ,dJ];push_cast;omega
   obtain⟨f1,f2,f3,f4⟩:=fin _ _ hL rfl;exact aC ⟨rfl,rfl,O,_,ba.trans (kI bd cx gw),e5,f1,f2,f3,f4⟩
  .rw[gF]at V
   have a2:¬M.depth<(M.done.length:Int)+1:=by omega
   have hL:z.lost=((M.aP q a).lost.length:Int):=by
    unfold Mo.aP;dsimp only;rw[if_neg a2,b4]
   obtain⟨f1,f2,f3,f4⟩:=fin _ _ hL rfl;exact aC ⟨rfl,rfl,O,z,ba,W,f1,f2,f3,f4⟩
 .rintro t vs bt ⟨rfl,rfl,dp⟩
  exact bG (bO (aC ⟨rfl,rfl,dp⟩))
end
section
variable{P:Program}{S:cH}{h:aG}{Q:Nat->bH->aG->Prop}{k:Nat}{rho:Nat->Nat}{D:Doc}
variable{i:Nat}{es:List iM}
theorem LU.at{enc limit:Int}:∀{cs:List (List iM)} {E:List El} {j:Nat} {c:List iM},ME enc limit E->LU enc limit E cs->cs[j]?=some c->c.length<=70000/\H5 enc limit (lL E (cs.take j)) c/\ME enc limit (lL E (cs.take j))
 |[],_,_,_,_,_,b=>by simp at b
 |d::cs,E,0,c,he,⟨g,f,m⟩,b=>by
  simp at b;subst b;exact⟨g,f,he⟩
 |d::cs,E,j+1,c,he,⟨g,f,m⟩,b=>by
  have:=LU.at (E:=jA E d) (cs:=cs) (j:=j) (c:=c) (he.all f) m (by simpa using b);exact this
theorem H3.at{enc limit:Int}:∀{l:List GM} {E:List El} {i:Nat} {g:GM},ME enc limit E->H3 enc limit E l->l[i]?=some g->LU enc limit (iU E (l.take i)) g.lI/\ME enc limit (iU E (l.take i))
 |[],_,_,_,_,_,b=>by simp at b
 |d::l,E,0,g,he,⟨c,f⟩,b=>by
  simp at b;subst b;exact⟨c,he⟩
 |d::l,E,i+1,g,he,⟨c,f⟩,b=>H3.at (E:=lL E d.lI) (l:=l) (i:=i) (g:=g) (c.ok he) f (by simpa using b)
theorem XR{cs:List (List iM)}{E:List El}{j:Nat}{c:List iM}(b:cs[j]?=some c):lL E (cs.take (j+1))=jA (lL E (cs.take j)) c:=by
 rw[eN,b];exact N4 ..
theorem Vj{l:List GM}{E:List El}{g:GM}(hi:l[i]?=some g):iU E (l.take (i+1))=lL (iU E (l.take i)) g.lI:=by
 rw[eN,hi];exact yD ..
theorem PL{enc limit:Int}{E:List El}(o:H5 enc limit E es):((aX es).length:Int)<=limit:=by
 obtain⟨f,b,j⟩:=o;have c:=Qe (E:=E) (kR 0) (by omega) f;have d:=Km (enc:=enc) (E:=E) (a:=0) b;have g:jA E es=fwd E 0 es:=by rw[c];rfl
 rw[<-g]at d;have m:=Oe b;have r:=(HI b).1;omega
theorem XP{enc limit q:Int}{E:List El}(b:es.length<=70000)(o:H5 enc limit E es)(h:EW enc limit E es q):q=0:=
 h.fn (.inr (.inr (.inr (.inr ⟨b,o.1,o.2.1,o.2.2,rfl⟩))))
theorem mf{b:B}{a:Nat}{m c:Nat}{vs:bH}(x:b.den){n:Nat}{K:b.den->aK}(o:cA n 1 h ⟨some (Cq a),m,c⟩ vs)(f:vs[i]?=some (b.inj x))(d:wp P (K x) h Q) :
  wp P (bF (aJ (some (Cq a)))<|bF (aJ (some (Cq a)))<|.load (.one b) (aB (some (Cq a)) i) K) h Q:=
 aL rfl (aL rfl (bU (b:=b) x rfl o.cells f d))
theorem b_{s:Sl}{l:List DG}{g:DG}{K:Sl->aK}(o:Rd 4 h s (l.flatMap Ep))(hi:l[i]?=some g)(d:wp P (K g.c.1) h Q) :
  wp P (bF (bN (aJ s.aD) (eU (i:Int) s.len))<|bF (aJ (aB s.aD (aZ (bP (i:Int)) 4)))<|.load (tS) (aB (aB s.aD (aZ (bP (i:Int)) 4)) 0) K) h Q:=by
 have r:=(cQ.1 hi).1;have f:=o.1;rw[gM (m:=4) λ_=>rfl]at f;obtain⟨a,ea,b⟩:=o.2 (i*4+0) (dN g.c.1) (by rw[IT (m:=4) (λ_=>rfl) hi (by decide)];rfl);refine aL (fA.2 ⟨by rw[ea];rfl,kN.2 ⟨by omega,by omega⟩⟩) (aL (by rw[ea];rfl) ?_);have j:aB (aB s.aD (aZ (bP (i:Int)) 4)) 0=some (a.add (i*4+0)):=by
  rw[ea,hO,eP,cR];show some ((a.add (i*4)).add 0)=_;rw[add_add]
 rw[j];exact bC _ g.c.1 rfl b d
theorem UW(r:eZ k rho h D)(z:Zf rho h){E0:List El}(h0:iH 0 0 (bJ D.enc D.lb)=E0)(df:(D.lb.length:Int)<=D.limit)(oe:ME D.enc D.limit E0)(og:H3 D.enc D.limit E0 (D.D.map wY))(b4:∀g∈D.D,g.c.2.length<=4294967296)(c9:D.D.length<=4294967296) :
  wp P (nA S (some D.b)) h λtg vs h'=>tg=0/\vs=[]/\∃sa st,aV (λi=>i=D.t) h h'/\eZ k rho h' {D with sa:=sa,st:=st,E:=iU E0 (D.D.map wY)}:=by
 unfold nA;have li:=r.li;refine r.rd (b:=bI) D.enc rfl (r.rd (b:=.sl) D.sb rfl (r.rd (b:=bI) D.limit rfl ?_));refine aM (Ps r.HX.now (by omega)) λ⟨(pp:OA),(ee:Int),_⟩ h1 e1 B=>?_;have B:EV h h1 D.enc D.limit D.lb pp ee:=B;obtain⟨R,rfl,a7,bt,b0,b1,a8⟩:∃R:RX,pp=some (Cq R.b)/\Bb h.size h1 R/\R.enc=D.enc/\R.limit=D.limit/\R.E=E0/\∀i,R.Z i->h.size<=i:=by
  cases B with
  |enc h=>exact absurd r.kn h
  |arg _ h=>exact absurd li h
  |full _ _ h=>omega
  |ok R _ _ _ a b c _ _ d e=>exact⟨R,rfl,a,b,c,by rw[d,h0],e⟩
 clear B;obtain⟨rb,a5⟩:∃rb,rb=R.b:=⟨_,rfl⟩;rw[<-a5];have ds:h.size<=rb:=by rw[a5];exact a8 _ a7.zb
 dsimp only;have a0:=r.dn.1.1;rw[gM (m:=4) λ_=>rfl]at a0;have a0:D.sd.len=D.D.length:=by omega
 have b8:aQ D.sd.len=(D.D.length:Int):=by rw[aN,a0]
 have bd:∀{g:aG} {T:RX} {c:GO} {E:List El} {K:aK} {Q:Nat->bH->aG->Prop},Ext h g->Bb h.size g T->T.b=rb->T.enc=D.enc->T.limit=D.limit->T.E=E->(∀i,T.Z i->h.size<=i)->(Sh.list jT).ok g c->c.2.length<=70000->H5 D.enc D.limit E c.2->ME D.enc D.limit E ->
   (∀g' H,Ext h g'->Bb h.size g' H->H.b=rb->H.enc=D.enc->H.limit=D.limit->H.E=jA E c.2->(∀i,H.Z i->h.size<=i)->wp P K g' Q)->wp P (.call (kT S (some (Cq rb)) c.1) [tI] λ_=>K) g Q:=by
  intro g T c E K Q eg I U te tl C tz ok cl oc oE hk;have dr:=PL oc;have c8:=oE.len;rw[<-U];refine dW (KM I eg.1 ok (by rw[C];omega) (by omega) (by omega)) λtg vs g1 hq=>?_;obtain⟨rfl,q,H,rfl,hE,b2,c1,t1,t2,t3,t4,_,t5,t6,t7⟩:=hq;have cd:q=0:=by
   rw[te,tl,C]at hE;exact XP cl oc hE
  subst cd;rw[if_pos rfl]at t5;refine⟨rfl,(0,()),rfl,hk g1 H ?_ b2 (t1.trans U) (t2.trans te) (t3.trans tl) (by rw[t5,C]) λi hi=>?_⟩
  .refine⟨dI eg.1 c1.1,λi hi=>(c1.2.1 i (mK hi eg.1) λe=>?_).trans (eg.2.1 i hi),λa ha=>c1.2.2 a (eg.2.2 a ha)⟩
   dsimp only at e;omega
  .rcases t7 i hi with h|h
   .exact tz i h
   .exact dI eg.1 h
 refine bL (λ(s:Int×Unit) h'=>Ext h h'/\∃(i:Nat) (T:RX),s.1=i/\i<=D.D.length/\Bb h.size h' T/\T.b=rb/\T.enc=D.enc/\T.limit=D.limit/\T.E=iU E0 ((D.D.map wY).take i)/\∀j,T.Z j->h.size<=j) (λs _=>((D.D.length:Int)-s.1).toNat)
  (λt vs h'=>Ext h h'/\t=2/\vs=[]/\∃T:RX,Bb h.size h' T/\T.b=rb/\T.enc=D.enc/\T.limit=D.limit/\T.E=iU E0 (D.D.map wY)/\∀j,T.Z j->h.size<=j) ⟨e1,0,R,rfl,cO _,a7,a5.symm,bt,b0,by rw[b1];rfl,a8⟩ ?_ ?_
 .rintro⟨(si:Int),u⟩ h2 ⟨e2,i,T,hi,hle,I,U,te,tl,C,tz⟩
  dsimp only at hi⊢;subst hi;have w:=r.ext e2;refine w.rd (b:=.sl) D.sd rfl ?_;rw[b8];refine aE (λhc=>?_) λhc=>?_
  .rw[aU]at hc
   have b9:i<D.D.length:=by omega
   obtain⟨g,G⟩:∃g,D.D[i]?=some g:=⟨D.D[i],cK b9⟩;have a9:(D.D.map wY)[i]?=some (wY g):=by rw[gQ,G];rfl
   obtain⟨oc,oE⟩:=og.at oe a9;have de:=b4 g (eL G);generalize bs:iU E0 ((D.D.map wY).take i)=Ei at C oc oE;refine bL (λ(s:Int×Unit) h'=>Ext h h'/\∃(j:Nat) (T:RX),s.1=j/\j<=g.c.2.length/\Bb h.size h' T/\T.b=rb/\T.enc=D.enc/\T.limit=D.limit/\T.E=lL Ei ((wY g).lI.take j)/\∀j,T.Z j->h.size<=j) (λs _=>((g.c.2.length:Int)-s.1).toNat)
    (λt vs h'=>Ext h h'/\t=4/\vs=[]/\∃T:RX,Bb h.size h' T/\T.b=rb/\T.enc=D.enc/\T.limit=D.limit/\T.E=lL Ei (wY g).lI/\∀j,T.Z j->h.size<=j) ⟨e2,0,T,rfl,cO _,I,U,te,tl,C,tz⟩ ?_ ?_
   .rintro⟨(sj:Int),u⟩ h3 ⟨e3,j,T3,hj,c7,V,Y,ab,al,J,ao⟩
    dsimp only at hj⊢;subst hj;have r3:=r.ext e3;have a6:Ba.ok h3 g.c:=(r3.dk g (eL G)).now;have b6:aQ g.c.1.len=(g.c.2.length:Int):=by rw[aN,a6.1]
    refine r3.rd (b:=.sl) D.sd rfl (b_ r3.dn.1.rd G ?_);rw[b6];refine aE (λaw=>?_) λaw=>?_
    .rw[aU]at aw
     have bo:j<g.c.2.length:=by omega
     obtain⟨y,B⟩:∃y,g.c.2[j]?=some y:=⟨g.c.2[j],cK bo⟩;have bb:(wY g).lI[j]?=some (y.2.map hP):=by show(g.c.2.map _)[j]?=_;rw[gQ,B];rfl
     obtain⟨c1,c2,c3⟩:=oc.at oE bb;rw[cE]at c1;rw[D9]at c2;refine r3.rd (b:=.sl) D.sd rfl (b_ r3.dn.1.rd G (Ob a6 B ?_));refine bd e3 V Y ab al J ao (a6.el B) c1 c2 c3 λg4 T4 e4 b3 ct cx c5 cr c6=>?_;rw[aW (by omega) (by omega)];refine aC ⟨λ_=>⟨((j:Int)+1,()),rfl,⟨e4,j+1,T4,by push_cast;rfl,by omega,b3,ct,cx,c5,?_,c6⟩,by dsimp only;omega⟩,λO=>absurd rfl O⟩;rw[cr,XR bb,Ds]
    .rw[aY]at aw
     have:j=g.c.2.length:=by omega
     subst this;have cf:(wY g).lI.take g.c.2.length=(wY g).lI:=iY (by show(g.c.2.map _).length<=_;rw[cE];exact bM _);rw[cf]at J;exact aC ⟨λO=>absurd O (by decide),λ_=>⟨e3,rfl,rfl,T3,V,Y,ab,al,J,ao⟩⟩
   .rintro t vs h3 ⟨e3,rfl,rfl,T3,V,Y,ab,al,J,ao⟩
    refine bG (bO ?_);rw[aW (by omega) (by omega)];refine aC ⟨λ_=>⟨((i:Int)+1,()),rfl,⟨e3,i+1,T3,by push_cast;rfl,by omega,V,Y,ab,al,?_,ao⟩,by dsimp only;omega⟩,λO=>absurd rfl O⟩;rw[J,Vj a9,bs]
  .rw[aY]at hc
   have:i=D.D.length:=by omega
   subst this;rw[iY (by rw[cE];exact bM _)]at C;exact aC ⟨λO=>absurd O (by decide),λ_=>⟨e2,rfl,rfl,T,I,U,te,tl,C,tz⟩⟩
 .rintro t vs h2 ⟨e2,rfl,rfl,T,I,U,te,tl,C,tz⟩
  refine bG (bO ?_);have w:=r.ext e2;have ba:rho D.t=k+2:=r.ot.2 (Cq D.t) rfl;have dx:D.t<h.size:=(r.ot.1.lt rfl).2;have ob:=I.ob;rw[U]at ob;have cc:D.t≠rb:=by omega
  refine w.rd (b:=.ptr) (some (Cq D.t)) rfl (mf (b:=.sl) T.sa ob rfl (aL rfl (aL rfl (fB (dN T.sa) w.ot.1 (by simp[wm]) rfl λh3 o3 u3=>?_))));have c3:aV (λi=>i=D.t) h2 h3:=aV.dK u3 λx hx _=>by cases hx;rfl
  have cg:=c3.own ob λx hx e=>by cases hx;exact cc e.symm
  have bp:=w.ob.aP c3 (rho':=rho) (λi hi e=>by rw[e,ba];omega) λ_ _ h=>h;refine aL rfl (aL rfl (bU (b:=.ptr) (some (Cq D.t)) rfl bp.1.cells rfl ?_));refine mf (b:=.sl) T.st cg rfl (aL rfl (aL rfl (fB (dN T.st) o3 (by simp[wm]) rfl λh4 o4 u4=>aC ⟨rfl,rfl,T.sa,T.st,?_⟩)));have c4:aV (λi=>i=D.t) h3 h4:=aV.dK u4 λx hx _=>by cases hx;rfl
  have o:aV (λi=>i=D.t) h2 h4:=c3.trans c4 λ_ _ e=>e;refine⟨aV.pre e2 o,?_⟩;have A:∀i,i<h2.size->i=D.t->rho i=k+2:=λi _ e=>by rw[e];exact ba
  have W:∀i,ZF (T.sa,T.st,T.E) i->rho i=0/\i≠D.t:=λi hi=>by
   have h1:=tz i (I.zc i hi).1;exact⟨z i h1,by omega⟩
  have cur:=I.cur.oZ o λi hi e=>(W i hi).2 e;rw[C]at cur W;exact{
   ob:=w.ob.aP o (λi hi f=>by have:=A i hi f;omega) λ_ _ h=>h
   ot:=⟨o4,r.ot.2⟩
   ea:=⟨⟨cur.1.own.mono (cO _),cur.1.wf⟩,λa ha=>(W _ (.inl ⟨a,ha,rfl⟩)).1⟩
   et:=⟨⟨cur.2.own.mono (cO _),cur.2.wf⟩,λa ha=>(W _ (.inr ⟨a,ha,rfl⟩)).1⟩
   HX:=w.HX.aP o (λi hi f=>by have:=A i hi f;omega) λ_ _ h=>h
   dn:=w.dn.aP o (λi hi f=>by have:=A i hi f;omega) λ_ _ h=>h
   dk:=λg G=>(w.dk g G).aP o (λi hi f=>by have:=A i hi f;omega) λ_ _ h=>h
   nx:=w.nx.aP o (λi hi f=>by have:=A i hi f;omega) λ_ _ h=>h
   nc:=r.nc
   nk:=λg G=>(w.nk g G).aP o (λi hi f=>by have:=A i hi f;omega) λ_ _ h=>h
   ma:=w.ma.aP o (λi hi f=>by have:=A i hi f;omega) λ_ _ h=>h
   wa:=w.wa.aP o (λi hi f=>by have:=A i hi f;omega) λ_ _ h=>h
   nw:=λho=>by
    obtain⟨a1,a2,a3,a4⟩:=w.nw ho;exact⟨a1.aP o (λi hi f=>by have:=A i hi f;omega) λ_ _ h=>h,λy B=>(a2 y B).aP o (λi hi f=>by have:=A i hi f;omega) λ_ _ h=>h,a3.aP o (λi hi f=>by have:=A i hi f;omega) λ_ _ h=>h,a4.aP o (λi hi f=>by have:=A i hi f;omega) λ_ _ h=>h⟩
   kn:=r.kn
   li:=r.li
   fi:=(og.ok oe).1}
end
section
variable{P:Program}{S:cH}{h:aG}{Q:Nat->bH->aG->Prop}{k:Nat}{rho:Nat->Nat}{D:Doc}
variable{M:Mo}{N:Nat}
theorem ic{l:List GM}{a b:Int}(hm:l.Pairwise λx y=>x.st<y.st)(c:∀g∈l,a<g.st/\g.st<=b)(DO:a<=b):(l.length:Int)<=b-a:=by
 induction l generalizing a with
 |nil=>simp;omega
 |cons g l o=>
  obtain⟨f,j⟩:=yK.1 hm;have m:=c g (eO ..);have:=o (a:=g.st) j (λx d=>⟨f x d,(c x (eK _ d)).2⟩) m.2;rw[fM];push_cast;omega
theorem iF.EY{enc limit:Int}(o:iF enc limit M N):M.all.length<=N:=by
 have f:=ic (a:=0) (b:=M.last) o.mono (λg d=>o.BI g d) o.la;have c:=o.sz;unfold Mo.sz at c;omega
theorem DocM.nv(m:DocM D M)(o:iF D.enc D.limit M N)(b:N<=68719476736):ME D.enc D.limit M.E0/\H3 D.enc D.limit M.E0 (D.D.map wY):=by
 refine⟨o.e0,?_⟩;rw[m.dn];exact(H3.append.1 o.ok).1
theorem DocM.small(m:DocM D M)(o:iF D.enc D.limit M N)(u:N<=4294967296):(∀g∈D.D,g.c.2.length<=4294967296)/\D.D.length<=4294967296:=by
 have b:=o.EY;have d:=congrArg List.length m.dn;rw[cE]at d;unfold Mo.all at b;rw[bQ]at b;refine⟨λg j=>?_,by omega⟩;have f:wY g∈M.all:=by
  unfold Mo.all;rw[<-m.dn];exact oW _ (dB.2 ⟨g,j,rfl⟩)
 have r:=Qq o.sz f;have t:(wY g).lI.length=g.c.2.length:=by unfold wY;simp
 omega
open Classical in
theorem LS.back{cs:bH}{rho:Nat->Nat}(w:LS k rho h D cs)(E:D.op=false)(B:tL (k+7) 2 rho h D.so (D.om.flatMap Cy))(y:BW (k+8) rho h D.sv D.ow) :
  ∃rho',cX k h rho h rho'/\LS k rho' h {D with sm:=D.so,ms:=D.om,sw:=D.sv,ws:=D.ow} cs:=by
 let rho':Nat->Nat:=λi=>if fZ D.so i then k+3 else if fZ D.sv i then k+4 else rho i
 have z:∀i,fZ D.so i->rho i=k+7:=λi ⟨a,ha,e⟩=>by rw[<-e];exact B.2 a ha
 have C:∀i,fZ D.sv i->rho i=k+8:=λi ⟨a,ha,e⟩=>by rw[<-e];exact y.2 a ha
 have same:∀i r,r≠k+7->r≠k+8->rho i=r->rho' i=r:=λi r G A he=>by
  show(if fZ D.so i then k+3 else if fZ D.sv i then k+4 else rho i)=r;rw[if_neg λb=>G ((z i b).symm.trans he).symm,if_neg λb=>A ((C i b).symm.trans he).symm];exact he
 have c:=aV.refl (λ_=>False) h;have d:∀{r:Nat} (i:Nat),i<h.size->(λ_:Nat=>False) i->rho i≠r:=λi _ f=>f.elim;have p:=w.p;refine⟨rho',⟨aV.refl _ _,λi hi j=>same i _ (by omega) (by omega) rfl,λi hi j=>?_⟩,⟨?_,w.o.aP c d λi hi h=>same i _ (by omega) (by omega) h⟩⟩
 .by_cases b:fZ D.so i
  .rw[show rho' i=k+3 from if_pos b];omega
  .by_cases t:fZ D.sv i
   .rw[show rho' i=k+4 from(if_neg b).trans (if_pos t)];omega
   .rw[show rho' i=rho i from(if_neg b).trans (if_neg t)]
    rcases j with j|j
    .omega
    .exact .inr j
 .refine⟨p.ot.aP c d λi hi h=>same i _ (by omega) (by omega) h,p.ea.aP c d λi hi h=>same i _ (by omega) (by omega) h,p.et.aP c d λi hi h=>same i _ (by omega) (by omega) h,p.HX.aP c d λi hi h=>same i _ (by omega) (by omega) h,p.dn.aP c d λi hi h=>same i _ (by omega) (by omega) h,
   λg u=>(p.dk g u).aP c d λi hi h=>same i _ (by omega) (by omega) h,p.nx.aP c d λi hi h=>same i _ (by omega) (by omega) h,p.nc,λg u=>(p.nk g u).aP c d λi hi h=>same i _ (by omega) (by omega) h,
   ⟨B.1,λa ha=>if_pos ⟨a,ha,rfl⟩⟩,⟨y.1,λa ha=>?_⟩,λm=>(by have m:D.op=true:=m;rw[E]at m;cases m),p.kn,p.li,p.fi⟩
  refine(if_neg λb=>?_).trans (if_pos ⟨a,ha,rfl⟩);have H:=z _ b;have I:=y.2 a ha;omega
theorem qh(r:eZ k rho h D)(m:DocM D M)(o:iF D.enc D.limit M N)(hN:N<=4294967296) :
  wp P (pV S (some D.b)) h λtg vs h'=>tg=0/\vs=[aH M.Es.1,aH M.Es.2.1]/\kA k h rho h' D M.Es.2.2:=by
 unfold pV;refine r.rd (b:=.bool) D.op rfl (aE (λu=>?_) λu=>?_)
 .rw[dF,m.op]at u
  have hn:M.now=none:=by cases h:M.now with
   |none=>rfl
   |some q=>rw[h]at u;cases u
  have:M.Es=(0,71,M):=by unfold Mo.Es;rw[hn]
  rw[this];exact aC ⟨rfl,rfl,kA.ext r m (Ext.refl _)⟩
 rw[eG]at u;have ao:=u;rw[m.op]at u;obtain⟨q,hm⟩:=BC.1 u;have hd:M.Es=(q.bg,0,{M with now:=none,marks:=q.om,watched:=q.ow}):=by unfold Mo.Es;rw[hm]
 rw[hd];have a7:=cX.mV (k:=k) (rho:=rho) (Ext.refl h);have r0:=r.zr (Ext.refl h);obtain⟨g,U,W,_,z2,n3,n4⟩:=r0.shut ao (Lr h rho);have a8:=a7.trans U;have z:g D.b.block=k+1:=W.o.2 D.b rfl;obtain⟨j,d⟩:∃j,j=({D with op:=false}:Doc):=⟨_,rfl⟩;have I:j.b=D.b:=by rw[d]
 rw[<-d]at W;rw[<-I]at z⊢;refine W.Di (gB rfl) rfl λh3 Y c3 z3=>?_;have a9:=a8.trans (kI z c3 z3);have al:(Bf D).take 10++[Value.bool false]++(Bf D).drop (10+1)=Bf j:=by rw[d];rfl
 rw[al]at Y;have r3:eZ k g h3 j:={toDocP:=Y.p,ob:=Y.o};have a2:=n3.aP (rho':=g) c3 (λi hi e=>by rw[e,z];omega) λ_ _ h=>h;have a3:=n4.aP (rho':=g) c3 (λi hi e=>by rw[e,z];omega) λ_ _ h=>h;obtain⟨oe,og⟩:=m.nv o (by omega);obtain⟨s1,s2⟩:=m.small o hN;have A:j.D=D.D:=by rw[d]
 refine dW (UW r3 (z2.mono (by omega)) (E0:=M.E0) (by rw[d];exact m.e0) (by rw[d];exact m.li) (by rw[d];exact oe) (by rw[d];exact og) (by rw[A];exact s1) (by rw[A];exact s2)) λtg vs h4 hq=>?_;obtain⟨rfl,rfl,sa,sT,T,r4⟩:=hq;have C:g j.t=k+2:=r3.ot.2 (Cq j.t) rfl;refine⟨rfl,(),rfl,?_⟩;have ba:=a9.trans (pP (z2.mono (by omega)) T λi _ e=>by rw[e,C];omega);have G:=a2.aP (rho':=g) T (λi hi e=>by rw[e,C];omega) λ_ _ h=>h;have H:=a3.aP (rho':=g) T (λi hi e=>by rw[e,C];omega) λ_ _ h=>h;obtain⟨c,f⟩:∃c,c=({j with sa:=sa,st:=sT,E:=iU M.E0 (j.D.map wY)}:Doc):=⟨_,rfl⟩;rw[<-f]at r4;have J:c.b=j.b:=by rw[f]
 rw[<-J];have a0:c.so=D.so:=by rw[f,d]
 have a1:c.sv=D.sv:=by rw[f,d]
 have K:c.om=D.om:=by rw[f,d]
 have O:c.ow=D.ow:=by rw[f,d]
 rw[<-a0,<-K]at G;rw[<-a1,<-O]at H;obtain⟨y,V,Z⟩:=r4.w.back (by rw[f,d]) G H;have bb:=ba.trans V;have B:y c.b.block=k+1:=Z.o.2 c.b rfl;refine Z.rd (b:=.sl) c.so rfl (Z.Di (gB rfl) rfl λh6 w6 c6 z6=>w6.rd (b:=.sl) c.sv rfl (w6.Di (gB rfl) rfl λh7 w7 c7 z7=>?_));have bd:=(bb.trans (kI B c6 z6)).trans (kI B c7 z7);obtain⟨bo,a4,a5,a6⟩:=m.nw q hm;have r7:eZ k y h7 {c with sm:=c.so,ms:=c.om,sw:=c.sv,ws:=c.ow}:=w7.done rfl rfl λp=>p;refine aL rfl (aL rfl (aL rfl ?_));have ab:aB (aB (some c.b) 11) 1=aB (some c.b) 12:=by show some ((c.b.add 11).add 1)=some (c.b.add 12);rw[add_add]
 rw[ab];refine bU (b:=bI) c.bg rfl r7.ob.1.cells rfl (aC ⟨rfl,?_,y,_,bd,r7,?_,?_,?_,?_⟩)
 .show[aH c.bg,aH 0]=_
  rw[f,d];show[aH D.bg,aH 0]=_;rw[a4]
 .have hE:({M with now:=none,marks:=q.om,watched:=q.ow}:Mo).E=iU M.E0 (M.lost++M.done):=Mo.xK rfl
  refine⟨?_,?_,?_,?_,?_,?_,?_,λq' aw=>(by cases aw),?_,?_,?_,?_,?_⟩
  .show c.E=_;rw[hE,f];show iU M.E0 (j.D.map wY)=_;rw[A,m.dn]
  .show c.D.map wY=_;rw[f,d];exact m.dn
  .show c.lost=_;rw[f,d];exact m.lo
  .show c.R.map wY=_;rw[f,d];exact m.nx
  .show c.om=q.om;rw[K];exact a5
  .show c.ow=q.ow;rw[O];exact a6
  .show c.op=false;rw[f,d]
  .show c.saved=_;rw[f,d];exact m.sv
  .show c.last=_;rw[f,d];exact m.la
  .show c.depth=_;rw[f,d];exact m.dp
  .show iH 0 0 (bJ c.enc c.lb)=_;rw[f,d];exact m.e0
  .show(c.lb.length:Int)<=c.limit;rw[f,d];exact m.li
 .show c.b=D.b;rw[J,I]
 .show c.enc=D.enc;rw[f,d]
 .show c.limit=D.limit;rw[f,d]
end
section
variable{P:Program}{S:cH}{h:aG}{Q:Nat->bH->aG->Prop}{k:Nat}{rho:Nat->Nat}{D:Doc}
variable{L:Int}
def Uk(L:Int)(ms:iO)(ws:bB):Prop:=(∀e∈ms,0<=e.2/\e.2<=L)/\∀v∈ws,v<=L
theorem Wc{m:List mS}{ms:iO}{ws:bB}(d:0<=L)(b:Sk L 0 m)(hm:Uk L ms ws):Uk (L+AW m) (lY m ms) (lM m ws):=by
 have g:=Gs b d;refine⟨λe he=>?_,λv f=>?_⟩
 .obtain⟨x,c,rfl⟩:=dB.1 he
  have:=hm.1 x c;exact Nn b this.1 this.2
 .obtain⟨x,c,rfl⟩:=dB.1 f
  have:=hm.2 x c;unfold wv;split
  .omega
  .split
   .exact(Nn b (by omega) this).2
   .omega
theorem Uk.Yg{b:Int}{ms:iO}{ws:bB}:∀{l:List (List mS)} {a:Int},LR a l b->Uk b ms ws->Uk a (wU l ms) (Ab l ws)
 |[],_,⟨_,_,e⟩,hm=>e ▸ hm
 |m::l,a,⟨h0,d,f,g,c⟩,hm=>by
  have j:=Uk.Yg c hm;have hb:=QL h0 d c.lo.2 f g;have:=Wc c.lo.1 hb.2 j;rw[Oi,show a+AW m + -AW m=a by omega]at this;exact this
theorem Uk.XT{b:Int}:∀{l:List (List mS)} {a:Int} {ms:iO} {ws:bB},LR a l b->Uk a ms ws->Uk b (rR l ms) (sS l ws)
 |[],_,_,_,⟨_,_,e⟩,hm=>e ▸ hm
 |m::l,a,ms,ws,⟨h0,f,c,g,d⟩,hm=>Uk.XT (ms:=lY m ms) (ws:=lM m ws) d (Wc h0 c hm)
theorem Uk.w{ms:iO}{ws:bB}(hm:Uk L ms ws)(c:L<=65536):(∀e∈ms,0<=e.2/\e.2<=2199023255552)/\∀v∈ws,v<=2199023255552:=
 ⟨λe he=>by have:=hm.1 e he;omega,λv b=>by have:=hm.2 v b;omega⟩
theorem bj{n:Nat}{K:Sl->aK}(h1:n<=4398046511104)(b:∀h' r,Ext h h'->bV h.size .i64 h' r (List.replicate n 0)->wp P (K r) h' Q):wp P (.mk 8 [aH 0] (n:Int) (n:Int) K) h Q:=by
 refine⟨⟨by omega,kR _,by omega,by omega⟩,λelem=>b _ _ (Ext.push ..) ⟨?_,?_⟩⟩
 .have d:∀n,jP [aH 0] n=(List.replicate n (0:Int)).map (.int .i64):=by
   intro n
   induction n with
   |zero=>rfl
   |succ n f=>rw[JL,fT,<-f];rfl
  rw[cR,d];exact bR (by simp) (by decide) (by omega)
 .intro x c
  rw[(Sb.1 c).2];exact qJ _
theorem bx{l:List mS}{i:Nat}{e:mS}(hi:l[i]?=some e):OD 0 (l.take (i+1))=OD 0 (l.take i)+(e.2.2.1-(e.2.1-e.1)):=by
 rw[eN,hi,HU,HP];rfl
theorem W4{x:GO}(ok:(Sh.list jT).ok h x)(hb:Ls (x.2.map dO)):aS P (vX S x.1) [tS] h λ(y:Sl×Unit) h'=>∃l',l'.map dO=qD 0 (x.2.map dO)/\MB h.size h' y.1 l':=by
 unfold vX aS;have hlen:x.2.length<=131072:=by have:=hb.1;rwa [cE]at this
 have hn:aQ x.1.len=(x.2.length:Int):=by rw[aN,ok.len]
 rw[hn];refine bL (λ(s:Sl×Int×Unit) h'=>Ext h h'/\∃(i:Nat) (l:List iM),s.2.1=i/\i<=x.2.length/\l.map dO=qD 0 ((x.2.take i).map dO)/\MB h.size h' s.1 l/\∀e∈l,∀a,e.2.2.1.1.aD=some a->∀b,s.1.aD=some b->a.block≠b.block) (λs _=>((x.2.length:Int)-s.2.1).toNat)
  (λt vs h'=>Ext h h'/\t=2/\∃q l,vs=[dN q]/\l.map dO=qD 0 (x.2.map dO)/\MB h.size h' q l) ⟨Ext.refl _,0,[],rfl,cO _,rfl,⟨cA.nil .., λe he=>by cases he⟩,λe he=>by cases he⟩ ?_ ?_
 .rintro⟨(q:Sl),(si:Int),u⟩ H ⟨C,i,l,hi,hle,A,o,T⟩
  dsimp only at hi o T⊢;subst hi;refine aE (λhc=>?_) λhc=>?_
  .rw[aU]at hc
   have a6:i<x.2.length:=by omega
   obtain⟨c,m⟩:∃c,x.2[i]?=some c:=⟨x.2[i],cK a6⟩;have a7:=C.1;have f:=ok.ext C;have bo:l.length=i:=by have:=congrArg List.length A;rw[cE,Nr,cE,dJ]at this;omega
   have a3:=hb.2 (dO c) (dB.2 ⟨c,eL m,rfl⟩);obtain⟨U,V,W,ba,Y⟩:=a3;have U:0<=c.1:=U;have V:c.1<=c.2.1:=V;have W:c.2.1<=2199023255552:=W;have Y:(c.2.2.1.2.length:Int)<=2199023255552:=Y;have a0:∀j,j<=i -> -(131072*2199023255552)<=OD 0 ((x.2.take j).map dO)/\OD 0 ((x.2.take j).map dO)<=131072*2199023255552:=λj R=>by
    rw[Eg];have H:=Ko (sh:=0) (hb.take j);have K:(((x.2.map dO).take j).length:Int)<=131072:=by
     have:=(hb.take j).1;omega
    omega
   refine jW (b:=bI) (z:=c.1) f m rfl ?_;refine bL (λ(s:Int×Int×Unit) h'=>h'=H/\∃j:Nat,s.2.1=j/\j<=i/\s.1=c.1+OD 0 ((x.2.take j).map dO)) (λs _=>((i:Int)-s.2.1).toNat)
    (λt vs h'=>h'=H/\t=4/\vs=[aH (c.1+OD 0 ((x.2.take i).map dO))]) ⟨rfl,0,rfl,cO _,by simp[OD]⟩ ?_ ?_
   .rintro⟨(at_:Int),(sj:Int),u⟩ K ⟨rfl,j,R,a9,aw⟩
    dsimp only at R aw⊢;subst R;refine aE (λO=>?_) λO=>?_
    .rw[aU]at O
     have a2:j<x.2.length:=by omega
     obtain⟨d,I⟩:∃d,x.2[j]?=some d:=⟨x.2[j],cK a2⟩;have a1:=hb.2 (dO d) (dB.2 ⟨d,eL I,rfl⟩);obtain⟨Z,ab,al,bb,ao⟩:=a1;have Z:0<=d.1:=Z;have ab:d.1<=d.2.1:=ab;have al:d.2.1<=2199023255552:=al;have ao:(d.2.2.1.2.length:Int)<=2199023255552:=ao;have G:d.2.2.1.1.len=d.2.2.1.2.length:=(f.el I).2.2.1.1;have bd:=a0 j (by omega);have a5:(x.2.map dO)[j]?=some (dO d):=by rw[gQ,I];rfl
     have B:=bx a5;rw[<-Eg,<-Eg]at B;have B:OD 0 ((x.2.take (j+1)).map dO)=OD 0 ((x.2.take j).map dO)+((d.2.2.1.2.length:Int)-(d.2.1-d.1)):=B;refine jW (b:=.sl) (z:=d.2.2.1.1) f I rfl (jW (b:=bI) (z:=d.2.1) f I rfl (jW (b:=bI) (z:=d.1) f I rfl ?_));rw[aN,G,bY (a:=d.2.1) (by omega) (by omega),aW (a:=at_) (by omega) (by omega),bY (by omega) (by omega),aW (by omega) (by omega)];exact aC ⟨λ_=>⟨(_,(j:Int)+1,()),rfl,⟨rfl,j+1,by push_cast;rfl,by omega,by dsimp only;omega⟩,by dsimp only;omega⟩,λE=>absurd rfl E⟩
    .rw[aY]at O
     have:j=i:=by omega
     subst this;exact aC ⟨λE=>absurd E (by decide),λ_=>⟨rfl,rfl,by rw[aw]⟩⟩
   rintro t vs K ⟨rfl,rfl,rfl⟩;refine bG (fJ ?_);dsimp only;have a4:=a0 i (bM _);generalize B:OD 0 ((x.2.take i).map dO)=sh at a4⊢;refine jW (b:=.sl) (z:=c.2.2.1.1) f m rfl (jW (b:=bI) (z:=c.2.1) f m rfl (jW (b:=bI) (z:=c.1) f m rfl ?_));have G:c.2.2.1.1.len=c.2.2.1.2.length:=(f.el m).2.2.1.1;rw[aN,G,bY (by omega) (by omega),aW (by omega) (by omega)];obtain⟨g,hg⟩:∃g:Nat,c.2.1-c.1=(g:Int):=⟨(c.2.1-c.1).toNat,by omega⟩;rw[hg];refine bj (by omega) λh3 w J ow=>?_;have a8:=f.ext J;refine Vo a8 m (by first|rfl|(rw[<-G];rfl)) ?_;have bp:=J.1;have o3:=o.ext J;have nq:∀b,q.aD=some b->b.block<K.size:=λb hb=>(o.own.lt hb).2;refine WC (e:=(c.1+sh,c.1+sh+(c.2.2.1.2.length:Int),(w,List.replicate g 0),())) o3 (by omega) (by omega) (ow.mono a7) (eV.2 (by dsimp only;omega)) (eV.2 (by dsimp only;omega)) (λy r a ha b hb=>?_) λh4 q' o4 c4 b4=>?_
   .rcases eH.1 r with rfl|r
    .have H:=(ow.own.lt ha).1;have K:=nq b hb;omega
    .exact T y r a ha b hb
   rw[aW (by omega) (by omega)];have e4:Ext h h4:=by
    refine⟨by have:=c4.1;omega,λj R=>(c4.2.1 j (by omega) ?_).trans ((C.trans J).2.1 j R),λa ha=>c4.2.2 a ((C.trans J).2.2 a ha)⟩;rintro⟨a,ha,rfl⟩;have:=(o.own.lt ha).1;omega
   refine aC ⟨λ_=>⟨(q',(i:Int)+1,()),rfl,⟨e4,i+1,l++[(c.1+sh,c.1+sh+(c.2.2.1.2.length:Int),(w,List.replicate g 0),())],by push_cast;rfl,by omega,?_,o4,λy r a ha b hb=>?_⟩,by dsimp only;omega⟩,λE=>absurd rfl E⟩
   .rw[eN,m,HU,dP,dP,A,FC,B]
    show qD 0 _++[dO _]=qD 0 _++[_]
    congr 2
    show(c.1+sh,c.1+sh+(c.2.2.1.2.length:Int),((List.replicate g (0:Int)).length:Int),())=(c.1+sh,c.1+sh+(c.2.2.1.2.length:Int),c.2.1-c.1,());rw[JR,hg]
   .have DO:∀a,y.2.2.1.1.aD=some a->a.block<h3.size/\∀b,q.aD=some b->a.block≠b.block:=λa ha=>by
     rcases dH.1 r with r|r
     .exact⟨((o3.put y r).1.own.lt ha).2,λb hb=>T y r a ha b hb⟩
     .rw[dE.1 r]at ha
      exact⟨(ow.own.lt ha).2,λb hb=>by have H:=(ow.own.lt ha).1;have K:=nq b hb;omega⟩
    rcases b4 b hb with hb|hb
    .exact(DO a ha).2 b hb
    .have:=(DO a ha).1;omega
  .rw[aY]at hc
   have:i=x.2.length:=by omega
   subst this;rw[fH]at A;exact aC ⟨λE=>absurd E (by decide),λ_=>⟨C,rfl,q,l,rfl,A,o⟩⟩
 .rintro t vs H ⟨C,rfl,q,l,rfl,A,o⟩
  exact bG (mP (aC ⟨rfl,C,(q,()),rfl,l,A,o⟩))
end
section
variable{P:Program}{S:cH}{h:aG}{Q:Nat->bH->aG->Prop}{k:Nat}{rho:Nat->Nat}{D:Doc}
variable{s:Sl}{l:List DG}
theorem Z9{n:Nat}{g:DG}(o:cA n 4 h s ((l++[g]).flatMap Ep)):cA n 4 h ⟨s.aD,l.length,s.cap⟩ (l.flatMap Ep):=by
 have c:=o.1;rw[gM (m:=4) λ_=>rfl,bQ,Av]at c;obtain⟨o1,o2,u,b⟩:=o;refine⟨by rw[gM (m:=4) λ_=>rfl],by dsimp only;omega,u,?_⟩;cases hb:s.aD with
 |none=>rw[hb]at b;exact b
 |some a=>
  rw[hb]at b;obtain⟨e0,d,f,cs,elem,j,r,t⟩:=b;exact⟨e0,d,f,cs,elem,j,r,λi v hi=>t i v (by rw[gX,mL (cQ.1 hi).1];exact hi)⟩
theorem bf{g:DG}{i:Nat}{K:Sl×Int×Int×Int×Unit->aK}(o:Rd 4 h s (l.flatMap Ep))(hi:l[i]?=some g)(t:wp P (K (g.c.1,g.bg,g.en,g.st,())) h Q) :
  wp P (bF (bN (aJ s.aD) (eU (i:Int) s.len))<|.load (.agg [.sl, .int .i64, .int .i64, .int .i64]) (aB s.aD (aZ (bP (i:Int)) 4)) K) h Q:=by
 have w:=(cQ.1 hi).1;have u:=o.1;rw[gM (m:=4) λ_=>rfl]at u;obtain⟨a,ea,d⟩:=o.2 (i*4+0) (dN g.c.1) (by rw[IT (m:=4) (λ_=>rfl) hi (by decide)];rfl);refine aL (fA.2 ⟨by rw[ea];rfl,kN.2 ⟨by omega,by omega⟩⟩) ?_;refine⟨a.add (i*4),by rw[ea,hO,eP,cR];rfl,(g.c.1,g.bg,g.en,g.st,()),aI.2 λj v f=>?_,t⟩;have r:j<4:=(cQ.1 f).1;obtain⟨b,eb,d⟩:=o.2 (i*4+j) v (by rw[IT (m:=4) (λ_=>rfl) hi r];exact f);rw[ea]at eb;cases eb;rw[add_add];exact d
theorem jm{n:Nat}{g:DG}{K:Sl->aK}(o:cA n 4 h s (l.flatMap Ep))(C:n<=h.size)(B:l.length<=4294967296)
  (u:∀h' q,cA n 4 h' q ((l++[g]).flatMap Ep)->aV (fZ s) h h'->(∀a,q.aD=some a->s.aD=some a\/h.size<=a.block)->wp P (K q) h' Q) :
  wp P (.alloc [dN g.c.1,aH g.bg,aH g.en,aH g.st] λa=>.append 4 48 [.slice none 0 0,aH 0,aH 0,aH 0] s ⟨some a,1,1⟩ K) h Q:=by
 refine λel=>?_;have b:Ext h (h.push (.cells (Ep g).toArray el)):=Ext.push ..;have o1:cA h.size 1 (h.push (.cells (Ep g).toArray el)) ⟨some ⟨h.size,0,none⟩,4,4⟩ (Ep g):=bR rfl (by decide) (by decide);show wp P _ (h.push (.cells (Ep g).toArray el)) _;generalize h.push (.cells (Ep g).toArray el)=r at b o1⊢;have w:=(aV.bD (F:=λ_=>False) b).own o λ_ _ x=>x;have z:=b.1;have d:=o.1;rw[gM (m:=4) λ_=>rfl]at d;have rd:Rd 4 r ⟨some ⟨h.size,0,none⟩,1,1⟩ ([g].flatMap Ep):=⟨rfl,λi v hi=>⟨_,rfl,aI.1 o1.cells i v (by simpa using hi)⟩⟩;refine iR w (by omega) rd (by intro v f;simp at f;rcases f with rfl|rfl|rfl|rfl<;>rfl) rfl (by dsimp only;omega) (by dsimp only;omega) λq t o2 E y j _=>?_;exact u t q (by rw[gX];exact o2) (aV.pre b (aV.dK y λa ha _=>⟨a,ha,rfl⟩)) λa ha=>(j a ha).imp id λA=>by omega
theorem Zp{h1 b:aG}(e:Ext h h1)(c:aV (fZ s) h1 b)(f:∀a,s.aD=some a->h.size<=a.block):Ext h b:=
 ⟨dI e.1 c.1,λj d=>(c.2.1 j (mK d e.1) λ⟨a,ha,ee⟩=>by have:=f a ha;omega).trans (e.2.1 j d),λa ha=>c.2.2 a (e.2.2 a ha)⟩
end
section
variable{P:Program}{S:cH}{h:aG}{Q:Nat->bH->aG->Prop}{k:Nat}{rho:Nat->Nat}{D:Doc}
theorem TJ{enc limit:Int}{E:List El}{c:List iM}(m:c.length<=70000)(o:H5 enc limit E c)(j:(E.length:Int)<=65536)(d:limit<=65536):Ls (c.map dO):=by
 have r:=PL o;refine⟨by rw[cE];omega,λe he=>?_⟩;obtain⟨x,b,rfl⟩:=dB.1 he;have g:=Rm o.1 x b;have f:x.2.2.1.2.length<=(aX c).length:=by
  unfold aX;rw[Mz];exact yG (λe:iM=>e.2.2.1.2.length) b
 show 0<=x.1/\x.1<=x.2.1/\x.2.1<=2199023255552/\0<=(x.2.2.1.2.length:Int)/\(x.2.2.1.2.length:Int)<=2199023255552;exact⟨by omega,by omega,by omega,by omega,by omega⟩
theorem qp(r:eZ k rho h D){M:Mo}{N:Nat}(m:DocM D M)(o:iF D.enc D.limit M N)(hN:N<=1073741824) :
  wp P (pX S (some D.b)) h λtg vs h'=>tg=0/\vs=[aH M.BB.1,aH M.BB.2.1]/\kA k h rho h' D M.BB.2.2:=by
 unfold pX;have dx:=cX.mV (k:=k) (rho:=rho) (Ext.refl h);refine r.rd (b:=.bool) D.op rfl (aE (λhc=>?_) λhc=>?_)
 .rw[m.op]at hc
  have:M.BB=(0,70,M):=by unfold Mo.BB;rw[if_pos hc]
  rw[this];exact aC ⟨rfl,rfl,kA.ext r m (Ext.refl _)⟩
 have hz:=hc;rw[m.op]at hc;have hn:M.now=none:=by cases h:M.now with
  |none=>rfl
  |some q=>rw[h]at hc;cases hc
 have e2:=r.dn.1.1;rw[gM (m:=4) λ_=>rfl]at e2;have ao:=congrArg List.length m.dn;rw[cE,bQ]at ao;have hs:=m.lo;refine r.rd (b:=.sl) D.sd rfl (r.rd (b:=bI) D.lost rfl (aE (λal=>?_) λal=>?_))
 .rw[gG,aN]at al
  have h0:M.done=[]:=At (by omega);have:M.BB=(0,72,M):=by unfold Mo.BB;rw[hn,if_neg (by decide),h0];rfl
  rw[this];exact aC ⟨rfl,rfl,kA.ext r m (Ext.refl _)⟩
 have al:¬((D.sd.len:Int)<=D.lost):=λh=>by rw[gG.2 (by rw[aN];exact h)]at al;cases al
 rcases Lj M.done with h0|⟨ds,g,hd,e6⟩
 .rw[h0]at ao;simp at ao;omega
 have hu:M.BB=(g.bg,0,M.back ds g):=by unfold Mo.BB;rw[hn,if_neg (by decide),e6]
 rw[hu];obtain⟨pre,G,K⟩:∃pre G,D.D=pre++[G]:=by
  rcases Mv D.D with h0|⟨ds,g,h0⟩
  .rw[h0,hd]at ao;simp at ao
  .exact⟨ds,g,by rw[h0,JS]⟩
 have ct:=m.dn;rw[K,hd,<-dX,dP]at ct;obtain⟨bd,ab⟩:=List.append_inj' ct rfl;have ab:wY G=g:=by simpa using ab
 have ho:D.D.length=pre.length+1:=by rw[K];simp
 have g7:=r.dn.1.2.1;have g8:=r.dn.1.2.2.1;have hx:bK .i64 (aQ D.sd.len) 1=(pre.length:Int):=by rw[aN,bY (by omega) (by omega)];omega
 rw[hx];have b4:D.D[pre.length]?=some G:=by rw[K];simp
 obtain⟨oe,og⟩:=m.nv o (by omega);obtain⟨dr,ih⟩:=m.small o (by omega);have A4:=o.li;have a6:=o.EY;have r0:=r.zr (Ext.refl h);have z0:=Lr h rho;generalize Hist.zr h rho=d at r0 z0 dx;have T:d D.b.block=k+1:=r0.ob.2 D.b rfl;refine r0.rd (b:=.sl) D.sd rfl (bf r0.dn.1.rd b4 ?_);refine λel=>?_;have b3:Ext h (h.push (.cells [.slice none 0 0,aH 0,aH 0,aH 0].toArray el)):=Ext.push ..;have bs:cA h.size 1 (h.push (.cells [.slice none 0 0,aH 0,aH 0,aH 0].toArray el)) ⟨some ⟨h.size,0,none⟩,4,4⟩ [.slice none 0 0,aH 0,aH 0,aH 0]:=bR rfl (by decide) (by decide);show wp P _ (h.push (.cells [.slice none 0 0,aH 0,aH 0,aH 0].toArray el)) _;generalize h.push (.cells [.slice none 0 0,aH 0,aH 0,aH 0].toArray el)=g1 at b3 bs⊢;refine Am (Ep G) bs rfl (by intro v hv;simp only[Ep,eH,lG,or_false]at hv;rcases hv with rfl|rfl|rfl|rfl<;>rfl) λh1 o1 u1 z1=>?_;have e1:Ext h h1:=jU.jQ b3 u1 λx hx=>by cases hx;exact bM _
 have r1:=r0.ext e1;have g3:=z0.mono e1.1;have aA:tL 0 1 d h1 ⟨some ⟨h.size,0,none⟩,4,4⟩ (Ep G):=⟨cA.mono o1 (cO _),λa ha=>by cases ha;exact z0 _ (bM _)⟩;have gm:=dx.trans (pP z0 (aV.bD (F:=λ_=>False) e1) λ_ _ f=>f.elim);generalize hk:(⟨h.size,0,none⟩:Addr)=A at aA⊢;clear o1 bs u1;refine r1.rd (b:=.sl) D.sd rfl (aL (iP (by omega) (by omega)) ?_);have fj:Value.slice (bE D.sd.aD D.sd.cap 0 4) (cS (bP (pre.length:Int)) 0) (cS D.sd.cap 0)=dN ⟨D.sd.aD,pre.length,D.sd.cap⟩:=by
  rw[eX,eP,cR];rfl
 rw[fj];refine r1.w.Di (gB rfl) rfl λJ w2 c2 z2=>?_;have gv:=gm.trans (kI T c2 z2);have b0:Zf d J:=g3.mono (by omega);have b2:=aA.aP (rho':=d) c2 (λi hi e=>by rw[e,T];omega) λ_ _ h=>h;obtain⟨H,B⟩:∃H,H=({D with sd:=⟨D.sd.aD,pre.length,D.sd.cap⟩,D:=pre}:Doc):=⟨_,rfl⟩;have r2:eZ k d J H:=by
  rw[B];refine w2.done rfl rfl λp=>⟨p.ot,p.ea,p.et,p.HX,⟨Z9 (by rw[<-K];exact p.dn.1),p.dn.2⟩,λg hg=>p.dk g (by rw[K];exact oW _ hg),p.nx,p.nc,p.nk,p.ma,p.wa,p.nw,p.kn,p.li,p.fi⟩
 have ft:JZ (λh=>Ba.ok h G.c) d J:=(r1.dk G (by rw[K];simp)).aP c2 (λi hi e=>by rw[e,T];omega) λ_ _ h=>h;have b9:H.b=D.b:=by rw[B]
 have b6:H.R=D.R:=by rw[B]
 have g9:H.sn=D.sn:=by rw[B]
 rw[<-b9]at T⊢;refine Cj (G.c.1,G.bg,G.en,G.st,()) b2.1 rfl ?_;refine λa1=>?_;have e3:Ext J (J.push (.cells (Ep G).toArray a1)):=Ext.push ..;have o3:cA J.size 4 (J.push (.cells (Ep G).toArray a1)) ⟨some ⟨J.size,0,none⟩,1,1⟩ (Ep G):=bR rfl (by decide) (by decide);show wp P _ (J.push (.cells (Ep G).toArray a1)) _;generalize J.push (.cells (Ep G).toArray a1)=h3 at e3 o3⊢;have e9:=r2.nx.now.1;rw[gM (m:=4) λ_=>rfl]at e9;have cx:=congrArg List.length m.nx;rw[cE]at cx;have g5:M.next.length<=N:=by unfold Mo.all at a6;rw[bQ]at a6;omega
 have g6:H.R.length=M.next.length:=by rw[b6];exact cx
 have e7:aQ H.sn.len=(H.R.length:Int):=by rw[aN];omega
 refine bL (λ(s:Sl×Int×Unit) h'=>Ext J h'/\∃i:Nat,s.2.1=i/\i<=H.R.length/\cA J.size 4 h' s.1 ((G::H.R.take i).flatMap Ep)) (λs _=>((H.R.length:Int)-s.2.1).toNat)
  (λt vs h'=>Ext J h'/\t=2/\∃q,vs=[dN q]/\cA J.size 4 h' q ((G::H.R).flatMap Ep)) ⟨e3,0,rfl,cO _,by simpa using o3⟩ ?_ ?_
 .rintro⟨(q:Sl),(si:Int),u⟩ h4 ⟨Z,i,hi,hle,oq⟩
  dsimp only at hi oq⊢;subst hi;have r4:=r2.ext Z;refine r4.rd (b:=.sl) H.sn rfl ?_;rw[e7];refine aE (λY=>?_) λY=>?_
  .rw[aU]at Y
   have a8:i<H.R.length:=by omega
   obtain⟨y,U⟩:∃y,H.R[i]?=some y:=⟨H.R[i],cK a8⟩;refine r4.rd (b:=.sl) H.sn rfl (bf r4.nx.now U ?_);refine jm (g:=y) oq Z.1 (by rw[fM,dJ];omega) λh5 q' o5 c5 b5=>?_;rw[aW (by omega) (by omega)];refine aC ⟨λ_=>⟨(q',(i:Int)+1,()),rfl,⟨Zp Z c5 λa ha=>(oq.lt ha).1,i+1,by push_cast;rfl,by omega,?_⟩,by dsimp only;omega⟩,λhh=>absurd rfl hh⟩;have fl:G::H.R.take (i+1)=(G::H.R.take i)++[y]:=by rw[eN,U];rfl
   rw[fl];exact o5
  .rw[aY]at Y
   have:i=H.R.length:=by omega
   subst this;rw[fH]at oq;exact aC ⟨λhh=>absurd hh (by decide),λ_=>⟨Z,rfl,q,rfl,oq⟩⟩
 rintro t vs h4 ⟨Z,rfl,q,rfl,oq⟩;refine bG (mP ?_);have r4:=r2.ext Z;have g4:=b0.mono Z.1;have gw:=gv.trans (pP b0 (aV.bD (F:=λ_=>False) Z) λ_ _ f=>f.elim);have er:=b2.aP (rho':=d) (aV.bD (F:=λ_=>False) Z) (λ_ _ f=>f.elim) λ_ _ h=>h;have fv:=ft.aP (rho':=d) (aV.bD (F:=λ_=>False) Z) (λ_ _ f=>f.elim) λ_ _ h=>h;refine r4.w.Di (gB rfl) rfl λh5 w5 c5 z5=>?_;have g0:=gw.trans (kI T c5 z5);have b1:Zf d h5:=g4.mono (by omega);have ey:=er.aP (rho':=d) c5 (λi hi e=>by rw[e,T];omega) λ_ _ h=>h;have c8:=fv.aP (rho':=d) c5 (λi hi e=>by rw[e,T];omega) λ_ _ h=>h;have c4:∀a,q.aD=some a->d a.block=0:=λa ha=>b0 _ (oq.lt ha).1;have bt:=c5.own oq λa ha e=>by have:=c4 a ha;rw[e,T]at this;omega
 obtain⟨V,C⟩:∃V,V=({H with sn:=q,R:=G::H.R}:Doc):=⟨_,rfl⟩;have r5:eZ k d h5 V:=by
  rw[C];refine w5.done rfl rfl λp=>⟨p.ot,p.ea,p.et,p.HX,p.dn,p.dk,λg cg=>(cg.own bt λa ha O=>?_).rd,⟨bt.2.1,bt.2.2.1⟩,λy U=>?_,p.ma,p.wa,p.nw,p.kn,p.li,p.fi⟩
  .rw[c4 a ha]at O;exact absurd O (HV 0)
  .rcases eH.1 U with rfl|U
   .exact c8
   .exact p.nk y U
 have cc:V.b=H.b:=by rw[C]
 rw[<-cc]at T⊢;have W:V.D=pre:=by rw[C,B]
 have gg:H3 D.enc D.limit M.E0 (pre.map wY):=by rw[K,dP]at og;exact(H3.append.1 og).1
 refine dW (UW r5 b1 (E0:=M.E0) (by rw[C,B];exact m.e0) (by rw[C,B];exact m.li) (by rw[C,B];exact oe) (by rw[W,C,B];exact gg) (by rw[W];intro y U;exact dr y (by rw[K];exact oW _ U)) (by rw[W];omega)) λtg vs h6 hq=>?_;obtain⟨rfl,rfl,sa,sT,c6,r6⟩:=hq;refine⟨rfl,(),rfl,?_⟩;have bo:d V.t=k+2:=r5.ot.2 (Cq V.t) rfl;have g2:=g0.trans (pP b1 c6 λi _ e=>by rw[e,bo];omega);have ec:Zf d h6:=b1.mono c6.1;have a4:=ey.aP (rho':=d) c6 (λi hi e=>by rw[e,bo];omega) λ_ _ h=>h;have de:=c8.aP (rho':=d) c6 (λi hi e=>by rw[e,bo];omega) λ_ _ h=>h;obtain⟨z,I⟩:∃z,z=({V with sa:=sa,st:=sT,E:=iU M.E0 (V.D.map wY)}:Doc):=⟨_,rfl⟩;rw[<-I]at r6;have cd:z.b=V.b:=by rw[I]
 rw[<-cd];have ba:z.ms=M.marks:=by rw[I,C,B];exact m.ms
 have bp:z.ws=M.watched:=by rw[I,C,B];exact m.ws
 have a7:g.lI=G.c.2.map λe=>e.2.map hP:=by rw[<-ab];rfl
 have a9:=o.sx hn hd;obtain⟨l,hl⟩:∃l,l=g.lI.map nY:=⟨_,rfl⟩;rw[<-hl]at a9;have hr:l.length=G.c.2.length:=by rw[hl,cE,a7,cE]
 have ei:Uk M.E.length z.ms z.ws:=by rw[ba,bp];exact⟨o.mi,o.wk⟩
 have hp:G.c.2.length<=4294967296:=dr G (by rw[K];simp);obtain⟨gf,fy⟩:=og.at oe (i:=pre.length) (g:=wY G) (by rw[gQ,b4];rfl);have eh:aQ G.c.1.len=(G.c.2.length:Int):=by rw[aN,de.now.1]
 have aw:∀{i:Nat},(d i=k+3\/d i=k+4)->d i≠0:=λh=>by omega
 refine bU (b:=.sl) G.c.1 rfl a4.1.cells rfl ?_;rw[eh,bY (by omega) (by omega)];refine bL (λ(s:Int×Unit) h'=>∃i:Nat,s.1=(i:Int)-1/\i<=l.length/\aV (λi=>d i=k+3\/d i=k+4) h6 h'/\eZ k d h' {z with ms:=wU (l.drop i) z.ms,ws:=Ab (l.drop i) z.ws}) (λs _=>(s.1+1).toNat)
  (λt vs h'=>t=4/\vs=[]/\aV (λi=>d i=k+3\/d i=k+4) h6 h'/\eZ k d h' {z with ms:=wU l z.ms,ws:=Ab l z.ws})
  ⟨l.length,by dsimp only;omega,bM _,aV.refl _ _,by rw[F6];exact r6⟩ ?_ ?_
 .rintro⟨(si:Int),u⟩ h7 ⟨i,hi,hle,c7,r7⟩
  dsimp only at hi⊢;subst hi;refine aE (λY=>?_) λY=>?_
  .rw[dD]at Y
   obtain⟨j,rfl⟩:∃j,i=j+1:=⟨i-1,by omega⟩;have hj:(((j+1:Nat):Int)-1)=(j:Int):=by omega
   rw[hj];have e5:j<G.c.2.length:=by omega
   obtain⟨y,U⟩:∃y,G.c.2[j]?=some y:=⟨G.c.2[j],cK e5⟩;have fm:(wY G).lI[j]?=some (y.2.map hP):=by show(G.c.2.map _)[j]?=_;rw[gQ,U];rfl
   have cr:l[j]?=some (y.2.map dO):=by
    rw[hl,gQ,a7,gQ,U];show some (nY (y.2.map hP))=_;rw[FR]
   have a2:l.drop j=(y.2.map dO)::l.drop (j+1):=by
    have a8:=(cQ.1 cr).1;rw[<-(cQ.1 cr).2,<-gY a8]
   obtain⟨c1,c2,c3⟩:=gf.at fy fm;rw[cE]at c1;rw[D9]at c2;have ej:=TJ c1 c2 (by have:=c3.len;omega) A4.2;obtain⟨a0,_,b8⟩:=a9.cut j;rw[a2]at b8;obtain⟨p0,p1,p2,p3,p4⟩:=b8;have hinv:=QL p0 p1 p4.lo.2 p2 p3;have bb:=(Uk.Yg p4 ei).w p4.lo.2;have a5:=a4.aP (rho':=d) c7 (λi hi O=>aw O) λ_ _ h=>h;have df:=de.aP (rho':=d) c7 (λi hi O=>aw O) λ_ _ h=>h;refine bU (b:=.sl) G.c.1 rfl a5.1.cells rfl (Ob df.now U ?_);refine aM (W4 (df.now.el U) ej) λ⟨(w:Sl),_⟩ h8 e8 hw=>?_;obtain⟨l',cf,ow⟩:=hw;have ow:MB h7.size h8 w l':=ow;have eg:Zf d h7:=ec.mono c7.1;have r8:=r7.ext e8;dsimp only;rw[show z.b=({z with ms:=wU (l.drop (j+1)) z.ms,ws:=Ab (l.drop (j+1)) z.ws}:Doc).b from rfl];refine dW (MZ (x:=(w,l')) r8 (eg.mono e8.1) (λh' c=>(ow.oZ c λi h1 J O=>aw O (eg i h1)).ok) (by rw[cf];exact hinv.1) bb.1 bb.2) λtg vs h9 hq=>?_;obtain⟨rfl,rfl,c9,r9⟩:=hq;refine⟨rfl,(),rfl,?_⟩;rw[bY (by omega) (by omega)];refine aC ⟨λ_=>⟨((j:Int)-1,()),rfl,⟨j,rfl,by omega,(c7.ext e8).trans c9 λ_ _ h=>h,?_⟩,by dsimp only;omega⟩,λhh=>absurd rfl hh⟩;have r9:eZ k d h9 {z with ms:=lY (l'.map dO) (wU (l.drop (j+1)) z.ms),ws:=lM (l'.map dO) (Ab (l.drop (j+1)) z.ws)}:=r9;rw[cf]at r9;rw[a2];exact r9
  .rw[eS]at Y
   have:i=0:=by omega
   subst this;rw[Ek]at r7;exact aC ⟨λhh=>absurd hh (by decide),λ_=>⟨rfl,rfl,c7,r7⟩⟩
 rintro t vs h7 ⟨rfl,rfl,c7,r7⟩;refine bG (bO ?_);have a5:=a4.aP (rho':=d) c7 (λi hi O=>aw O) λ_ _ h=>h;refine bU (b:=bI) G.bg rfl a5.1.cells rfl (aC ⟨rfl,?_,d,_,g2.trans (pP ec c7 λi _ O=>by rcases O with O|O<;>omega),r7,?_,?_,?_,?_⟩)
 .show[aH G.bg,aH 0]=[aH g.bg,aH 0]
  rw[<-ab];rfl
 .refine⟨?_,?_,?_,?_,?_,?_,?_,λq' a3=>?_,?_,?_,?_,?_,?_⟩
  .show z.E=(M.back ds g).E
   rw[Mo.Uy hn,I];show iU M.E0 (V.D.map wY)=_;rw[W,bd]
  .show z.D.map wY=M.lost++ds;rw[I];show V.D.map wY=_;rw[W,bd]
  .show z.lost=_;rw[I,C,B];exact m.lo
  .show z.R.map wY=g::M.next;rw[I,C];show(G::H.R).map wY=_;rw[fT,ab,b6,m.nx]
  .show wU l z.ms=wU (g.lI.map nY) M.marks;rw[hl,ba]
  .show Ab l z.ws=Ab (g.lI.map nY) M.watched;rw[hl,bp]
  .show z.op=M.now.isSome;rw[I,C,B];exact m.op
  .have a3:M.now=some q':=a3
   rw[hn]at a3;cases a3
  .show z.saved=_;rw[I,C,B];exact m.sv
  .show z.last=_;rw[I,C,B];exact m.la
  .show z.depth=_;rw[I,C,B];exact m.dp
  .show iH 0 0 (bJ z.enc z.lb)=_;rw[I,C,B];exact m.e0
  .show(z.lb.length:Int)<=z.limit;rw[I,C,B];exact m.li
 .show z.b=D.b;rw[cd,cc,b9]
 .show z.enc=D.enc;rw[I,C,B]
 .show z.limit=D.limit;rw[I,C,B]
end
section
variable{P:Program}{S:cH}{h:aG}{Q:Nat->bH->aG->Prop}{k:Nat}{rho:Nat->Nat}{D:Doc}
theorem jf{s:Sl}{g:DG}{l:List DG}(j:s.len<=s.cap)(o:Rd 4 h s ((g::l).flatMap Ep)):Rd 4 h ⟨bE s.aD s.cap 1 4,s.len-1,s.cap-1⟩ (l.flatMap Ep):=by
 have f:=o.1;rw[gM (m:=4) λ_=>rfl,fM]at f;refine⟨by rw[gM (m:=4) λ_=>rfl];dsimp only;omega,λi v hi=>?_⟩;have c:=(cQ.1 hi).1;rw[gM (m:=4) λ_=>rfl]at c;have d:((g::l).flatMap Ep)[4+i]?=some v:=by
  rw[gD,jZ (by show 4<=4+i;omega)];have:4+i-(Ep g).length=i:=by show 4+i-4=i;omega
  rw[this];exact hi
 obtain⟨a,ea,b⟩:=o.2 (4+i) v d;refine⟨a.add 4,?_,by rw[add_add];exact b⟩;show bE s.aD s.cap 1 4=_;unfold bE;rw[if_neg (by omega),ea];rfl
theorem qn(r:eZ k rho h D){M:Mo}{N:Nat}(m:DocM D M)(o:iF D.enc D.limit M N)(hN:N<=1073741824) :
  wp P (pW S (some D.b)) h λtg vs h'=>tg=0/\vs=[aH M.Bv.1,aH M.Bv.2.1]/\kA k h rho h' D M.Bv.2.2:=by
 unfold pW;have ds:=cX.mV (k:=k) (rho:=rho) (Ext.refl h);refine r.rd (b:=.bool) D.op rfl (aE (λhc=>?_) λhc=>?_)
 .rw[m.op]at hc
  have:M.Bv=(0,70,M):=by unfold Mo.Bv;rw[if_pos hc]
  rw[this];exact aC ⟨rfl,rfl,kA.ext r m (Ext.refl _)⟩
 rw[m.op]at hc;have hn:M.now=none:=by cases h:M.now with
  |none=>rfl
  |some q=>rw[h]at hc;cases hc
 have bt:=r.nx.now.1;rw[gM (m:=4) λ_=>rfl]at bt;have fm:=congrArg List.length m.nx;rw[cE]at fm;refine r.rd (b:=.sl) D.sn rfl (aE (λa9=>?_) λa9=>?_)
 .rw[cM,aN]at a9
  have h0:M.next=[]:=At (by omega)
  have:M.Bv=(0,73,M):=by unfold Mo.Bv;rw[hn,if_neg (by decide),h0]
  rw[this];exact aC ⟨rfl,rfl,kA.ext r m (Ext.refl _)⟩
 rw[dS,aN]at a9;obtain⟨G,Rs,al⟩:∃G Rs,D.R=G::Rs:=by
  cases hR:D.R with
  |nil=>rw[hR]at bt;simp at bt;omega
  |cons G Rs=>exact⟨G,Rs,rfl⟩
 have ao:=m.nx;rw[al,fT]at ao;obtain⟨g,ns,hd⟩:∃g ns,M.next=g::ns:=⟨_,_,ao.symm⟩
 rw[hd]at ao;have a5:wY G=g:=(KC ao).1;have e8:Rs.map wY=ns:=(KC ao).2;have hu:M.Bv=(g.en,0,M.xG g ns):=by unfold Mo.Bv;rw[hn,if_neg (by decide),hd]
 rw[hu];obtain⟨oe,og⟩:=m.nv o (by omega);obtain⟨gw,hs⟩:=m.small o (by omega);have A4:=o.li;have a8:=o.EY;have b6:=r.nc;have ho:D.R.length=Rs.length+1:=by rw[al];rfl
 have r0:=r.zr (Ext.refl h);have z0:=Lr h rho;generalize Hist.zr h rho=K at r0 z0 ds;have a7:K D.b.block=k+1:=r0.ob.2 D.b rfl;have e7:D.R[0]?=some G:=by rw[al];rfl
 refine r0.rd (b:=.sl) D.sn rfl (bf (i:=0) r0.nx.now e7 ?_);refine λel=>?_;have cd:Ext h (h.push (.cells [.slice none 0 0,aH 0,aH 0,aH 0].toArray el)):=Ext.push ..;have b2:cA h.size 1 (h.push (.cells [.slice none 0 0,aH 0,aH 0,aH 0].toArray el)) ⟨some ⟨h.size,0,none⟩,4,4⟩ [.slice none 0 0,aH 0,aH 0,aH 0]:=bR rfl (by decide) (by decide);show wp P _ (h.push (.cells [.slice none 0 0,aH 0,aH 0,aH 0].toArray el)) _;generalize h.push (.cells [.slice none 0 0,aH 0,aH 0,aH 0].toArray el)=g1 at cd b2⊢;refine Am (Ep G) b2 rfl (by intro v hv;simp only[Ep,eH,lG,or_false]at hv;rcases hv with rfl|rfl|rfl|rfl<;>rfl) λh1 o1 u1 z1=>?_;have e1:Ext h h1:=jU.jQ cd u1 λx hx=>by cases hx;exact bM _
 have r1:=r0.ext e1;have g7:=z0.mono e1.1;have aA:tL 0 1 K h1 ⟨some ⟨h.size,0,none⟩,4,4⟩ (Ep G):=⟨cA.mono o1 (cO _),λa ha=>by cases ha;exact z0 _ (bM _)⟩;have g0:=ds.trans (pP z0 (aV.bD (F:=λ_=>False) e1) λ_ _ f=>f.elim);generalize hk:(⟨h.size,0,none⟩:Addr)=A at aA⊢;clear o1 b2 u1;refine r1.rd (b:=.sl) D.sn rfl (aL (iP (by decide) (by omega)) ?_);refine r1.w.Di (gB rfl) rfl λZ w2 c2 z2=>?_;have g2:=g0.trans (kI a7 c2 z2);have dx:Zf K Z:=g7.mono (by omega);have b9:=aA.aP (rho':=K) c2 (λi hi e=>by rw[e,a7];omega) λ_ _ h=>h;obtain⟨T,C⟩:∃T,T=({D with sn:=⟨bE D.sn.aD D.sn.cap 1 4,D.sn.len-1,D.sn.cap-1⟩,R:=Rs}:Doc):=⟨_,rfl⟩;have r2:eZ k K Z T:=by
  rw[C];refine w2.done rfl rfl λp=>⟨p.ot,p.ea,p.et,p.HX,p.dn,p.dk,λx cx=>jf b6.1 (by have:=p.nx x cx;rw[al]at this;exact this),⟨by show D.sn.len-1<=D.sn.cap-1;omega,by show D.sn.cap-1<2^63;omega⟩,λy U=>p.nk y (by rw[al];exact eK _ U),p.ma,p.wa,p.nw,p.kn,p.li,p.fi⟩
 have fv:JZ (λh=>Ba.ok h G.c) K Z:=(r1.nk G (by rw[al];exact eO ..)).aP c2 (λi hi e=>by rw[e,a7];omega) λ_ _ h=>h;have cg:T.b=D.b:=by rw[C]
 rw[<-cg]at a7⊢;have eg:T.D=D.D:=by rw[C]
 have e9:=r2.dn.1.1;rw[gM (m:=4) λ_=>rfl,eg]at e9;refine r2.rd (b:=.sl) T.sd rfl (Cj (G.c.1,G.bg,G.en,G.st,()) b9.1 rfl ?_);refine λa3=>?_;have e3:Ext Z (Z.push (.cells (Ep G).toArray a3)):=Ext.push ..;have o3:cA Z.size 1 (Z.push (.cells (Ep G).toArray a3)) ⟨some ⟨Z.size,0,none⟩,4,4⟩ (Ep G):=bR rfl (by decide) (by decide);show wp P _ (Z.push (.cells (Ep G).toArray a3)) _;generalize Z.push (.cells (Ep G).toArray a3)=h3 at e3 o3⊢;have V:=r2.ext e3;have g8:=dx.mono e3.1;have g3:=g2.trans (pP dx (aV.bD (F:=λ_=>False) e3) λ_ _ f=>f.elim);have ey:=b9.aP (rho':=K) (aV.bD (F:=λ_=>False) e3) (λ_ _ f=>f.elim) λ_ _ h=>h;have fy:=fv.aP (rho':=K) (aV.bD (F:=λ_=>False) e3) (λ_ _ f=>f.elim) λ_ _ h=>h;refine⟨⟨_,rfl,aI.2 λj v hj=>?_⟩,?_⟩
 .cases j with
  |zero=>cases hj;rw[add_zero'];exact aI.1 V.ob.1.cells 5 _ rfl
  |succ j=>simp at hj
 have gv:Rd 4 h3 ⟨some ⟨Z.size,0,none⟩,1,1⟩ ([G].flatMap Ep):=⟨rfl,λi v hi=>⟨_,rfl,aI.1 o3.cells i v (by simpa using hi)⟩⟩;refine iR V.dn.1 (cO _) gv (by intro v hv;simp at hv;rcases hv with rfl|rfl|rfl|rfl<;>rfl) rfl (by dsimp only;omega) (by dsimp only;omega) λq4 h4 o4 l4 u4 b4 _=>?_;have W:aV (fZ T.sd) h3 h4:=aV.dK u4 λx hx _=>⟨x,hx,rfl⟩;rw[<-gX]at o4;obtain⟨d,er,a4,z4,I,e5⟩:=SC (k:=k) (r:=k+6) g8 V.dn W o4 b4 (by omega);have g4:=g3.trans er;have O:∀i,i<h3.size->fZ T.sd i->K i=k+6:=e5;have c8:=fy.aP (rho':=d) W (λi hi B=>by rw[O i hi B];omega) λi hi h=>by rw[I i hi];exact h
 have e2:=ey.aP (rho':=d) W (λi hi B=>by rw[O i hi B];omega) λi hi h=>by rw[I i hi];exact h
 have w4:LS k d h4 {T with sd:=q4,D:=T.D++[G]} (Bf T):=by
  refine⟨?_,V.ob.aP W (λi hi B=>by rw[O i hi B];omega) λi hi h=>by rw[I i hi];exact h⟩;refine⟨V.ot.aP W (λi hi B=>by rw[O i hi B];omega) λi hi h=>by rw[I i hi];exact h,V.ea.aP W (λi hi B=>by rw[O i hi B];omega) λi hi h=>by rw[I i hi];exact h,V.et.aP W (λi hi B=>by rw[O i hi B];omega) λi hi h=>by rw[I i hi];exact h,
   V.HX.aP W (λi hi B=>by rw[O i hi B];omega) λi hi h=>by rw[I i hi];exact h,a4,λy U=>?_,V.nx.aP W (λi hi B=>by rw[O i hi B];omega) λi hi h=>by rw[I i hi];exact h,V.nc,
   λg hg=>(V.nk g hg).aP W (λi hi B=>by rw[O i hi B];omega) λi hi h=>by rw[I i hi];exact h,V.ma.aP W (λi hi B=>by rw[O i hi B];omega) λi hi h=>by rw[I i hi];exact h,V.wa.aP W (λi hi B=>by rw[O i hi B];omega) λi hi h=>by rw[I i hi];exact h,λhh=>?_,V.kn,V.li,V.fi⟩
  .rcases dH.1 U with U|U
   .exact(V.dk y U).aP W (λi hi B=>by rw[O i hi B];omega) λi hi h=>by rw[I i hi];exact h
   .rw[dE.1 U];exact c8
  .have hh:T.op=true:=hh
   rw[C]at hh;have hh:D.op=true:=hh;rw[m.op,hn]at hh;cases hh
 have aw:d T.b.block=k+1:=w4.o.2 T.b rfl;refine w4.Di (gB rfl) rfl λh5 w5 c5 z5=>?_;have c5:aV (λi=>i=T.b.block) h4 h5:=c5;have g5:=g4.trans (kI aw c5 z5);have b3:Zf d h5:=z4.mono (by omega);have e4:=e2.aP (rho':=d) c5 (λi hi e=>by rw[e,aw];omega) λ_ _ h=>h;have gf:=c8.aP (rho':=d) c5 (λi hi e=>by rw[e,aw];omega) λ_ _ h=>h;obtain⟨Y,H⟩:∃Y,Y=({T with sd:=q4,D:=T.D++[G]}:Doc):=⟨_,rfl⟩;have r5:eZ k d h5 Y:=by
  rw[H];exact w5.done rfl rfl λp=>p
 have cr:Y.b=T.b:=by rw[H]
 rw[<-cr];have ab:Y.D=D.D++[G]:=by rw[H,C]
 have bd:(D.D++[G]).map wY=M.lost++M.done++[g]:=by rw[dP,m.dn];show _++[wY G]=_;rw[a5]
 have dr:H3 D.enc D.limit M.E0 ((D.D++[G]).map wY):=by
  rw[bd];have h1:=o.ok;unfold Mo.all at h1;rw[hd,List.append_cons]at h1;exact(H3.append.1 h1).1
 have e6:G.c.2.length<=4294967296:=by
  have h3:wY G∈M.all:=by unfold Mo.all;rw[a5,hd];simp
  have h4:=Qq o.sz h3;have h5:(wY G).lI.length=G.c.2.length:=by unfold wY;simp
  omega
 refine dW (UW r5 b3 (E0:=M.E0) (by rw[H,C];exact m.e0) (by rw[H,C];exact m.li) (by rw[H,C];exact oe) (by rw[ab,H,C];exact dr) (by rw[ab];intro y U;rcases dH.1 U with U|U;exact gw y U;rw[dE.1 U];exact e6) (by rw[ab,bQ,Av];have h1:=congrArg List.length m.dn;rw[cE]at h1;unfold Mo.all at a8;rw[bQ]at a8;omega)) λtg vs h6 hq=>?_;obtain⟨rfl,rfl,sa,sT,c6,r6⟩:=hq;refine⟨rfl,(),rfl,?_⟩;have b0:d Y.t=k+2:=r5.ot.2 (Cq Y.t) rfl;have g6:=g5.trans (pP b3 c6 λi _ e=>by rw[e,b0];omega);have ec:Zf d h6:=b3.mono c6.1;have cc:=e4.aP (rho':=d) c6 (λi hi e=>by rw[e,b0];omega) λ_ _ h=>h;have de:=gf.aP (rho':=d) c6 (λi hi e=>by rw[e,b0];omega) λ_ _ h=>h;obtain⟨z,J⟩:∃z,z=({Y with sa:=sa,st:=sT,E:=iU M.E0 (Y.D.map wY)}:Doc):=⟨_,rfl⟩;rw[<-J]at r6;have ct:z.b=Y.b:=by rw[J]
 rw[<-ct];have bp:z.ms=M.marks:=by rw[J,H,C];exact m.ms
 have b1:z.ws=M.watched:=by rw[J,H,C];exact m.ws
 have bb:g.lI=G.c.2.map λe=>e.2.map hP:=by rw[<-a5];rfl
 have bo:=o.su hn hd;obtain⟨l,hl⟩:∃l,l=g.lI.map nY:=⟨_,rfl⟩;rw[<-hl]at bo;have hr:l.length=G.c.2.length:=by rw[hl,cE,bb,cE]
 have ei:Uk M.E.length z.ms z.ws:=by rw[bp,b1];exact⟨o.mi,o.wk⟩
 obtain⟨gm,gg⟩:=dr.at oe (i:=D.D.length) (g:=wY G) (by rw[gQ];simp);have eh:aQ G.c.1.len=(G.c.2.length:Int):=by rw[aN,de.now.1]
 have a1:∀{i:Nat},(d i=k+3\/d i=k+4)->d i≠0:=λh=>by omega
 refine bL (λ(s:Int×Unit) h'=>∃i:Nat,s.1=(i:Int)/\i<=l.length/\aV (λi=>d i=k+3\/d i=k+4) h6 h'/\eZ k d h' {z with ms:=rR (l.take i) z.ms,ws:=sS (l.take i) z.ws}) (λs _=>((l.length:Int)-s.1).toNat)
  (λt vs h'=>t=2/\vs=[]/\aV (λi=>d i=k+3\/d i=k+4) h6 h'/\eZ k d h' {z with ms:=rR l z.ms,ws:=sS l z.ws})
  ⟨0,rfl,cO _,aV.refl _ _,r6⟩ ?_ ?_
 .rintro⟨(si:Int),u⟩ h7 ⟨j,hi,hle,c7,r7⟩
  dsimp only at hi⊢;subst hi;have a2:=cc.aP (rho':=d) c7 (λi hi B=>a1 B) λ_ _ h=>h;have df:=de.aP (rho':=d) c7 (λi hi B=>a1 B) λ_ _ h=>h;refine bU (b:=.sl) G.c.1 rfl a2.1.cells rfl ?_;rw[eh];refine aE (λba=>?_) λba=>?_
  .rw[aU]at ba
   have fj:j<G.c.2.length:=by omega
   obtain⟨y,U⟩:∃y,G.c.2[j]?=some y:=⟨G.c.2[j],cK fj⟩;have ft:(wY G).lI[j]?=some (y.2.map hP):=by show(G.c.2.map _)[j]?=_;rw[gQ,U];rfl
   have fl:l[j]?=some (y.2.map dO):=by
    rw[hl,gQ,bb,gQ,U];show some (nY (y.2.map hP))=_;rw[FR]
   have b8:l.take (j+1)=l.take j++[y.2.map dO]:=by rw[eN,fl];rfl
   obtain⟨c1,c2,c3⟩:=gm.at gg ft;rw[cE]at c1;rw[D9]at c2;have ej:=TJ c1 c2 (by have:=c3.len;omega) A4.2;obtain⟨a0,cf,hp⟩:=bo.cut j;have bs:=(Uk.XT cf ei).w cf.hi.2;refine bU (b:=.sl) G.c.1 rfl a2.1.cells rfl (Ob df.now U ?_);have g9:Zf d h7:=ec.mono c7.1;rw[show z.b=({z with ms:=rR (l.take j) z.ms,ws:=sS (l.take j) z.ws}:Doc).b from rfl];refine dW (MZ (x:=y) r7 g9 (λh' c=>(df.aP (rho':=d) c (λi hi B=>a1 B) λ_ _ h=>h).now.el U) ej bs.1 bs.2) λtg vs h9 hq=>?_;obtain⟨rfl,rfl,c9,r9⟩:=hq;refine⟨rfl,(),rfl,?_⟩;rw[aW (by omega) (by omega)];refine aC ⟨λ_=>⟨((j:Int)+1,()),rfl,⟨j+1,by push_cast;rfl,by omega,c7.trans c9 λ_ _ h=>h,?_⟩,by dsimp only;omega⟩,λhh=>absurd rfl hh⟩;have r9:eZ k d h9 {z with ms:=lY (y.2.map dO) (rR (l.take j) z.ms),ws:=lM (y.2.map dO) (sS (l.take j) z.ws)}:=r9;rw[b8,Vk,Vl];exact r9
  .rw[aY]at ba
   have:j=l.length:=by omega
   subst this;rw[fH]at r7;exact aC ⟨λhh=>absurd hh (by decide),λ_=>⟨rfl,rfl,c7,r7⟩⟩
 rintro t vs h7 ⟨rfl,rfl,c7,r7⟩;refine bG (bO ?_);have a2:=cc.aP (rho':=d) c7 (λi hi B=>a1 B) λ_ _ h=>h;refine bU (b:=bI) G.en rfl a2.1.cells rfl (aC ⟨rfl,?_,d,_,g6.trans (pP ec c7 λi _ B=>by rcases B with B|B<;>omega),r7,?_,?_,?_,?_⟩)
 .show[aH G.en,aH 0]=[aH g.en,aH 0]
  rw[<-a5];rfl
 .refine⟨?_,?_,?_,?_,?_,?_,?_,λq' a6=>?_,?_,?_,?_,?_,?_⟩
  .show z.E=(M.xG g ns).E
   rw[Mo.QE hn,J];show iU M.E0 (Y.D.map wY)=_;rw[ab,bd,yD];rfl
  .show z.D.map wY=M.lost++(M.done++[g]);rw[J];show Y.D.map wY=_;rw[ab,bd,dX]
  .show z.lost=_;rw[J,H,C];exact m.lo
  .show z.R.map wY=ns;rw[J,H,C];exact e8
  .show rR l z.ms=rR (g.lI.map nY) M.marks;rw[hl,bp]
  .show sS l z.ws=sS (g.lI.map nY) M.watched;rw[hl,b1]
  .show z.op=M.now.isSome;rw[J,H,C];exact m.op
  .have a6:M.now=some q':=a6
   rw[hn]at a6;cases a6
  .show z.saved=_;rw[J,H,C];exact m.sv
  .show z.last=_;rw[J,H,C];exact m.la
  .show z.depth=_;rw[J,H,C];exact m.dp
  .show iH 0 0 (bJ z.enc z.lb)=_;rw[J,H,C];exact m.e0
  .show(z.lb.length:Int)<=z.limit;rw[J,H,C];exact m.li
 .show z.b=D.b;rw[ct,cr,cg]
 .show z.enc=D.enc;rw[J,H,C]
 .show z.limit=D.limit;rw[J,H,C]
end
section
variable{P:Program}{S:cH}{h:aG}{Q:Nat->bH->aG->Prop}{k:Nat}{rho:Nat->Nat}{D:Doc}
variable{l:bB}
inductive CS(enc limit depth:Int)(l:bB):Int->Prop where
 |deep:¬(1<=depth/\depth<=200)->CS enc limit depth l 1
 |enc:1<=depth/\depth<=200->¬eM enc->CS enc limit depth l 10
 |arg:1<=depth/\depth<=200->eM enc->¬(0<=limit/\limit<=65536)->CS enc limit depth l 1
 |full:1<=depth/\depth<=200->eM enc->0<=limit/\limit<=65536->limit<l.length->CS enc limit depth l 50
 |ok:1<=depth/\depth<=200->eM enc->0<=limit/\limit<=65536->l.length<=limit->CS enc limit depth l 0
theorem CS.fn{enc limit depth e e':Int}(a:CS enc limit depth l e)(b:CS enc limit depth l e'):e=e':=by
 cases a<;>cases b<;>first|rfl|(exfalso;omega)|(exfalso;simp_all)
open Classical in
theorem qm{enc limit depth:Int}{b:Sl}(hb:kW .u8 h b l)(hl:l.length<=1073741824) :
  aS P (BV S enc b limit depth) [tP, tI] h λ(y:OA×Int×Unit) h'=>CS enc limit depth l y.2.1/\(y.2.1≠0->y.1=none) /\
   (y.2.1=0->∃D:Doc,y.1=some D.b/\D.enc=enc/\D.limit=limit/\DocM D (Mo.new (iH 0 0 (bJ enc l)) depth)/\∀(k:Nat) (rho:Nat->Nat),∃rho',cX k h rho h' rho'/\(∀i,i<h.size->rho' i=rho i)/\eZ k rho' h' D):=by
 unfold BV aS;refine bZ (¬(1<=depth/\depth<=200)) (aE (λf=>aC ⟨rfl,Ext.refl _,true,rfl,?_⟩) λf=>aC ⟨rfl,Ext.refl _,_,rfl,?_⟩) λbb h0 e0 J=>aE (λf=>aC ⟨rfl,e0,(none,1,()),rfl, .deep (J.1 f),λ_=>rfl,λm=>absurd m (by show ¬((1:Int)=0);decide)⟩) λf=>?_
 .rw[aU]at f;exact⟨λ_=>by omega,λ_=>rfl⟩
 .rw[aY]at f;rw[dL];exact⟨λ_=>by omega,λ_=>by omega⟩
 have V:1<=depth/\depth<=200:=by
  by_cases j:1<=depth/\depth<=200
  .exact j
  .rw[J.2 j]at f;cases f
 clear f J;have ao:=hb.ext e0;refine aM (Ps ao hl) λ⟨(pp:OA),(ee:Int),_⟩ d w T=>?_;have T:EV h0 d enc limit l pp ee:=T;dsimp only;cases T with
 |enc A=>exact aE (λ_=>aC ⟨rfl,e0.trans w,(none,10,()),rfl, .enc V A,λ_=>rfl,λm=>absurd m (by show ¬((10:Int)=0);decide)⟩) λf=>by cases f
 |arg A r=>exact aE (λ_=>aC ⟨rfl,e0.trans w,(none,1,()),rfl, .arg V A r,λ_=>rfl,λm=>absurd m (by show ¬((1:Int)=0);decide)⟩) λf=>by cases f
 |full A r a8=>exact aE (λ_=>aC ⟨rfl,e0.trans w,(none,50,()),rfl, .full V A r a8,λ_=>rfl,λm=>absurd m (by show ¬((50:Int)=0);decide)⟩) λf=>by cases f
 |ok R A r hle C al a6 bt a7 a5 ab=>
  refine aE (λf=>by cases f) λ_=>?_;refine λel=>?_;generalize K:[aH enc,aH limit,aH depth,Value.slice none 0 0, .pointer (some (Cq R.b)), .slice none 0 0, .slice none 0 0,aH 0, .slice none 0 0, .slice none 0 0, .bool false, .slice none 0 0,aH 0,aH 0,aH 0, .slice none 0 0, .slice none 0 0,aH 0,aH 0]=cs;have e2:Ext d (d.push (.cells cs.toArray el)):=Ext.push ..;have o2:cA d.size 1 (d.push (.cells cs.toArray el)) ⟨some ⟨d.size,0,none⟩,19,19⟩ cs:=bR (by rw[<-K];rfl) (by decide) (by decide);show wp P _ (d.push (.cells cs.toArray el)) _;generalize d.push (.cells cs.toArray el)=o at e2 o2⊢;have hn:aQ b.len=(l.length:Int):=by rw[aN,hb.len]
  rw[hn];have cells:∀s:Sl,cs.set 3 (dN s)=[aH enc,aH limit,aH depth,dN s, .pointer (some (Cq R.b)), .slice none 0 0, .slice none 0 0,aH 0, .slice none 0 0, .slice none 0 0, .bool false, .slice none 0 0,aH 0,aH 0,aH 0, .slice none 0 0, .slice none 0 0,aH 0,aH 0]:=λs=>by rw[<-K];rfl
  have b0:d.size<o.size:=(o2.lt rfl).2;refine bL (λ(x:Int×Unit) h'=>Ext d h'/\∃(i:Nat) (s:Sl),x.1=i/\i<=l.length/\o.size<=h'.size/\cA d.size 1 h' ⟨some ⟨d.size,0,none⟩,19,19⟩ (cs.set 3 (dN s))/\bV o.size .u8 h' s (l.take i)) (λx _=>((l.length:Int)-x.1).toNat)
   (λt vs h'=>Ext d h'/\t=2/\vs=[]/\∃s,cA d.size 1 h' ⟨some ⟨d.size,0,none⟩,19,19⟩ (cs.set 3 (dN s))/\bV o.size .u8 h' s l)
   ⟨e2,0,⟨none,0,0⟩,rfl,cO _,bM _,by rw[cells];rw[<-K]at o2;exact o2,bV.nil ..⟩ ?_ ?_
  .rintro⟨(si:Int),u⟩ G ⟨B,i,s,hi,bs,s3,H,ol⟩
   dsimp only at hi⊢;subst hi;refine aE (λf=>?_) λf=>?_
   .rw[aU]at f
    have ba:i<l.length:=by omega
    have Y:(cs.set 3 (dN s))[3]?=some (dN s):=by rw[cells];rfl
    refine bU (b:=.sl) s rfl H.cells Y ?_;refine qZ ((ao.ext w).ext B) (by omega) (by omega) λO=>?_;have hv:l[i]?=some (l.getD (i:Int).toNat 0):=by simp[List.getD,cK ba]
    generalize l.getD (i:Int).toNat 0=v at hv O⊢;refine jG (k:=.u8) [v] (by intro z hz;rw[dE.1 hz];exact O) (by simp) λh4 I o4=>?_;have a0:=(aV.bD (F:=λ_=>False) I).own H λ_ _ x=>x;have U:=(aV.bD (F:=λ_=>False) I).qL ol λ_ _ x=>x;refine sU (aI.1 a0.cells 3 _ Y) ?_;refine uU U (by have:=I.1;omega) o4.lO (by rw[dJ];simp;omega) (by rw[dJ];simp;omega) λs' h5 k5 o5 u5 b5 _=>?_;have bd:∀x,s.aD=some x->x.block≠d.size:=λx j=>by have:=(U.own.lt j).1;omega
    have bo:=(aV.dK (F:=fZ s) u5 λx j _=>⟨x,j,rfl⟩).own a0 λx j ⟨y,T,e⟩=>by cases j;exact bd y T e
    refine fB (dN s') bo (by rw[cells];exact gB rfl) rfl λh6 o6 u6=>?_;have c6:aV (λi=>i=d.size) h5 h6:=aV.dK u6 λx j _=>by cases j;rfl
    have bp:=c6.qL o5 λx j e=>by have:=(o5.own.lt j).1;omega
    have e5:Ext d h5:=jU.jQ (B.trans I) u5 λx j=>by have:=(U.own.lt j).1;omega
    have e6:Ext d h6:=jU.jQ e5 u6 λx j=>by cases j;exact bM _
    rw[aW (by omega) (by omega)];refine aC ⟨λ_=>⟨((i:Int)+1,()),rfl,⟨e6,i+1,s',by push_cast;rfl,by omega,by have:=c6.1;have:=u5.1;have:=I.1;omega,?_,?_⟩,by dsimp only;omega⟩,λm=>absurd rfl m⟩
    .rw[List.set_set]at o6;exact o6
    .rw[eN,hv];exact bp
   .rw[aY]at f
    have:i=l.length:=by omega
    subst this;rw[fH]at ol;exact aC ⟨λm=>absurd m (by decide),λ_=>⟨B,rfl,rfl,s,H,ol⟩⟩
  .rintro t vs G ⟨B,rfl,rfl,s,H,ol⟩
   refine bG (bO (aC ⟨rfl,(e0.trans w).trans B,(some ⟨d.size,0,none⟩,0,()),rfl, .ok V A r hle,λm=>absurd rfl m,λ_=>?_⟩));have Z:=C.ext B;refine⟨{b:=⟨d.size,0,none⟩,t:=R.b,enc:=enc,limit:=limit,depth:=depth,sb:=s,lb:=l,sa:=R.sa,st:=R.st,E:=R.E,sd:=⟨none,0,0⟩,D:=[],sn:=⟨none,0,0⟩,R:=[],lost:=0,sm:=⟨none,0,0⟩,ms:=[],sw:=⟨none,0,0⟩,ws:=[],op:=false,c:=(⟨none,0,0⟩,[]),bg:=0,en:=0,gs:=0,so:=⟨none,0,0⟩,om:=[],sv:=⟨none,0,0⟩,ow:=[],saved:=0,last:=0},rfl,rfl,rfl,?_,λk rho=>?_⟩
   .have hE:R.E=(Mo.new (iH 0 0 (bJ enc l)) depth).E:=a5
    exact⟨hE,rfl,rfl,rfl,rfl,rfl,rfl,λq hq=>(by cases hq),rfl,rfl,rfl,rfl,by exact hle⟩
   .have z1:=(ab R.b C.zb)
    have z2:=(C.lo R.b C.zb).2;have s0:=e0.1
    let rho':Nat->Nat:=λi=>if i<h.size then rho i else if i=d.size then k+1 else if i=R.b then k+2 else 0
    have old:∀i,i<h.size->rho' i=rho i:=λi hi=>if_pos hi;have r1:rho' d.size=k+1:=by show(if _ then _ else if _ then _ else _)=_;rw[if_neg (by have:=w.1;omega),if_pos rfl]
    have r2:rho' R.b=k+2:=by show(if _ then _ else if _ then _ else if _ then _ else _)=_;rw[if_neg (by omega),if_neg (by omega),if_pos rfl]
    have r0:∀i,h.size<=i->i≠d.size->i≠R.b->rho' i=0:=λi d o G=>by show(if _ then _ else if _ then _ else if _ then _ else _)=_;rw[if_neg (by omega),if_neg o,if_neg G]
    refine⟨rho',⟨aV.bD ((e0.trans w).trans B),λi hi _=>old i hi,λi hi W=>?_⟩,old,?_⟩
    .by_cases a9:i<h.size
     .rw[old i a9]
      rcases W with W|W
      .omega
      .exact .inr W
     .by_cases o:i=d.size
      .rw[o,r1];omega
      .by_cases G:i=R.b
       .rw[G,r2];omega
       .rw[r0 i (by omega) o G];exact .inl rfl
    .have aw:∀i,ZF (R.sa,R.st,R.E) i->rho' i=0:=λi hi=>by
      obtain⟨a1,a2,_⟩:=C.zc i hi;have a3:=ab i a1;have a4:=(C.lo i a1).2;exact r0 i (by omega) (by omega) a2
     have cur:=Z.cur;exact{
      ob:=⟨by rw[cells]at H;exact cA.mono H (cO _),λa ha=>by cases ha;exact r1⟩
      ot:=⟨by have:=Z.ob;rw[al,a6,a7]at this;exact cA.mono this (cO _),λa ha=>by cases ha;exact r2⟩
      ea:=⟨cur.1.mono (cO _),λa ha=>aw _ (.inl ⟨a,ha,rfl⟩)⟩
      et:=⟨cur.2.mono (cO _),λa ha=>aw _ (.inr ⟨a,ha,rfl⟩)⟩
      HX:=λg c=>(c.qL ol λx j O=>by
       have d:=(ol.own.lt j).1;have o:rho' x.block=0:=r0 _ (by have:=w.1;omega) (by omega) (by omega);rw[o]at O;exact absurd O (HV 0)).lO
      dn:=⟨cA.nil .., λa ha=>by cases ha⟩
      dk:=λg hg=>by cases hg
      nx:=λg c=>⟨rfl,λi v hi=>by simp at hi⟩
      nc:=⟨bM 0,(by decide:0<2^63)⟩
      nk:=λg hg=>by cases hg
      ma:=⟨cA.nil .., λa ha=>by cases ha⟩
      wa:=⟨bV.nil .., λa ha=>by cases ha⟩
      nw:=λm=>by cases m
      kn:=A
      li:=r
      fi:=by have:=C.fit;rw[al]at this;exact this}
end
section
variable{P:Program}{S:cH}{h:aG}{Q:Nat->bH->aG->Prop}{k:Nat}{rho:Nat->Nat}{D:Doc}
variable{s:Sl}{a:Nat}
theorem NZ{n size:Nat}{vs:bH}(o:cA n size h s vs):∃ws,cA n size h ⟨s.aD,s.cap,s.cap⟩ (vs++ws):=by
 obtain⟨o1,o2,t,b⟩:=o;cases hb:s.aD with
 |none=>
  rw[hb]at b;have b:s.cap=0:=b;have:vs=[]:=At (by rw[<-o1,show s.len=0 by omega,Nat.zero_mul]);exact⟨[],by rw[this,b];exact⟨by simp,bM _,(by decide:0<2^63),rfl⟩⟩
 |some a=>
  rw[hb]at b;obtain⟨e0,g,j,cs,elem,m,c,r⟩:=b;have hle:vs.length<=cs.size:=by rw[<-o1,c];exact JH _ o2
  have f:vs=cs.toList.take vs.length:=by
   refine Si λi=>?_;rw[F4];by_cases hi:i<vs.length
   .rw[if_pos hi,cK hi]
    have:=r i vs[i] (cK hi);rw[Array.getElem?_toList];exact this.symm
   .rw[if_neg hi,JK (by omega)]
  refine⟨cs.toList.drop vs.length,?_⟩;have d:vs++cs.toList.drop vs.length=cs.toList:=by
   conv=>lhs;lhs;rw[f]
   exact eY ..
  rw[d];exact⟨by rw[RU,c],bM _,t,e0,g,j,cs,elem,m,c,λi v hi=>by rw[Array.getElem?_toList]at hi;exact hi⟩
def Lk(a n:Nat):bB:=(List.range n).map λi=>bK .i64 (-71) ((a+i:Nat):Int)
theorem I9(a n:Nat):(Lk a n).length=n:=by simp[Lk]
theorem ZV(a n:Nat):Lk a (n+1)=Lk a n++[bK .i64 (-71) ((a+n:Nat):Int)]:=by simp[Lk,Mh]
theorem Wo{n i:Nat}(hi:i<n):(Lk a n)[i]?=some (bK .i64 (-71) ((a+i:Nat):Int)):=by simp[Lk,hi]
theorem ZU{n:Nat}:∀x∈Lk a n,cY .i64 x:=λx b=>by
 obtain⟨i,hi,rfl⟩:=dB.1 b;exact range_i64 _
theorem MQ{l:bB}(G:kW .i64 h s l)(hl:l.length<=1073741824):aS P (pT S s) [tS] h λ(y:Sl×Unit) h'=>∃n,40<=n/\y.1.len=y.1.cap/\y.1.len=l.length+n/\bV h.size .i64 h' y.1 (l++Lk l.length n):=by
 unfold pT aS;refine aM (UK G (by omega)) λ⟨(q:Sl),_⟩ Z K I=>?_;have I:bV h.size .i64 Z q l:=I;have a0:=K.1;refine bL (λ(x:Sl×Int×Unit) h'=>Ext h h'/\∃(i:Nat) (m:bB),x.2.1=i/\i<=40/\m.length=l.length+i/\m.take l.length=l/\bV h.size .i64 h' x.1 m) (λx _=>((40:Int)-x.2.1).toNat)
  (λt vs h'=>Ext h h'/\t=2/\∃q m,vs=[dN q]/\m.length=l.length+40/\m.take l.length=l/\bV h.size .i64 h' q m) ⟨K,0,l,rfl,by omega,rfl,fH,I⟩ ?_ ?_
 .rintro⟨(q:Sl),(si:Int),u⟩ O ⟨w,i,m,hi,hle,B,j,o⟩
  dsimp only at hi o⊢;subst hi;refine aE (λf=>?_) λf=>?_
  .rw[aU]at f
   refine jG (k:=.i64) [-71] (by intro z hz;rw[dE.1 hz];exact eV.2 (by omega)) (by simp) λC d c=>?_;have Y:=(aV.bD (F:=λ_=>False) d).qL o λ_ _ x=>x;refine uU Y (by have:=w.1;have:=d.1;omega) c.lO (by simp;omega) (by simp;omega) λq' h4 k4 H J b4 _=>?_;rw[aW (by omega) (by omega)];refine aC ⟨λ_=>⟨(q',(i:Int)+1,()),rfl,⟨jU.jQ (w.trans d) J λa ha=>(Y.own.lt ha).1,i+1,m++[-71],by push_cast;rfl,by omega,by simp;omega,?_,H⟩,by dsimp only;omega⟩,λg=>absurd rfl g⟩;rw[As (by omega)];exact j
  .rw[aY]at f
   have:i=40:=by omega
   subst this;exact aC ⟨λg=>absurd g (by decide),λ_=>⟨w,rfl,q,m,rfl,B,j,o⟩⟩
 rintro t vs O ⟨w,rfl,q,m,rfl,B,j,o⟩;refine bG (mP ?_);have ab:=o.own.2.1;have al:=o.own.2.2.1;have hlen:=o.len;refine aL (iP (by rw[aN];omega) (by rw[aN];exact kR _)) ?_;dsimp only;have R:bE q.aD q.cap 0 1=q.aD:=eX ..;have hN:aQ (cS (bP (aQ q.cap)) 0)=(q.cap:Int):=rfl;rw[R,hN];obtain⟨ws,ow⟩:=NZ o.own;have a1:ws.length=q.cap-m.length:=by have:=ow.1;rw[bQ,cE]at this;dsimp only at this;omega
 have T:m=l++m.drop l.length:=by conv=>lhs;rw[<-eY l.length m,j]
 obtain⟨rest,r⟩:∃rest:bH,rest=(m.drop l.length).map (.int .i64)++ws:=⟨_,rfl⟩;have aw:rest.length=q.cap-l.length:=by rw[r,bQ,cE,cW];omega
 have W:cA h.size 1 O ⟨q.aD,q.cap,q.cap⟩ (l.map (.int .i64)++rest):=by
  rw[r,<-dX,<-dP,<-T];exact ow
 have U:aQ s.len=(l.length:Int):=by rw[aN,G.len]
 rw[U];obtain⟨n,hn⟩:∃n,q.cap=l.length+n:=⟨q.cap-l.length,by omega⟩;refine bL (λ(x:Int×Unit) h'=>Ext h h'/\∃i:Nat,x.1=((l.length+i:Nat):Int)/\i<=n/\cA h.size 1 h' ⟨q.aD,q.cap,q.cap⟩ (l.map (.int .i64)++(Lk l.length i).map (.int .i64)++rest.drop i)) (λx _=>((q.cap:Int)-x.1).toNat)
  (λt vs h'=>Ext h h'/\t=4/\vs=[]/\cA h.size 1 h' ⟨q.aD,q.cap,q.cap⟩ (l.map (.int .i64)++(Lk l.length n).map (.int .i64))) ⟨w,0,rfl,cO _,by simpa[Lk] using W⟩ ?_ ?_
 .rintro⟨(si:Int),u⟩ C ⟨d,i,hi,hle,c⟩
  dsimp only at hi⊢;subst hi;refine aE (λf=>?_) λf=>?_
  .rw[aU]at f
   have ao:i<n:=by omega
   have A:∃a,q.aD=some a:=by
    cases hb:q.aD with
    |none=>
     have:=ow.2.2.2;rw[hb]at this;have:q.cap=0:=this;omega
    |some a=>exact⟨a,rfl⟩
   obtain⟨a,ea⟩:=A;refine aL (fA.2 ⟨by rw[ea];rfl,kN.2 ⟨by omega,by show((l.length+i:Nat):Int)<((q.cap:Nat):Int);omega⟩⟩) ?_;have hd:rest.drop i=(rest[i]'(by omega))::rest.drop (i+1):=gY (by omega);have V:cA h.size 1 C ⟨q.aD,q.cap,q.cap⟩ ((l.map (.int .i64)++(Lk l.length i).map (.int .i64))++[rest[i]'(by omega)]++rest.drop (i+1)):=by
    rw[hd]at c;simpa using c
   have E:aZ (bP ((l.length+i:Nat):Int)) 1=(l.map (Value.int .i64)++(Lk l.length i).map (Value.int .i64)).length:=by
    rw[bQ,cE,cE,I9,hO,eP,cR];omega
   rw[E];refine qF (s:=⟨q.aD,q.cap,q.cap⟩) (mid:=[rest[i]'(by omega)]) [aH (bK .i64 (-71) ((l.length+i:Nat):Int))] V rfl rfl (by simp) (by intro x b;rw[dE.1 b];rfl) λh4 H J z4=>?_;rw[aW (by omega) (by omega)];refine aC ⟨λ_=>⟨(((l.length+i:Nat):Int)+1,()),rfl,⟨jU.jQ d J λx b=>(c.lt b).1,i+1,by push_cast;omega,by omega,?_⟩,by dsimp only;omega⟩,λg=>absurd rfl g⟩;rw[ZV,dP];simpa using H
  .rw[aY]at f
   have:i=n:=by omega
   subst this;rw[uM (by omega),kQ]at c;exact aC ⟨λg=>absurd g (by decide),λ_=>⟨d,rfl,rfl,c⟩⟩
 .rintro t vs C ⟨d,rfl,rfl,c⟩
  refine bG (bO (aC ⟨rfl,d,(⟨q.aD,q.cap,q.cap⟩,()),rfl,n,by omega,rfl,by exact hn,?_⟩));refine⟨by rw[dP];exact c,λx b=>?_⟩;rcases dH.1 b with b|b
  .exact G.wf x b
  .exact ZU x b
end
section
variable{P:Program}{S:cH}{h:aG}{Q:Nat->bH->aG->Prop}{k:Nat}{rho:Nat->Nat}{D:Doc}
variable{i:Nat}{v:Value}
theorem MP{c b:Sl}{l:bB}{n:Nat}(oc:kW .i64 h c (l++Lk l.length n))(hb:kW .i64 h b l)(J:40<=n):aS P (pS S c b) [tB] h λ(y:Bool×Unit) _=>y.1=true:=by
 unfold pS aS;have g:=oc.len;rw[bQ,I9]at g;have H:=oc.cap;have w:=oc.max;have A:=hb.len;have C:aQ b.len=(l.length:Int):=by rw[aN,A]
 have E:aQ c.len=((l.length+n:Nat):Int):=by rw[aN,g]
 rw[C,E];refine bL (λ(x:Int×Unit) h'=>h'=h/\∃i:Nat,x.1=((l.length+i:Nat):Int)/\i<=n) (λx _=>(((l.length+n:Nat):Int)-x.1).toNat)
  (λt vs h'=>h'=h/\t=2/\vs=[]) ⟨rfl,0,rfl,cO _⟩ ?_ ?_
 .rintro⟨(K:Int),u⟩ z ⟨rfl,i,hi,hle⟩
  dsimp only at hi⊢;subst hi;refine aE (λf=>?_) λf=>aC ⟨λr=>absurd r (by decide),λ_=>⟨rfl,rfl,rfl⟩⟩;rw[aU]at f;have B:i<n:=by omega
  refine qZ oc (by omega) (by rw[bQ,I9];omega) λ_=>?_;have I:(l++Lk l.length n).getD ((l.length+i:Nat):Int).toNat 0=bK .i64 (-71) ((l.length+i:Nat):Int):=by
   rw[cR,gJ,jZ (by omega),show l.length+i-l.length=i by omega,Wo B];rfl
  rw[I];refine aE (λj=>by rw[kG]at j;exact absurd rfl j) λ_=>?_;rw[aW (by omega) (by omega)];exact aC ⟨λ_=>⟨(((l.length+i:Nat):Int)+1,()),rfl,⟨rfl,i+1,by push_cast;omega,by omega⟩,by dsimp only;omega⟩,λr=>absurd rfl r⟩
 .rintro t vs z ⟨rfl,rfl,rfl⟩
  refine bG (bO ?_);rw[aW (by omega) (by omega)];refine fL (tys:=[tB]) (λ(y:Bool×Unit) _=>y.1=true) ?_ λ⟨(y:Bool),_⟩ G o d=>?_
  .refine aE (λ_=>aL (iP (by omega) (by omega)) ?_) λf=>by rw[eS]at f;omega
   have ht:kW .i64 z ⟨bE c.aD c.cap 0 1,cS (bP (l.length:Int)) 0,cS c.cap 0⟩ l:=by
    have:=oc.take (n:=l.length) (m:=c.cap) (by rw[bQ];omega) (by omega) w;rw[As (bM _),fH]at this;rw[eX,eP,cR];exact this
   refine aM (E2 ht hb) λ⟨(y:Bool),_⟩ G o d=>aC ⟨rfl,o,(y,()),rfl,?_⟩;have d:y=decide (l=l):=d;rw[d];exact decide_eq_true rfl
  .have d:y=true:=d
   subst d;exact aC ⟨rfl,o,(true,()),rfl,rfl⟩
theorem eZ.yi(r:eZ k rho h D){K:aK}(f:(Bf D)[i]?=some v)(d:wp P K h Q):wp P (.check (aB (some D.b) i) [v] K) h Q:=by
 refine⟨⟨_,rfl,aI.2 λj w c=>?_⟩,d⟩;cases j with
 |zero=>cases c;rw[add_zero'];exact aI.1 r.ob.1.cells i _ f
 |succ j=>simp at c
theorem eZ.xp(r:eZ k rho h D){K:aK}(d:(wm D)[i]?=some v)(c:wp P K h Q):wp P (.check (aB (some (Cq D.t)) i) [v] K) h Q:=by
 refine⟨⟨_,rfl,aI.2 λj w b=>?_⟩,c⟩;cases j with
 |zero=>cases b;rw[add_zero'];exact aI.1 r.ot.1.cells i _ d
 |succ j=>simp at b
theorem V1(I:kJ P S)(V:Cl0 P S)(W:Yu P S){T:TX}{n:Nat}(t:eQ S n h T)(r:eZ k rho h D)(z:iG T.enc T.cur.ps=D.E)(hl:D.E.length<=65536) :
  aS P (vN S (some T.p) (some D.b)) [tB] h λ(y:Bool×Unit) _=>y.1=true:=by
 unfold vN aS;refine aE (λd=>by cases d) λ_=>?_;refine r.rd (b:=.ptr) (some (Cq D.t)) rfl (r.yh (b:=.sl) D.sa rfl ?_);have U:aQ D.sa.len=(D.E.length:Int):=by rw[aN,r.ea.1.len,cE]
 rw[U];refine fL (tys:=[tB]) (λ(y:Bool×Unit) _=>y.1=true) ?_ λ⟨(y:Bool),_⟩ R f B=>?_
 .refine aM (VV t) λ⟨(L:Int),_⟩ c u A=>?_
  have A:L=D.E.length:=by
   have c:L=_:=A;rw[c,<-z]
  subst A;refine aE (λ_=>?_) λd=>by rw[dS]at d;exact absurd rfl d
  have C:=r.ext u;have t1:=t.ext u;refine C.rd (b:=.ptr) (some (Cq D.t)) rfl (C.yh (b:=.sl) D.sa rfl ?_);refine aM (fw I V (from_:=Int.ofNat 0) (to:=(D.E.length:Int)) t1 (eV.2 (by omega))) λ⟨(sa:Sl),_⟩ R f m=>?_;have m:bV c.size .i64 R sa ((OP (iG T.enc T.cur.ps) 0 D.E.length).map (·.1)):=m;rw[z,SS]at m;have o:=C.ext f;have t2:=t1.ext f;refine o.xp rfl (o.yi rfl ?_);refine aM (E2 m.lO o.ea.1.lO) λ⟨(J:Bool),_⟩ Z w g=>?_;have g:J=true:=by have c:J=decide _:=g;rw[c];exact decide_eq_true rfl
  subst g;refine aE (λ_=>?_) λd=>by cases d
  have G:=o.ext w;have t3:=t2.ext w;refine G.rd (b:=.ptr) (some (Cq D.t)) rfl (G.yh (b:=.sl) D.st rfl ?_);refine aM (gd I W (from_:=Int.ofNat 0) (to:=(D.E.length:Int)) t3 (eV.2 (by omega))) λ⟨(st:Sl),_⟩ h4 O ot=>?_;have ot:bV Z.size .i64 h4 st ((OP (iG T.enc T.cur.ps) 0 D.E.length).map (·.2)):=ot;rw[z,SS]at ot;have H:=G.ext O;refine H.xp rfl (H.yi rfl ?_);refine aM (E2 ot.lO H.et.1.lO) λ⟨(K:Bool),_⟩ h5 Y j=>?_;have j:K=true:=by have c:K=decide _:=j;rw[c];exact decide_eq_true rfl
  subst j;exact aC ⟨rfl,(((u.trans f).trans w).trans O).trans Y,(true,()),rfl,rfl⟩
 .have B:y=true:=B
  subst B;exact aC ⟨rfl,f,(true,()),rfl,rfl⟩
end
section
variable{P:Program}{S:cH}{h:aG}{Q:Nat->bH->aG->Prop}{n k:Nat}{rho:Nat->Nat}{X:Bk}{D:Doc}
variable{h':aG}{rho':Nat->Nat}{i:Nat}
structure nV(k:Nat)(h:aG)(rho:Nat->Nat)(h':aG)(rho':Nat->Nat):Prop where
 c:aV (λi=>k<rho i/\rho i<=k+30) h h'
 old:∀i,i<h.size->(rho i<=k\/k+30<rho i)->rho' i=rho i
 new:∀i,i<h'.size->(h.size<=i\/(k<rho i/\rho i<=k+30))->rho' i=0\/(k<rho' i/\rho' i<=k+30)
theorem nV.trans{h h1 m:aG}{rho f g:Nat->Nat}(a:nV k h rho h1 f)(b:nV k h1 f m g):nV k h rho m g where
 c:=a.c.trans b.c λi hi t=>by
  by_cases j:rho i<=k\/k+30<rho i
  .rw[a.old i hi j]at t;omega
  .omega
 old i hi j:=by
  have h1:=a.old i hi j;have m:=a.c.1;rw[b.old i (by omega) (by rw[h1];exact j),h1]
 new i hi r:=by
  have u:=a.c.1;by_cases o:i<h1.size
  .have d:=a.new i o r
   rcases d with d|d
   .have:=b.old i o (.inl (by omega))
    rw[this,d];exact .inl rfl
   .exact b.new i hi (.inr d)
  .exact b.new i hi (.inl (by omega))
theorem cX.Uo{j:Nat}(s:cX j h rho h' rho')(g:k<=j/\j+10<=k+30):nV k h rho h' rho' where
 c:=s.c.mono λi hi o=>by omega
 old i hi m:=s.old i hi (by omega)
 new i hi b:=by
  by_cases d:j<rho i/\rho i<=j+10
  .have:=s.new i hi (.inr d);omega
  .by_cases f:i<h.size
   .have:=s.old i f (by omega)
    rw[this];rcases b with b|b
    .omega
    .exact .inr b
   .have:=s.new i hi (.inl (by omega));omega
structure gC(S:cH)(n k:Nat)(rho:Nat->Nat)(h:aG)(p:Addr)(X:Bk)(D:Doc)(sl sw:Sl)(vs:bH)(ls:bB):Prop where
 bk:cU S n h rho k X
 doc:eZ (k+11) rho h D
 ob:tL (k+23) 1 rho h ⟨some p,5,5⟩ [.pointer (some X.b), .pointer (some X.T.p), .pointer (some D.b),dN sl,dN sw]
 le:tL (k+24) 3 rho h sl vs
 lw:BW (k+25) rho h sw ls
variable{p:Addr}{sl sw:Sl}{vs:bH}{ls:bB}
theorem gC.book{f:Bk}(q:gC S n k rho h p X D sl sw vs ls)(st:cX k h rho h' rho')(b:cU S n h' rho' k f)(sm:Sm X f):gC S n k rho' h' p f D sl sw vs ls where
 bk:=b
 doc:=q.doc.aP st.c (λi hi g=>by omega) λi hi d=>st.old i hi (by omega)
 ob:=by rw[sm.b,sm.p];exact q.ob.aP st.c (λi hi g=>by omega) λi hi d=>by rw[st.old i hi (by omega)];exact d
 le:=q.le.aP st.c (λi hi g=>by omega) λi hi d=>by rw[st.old i hi (by omega)];exact d
 lw:=q.lw.aP st.c (λi hi g=>by omega) λi hi d=>by rw[st.old i hi (by omega)];exact d
theorem gC.qu{g:Doc}(q:gC S n k rho h p X D sl sw vs ls)(st:cX (k+11) h rho h' rho')(d:eZ (k+11) rho' h' g)(hb:g.b=D.b):gC S n k rho' h' p X g sl sw vs ls where
 bk:=q.bk.other st.c (λi hi j=>by omega) λi hi f=>st.old i hi (by omega)
 doc:=d
 ob:=by rw[hb];exact q.ob.aP st.c (λi hi j=>by omega) λi hi f=>by rw[st.old i hi (by omega)];exact f
 le:=q.le.aP st.c (λi hi j=>by omega) λi hi f=>by rw[st.old i hi (by omega)];exact f
 lw:=q.lw.aP st.c (λi hi j=>by omega) λi hi f=>by rw[st.old i hi (by omega)];exact f
theorem gC.ext(q:gC S n k rho h p X D sl sw vs ls)(e:Ext h h'):gC S n k (Hist.zr h rho) h' p X D sl sw vs ls:=
 q.book (cX.mV e) (q.bk.zr e) (Sm.refl X)
theorem gC.other{j:Nat}{h':aG}{rho':Nat->Nat}(q:gC S n k rho h p X D sl sw vs ls)(st:nV j h rho h' rho')(f:k+30<=j\/j+30<=k):gC S n k rho' h' p X D sl sw vs ls where
 bk:=q.bk.other st.c (λi hi d=>by omega) λi hi b=>st.old i hi (by omega)
 doc:=q.doc.aP st.c (λi hi d=>by omega) λi hi b=>st.old i hi (by omega)
 ob:=q.ob.aP st.c (λi hi d=>by omega) λi hi b=>by rw[st.old i hi (by omega)];exact b
 le:=q.le.aP st.c (λi hi d=>by omega) λi hi b=>by rw[st.old i hi (by omega)];exact b
 lw:=q.lw.aP st.c (λi hi d=>by omega) λi hi b=>by rw[st.old i hi (by omega)];exact b
structure Dx(X:Bk)(D:Doc)(M:Mo)(N:Nat):Prop where
 inv:Inv X M N
 dm:DocM D M
 enc:D.enc=X.T.enc
 A4:D.limit=X.T.limit
theorem Dx.ok{M:Mo}{N:Nat}(b:Dx X D M N):iF D.enc D.limit M N:=by rw[b.enc,b.A4];exact b.inv.ok
def iA(S:cH)(n k:Nat)(h:aG)(rho:Nat->Nat)(h':aG)(p:Addr)(X:Bk)(D:Doc)(M:Mo)(N:Nat):Prop:=
 ∃rho' X' D' sl' sw' vs' ls',nV k h rho h' rho'/\gC S n k rho' h' p X' D' sl' sw' vs' ls'/\Dx X' D' M N/\Sm X X'/\D'.b=D.b
theorem iA.of{h1 j:aG}{b:Nat->Nat}{c:Bk}{M:Mo}{N:Nat}(q:gC S n k rho h p X D sl sw vs ls)(he:D.enc=X.T.enc/\D.limit=X.T.limit)(st:cX k h rho h1 b)(t:cU S n h1 b k c)(i1:Inv c M N)(sm:Sm X c)(d:kA (k+11) h1 b j D M):iA S n k h rho j p X D M N:=by
 obtain⟨g,r,f,d2,u,hb,m,o⟩:=d;exact⟨g,c,r,sl,sw,vs,ls,(st.Uo ⟨bM _,by omega⟩).trans (f.Uo ⟨by omega,by omega⟩),(q.book st t sm).qu f d2 hb,⟨i1,u,by rw[m,sm.enc];exact he.1,by rw[o,sm.limit];exact he.2⟩,sm,hb⟩
theorem gC.rd(q:gC S n k rho h p X D sl sw vs ls){b:B}(x:b.den){K:b.den->aK}(d:([.pointer (some X.b), .pointer (some X.T.p), .pointer (some D.b),dN sl,dN sw]:bH)[i]?=some (b.inj x))(c:wp P (K x) h Q) :
  wp P (bF (aJ (some p))<|bF (aJ (some p))<|.load (.one b) (aB (some p) i) K) h Q:=
 aL rfl (aL rfl (bU (b:=b) x rfl q.ob.1.cells d c))
theorem gC.ck(q:gC S n k rho h p X D sl sw vs ls){v:Value}{K:aK}(f:([.pointer (some X.b), .pointer (some X.T.p), .pointer (some D.b),dN sl,dN sw]:bH)[i]?=some v)(d:wp P K h Q):wp P (.check (aB (some p) i) [v] K) h Q:=by
 refine⟨⟨_,rfl,aI.2 λj w c=>?_⟩,d⟩;cases j with
 |zero=>cases c;rw[add_zero'];exact aI.1 q.ob.1.cells i _ f
 |succ j=>simp at c
end
end Go.Sw.Hist
