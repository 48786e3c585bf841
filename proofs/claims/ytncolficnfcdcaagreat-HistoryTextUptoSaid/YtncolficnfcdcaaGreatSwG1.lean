
/- Steps. -/
import Derived.Test.YtncolficnfcdcaaGreatSwG0
import Derived.Test.YtncolficnfcdcaaGreatSwU6
set_option linter.unusedVariables false
set_option linter.unusedSimpArgs false
set_option maxRecDepth 100000
set_option maxHeartbeats 1000000
namespace Go.Sw.Piece
open Go.Sw.Any Go.Sw.Codec
open Go.Sw.Tree (iv fL jI jW nE pD kT sG kP dV lA)
section
variable{P:Program}{S:cG}{h:aE}{Q:Nat->bE->aE->Prop}
variable{q:Pc}{i:Nat}
def Fc(enc:Int)(q:Pc)(n:Nat):Pc:=(Fb enc q.1 q.2 n,q.2.take (dF ((bC enc q.2).take n)))
def Fy(enc:Int)(q:Pc)(n:Nat):Pc:=(GQ enc q.1 q.2 n,q.2.drop (dF ((bC enc q.2).take n)))
theorem WB{enc:Int}(hb:cA q.2){n:Nat}(b:n<=(bC enc q.2).length):yU enc (Fc enc q n)=(yU enc q).take n:=by
 unfold yU Fc;dsimp only;rw[Gb hb n b,OW];rfl
theorem WC{enc:Int}(hb:cA q.2){n:Nat}(b:n<=(bC enc q.2).length):yU enc (Fy enc q n)=(yU enc q).drop n:=by
 unfold yU Fy;dsimp only;rw[(pG hb n b).2,JD];show gT (JZ q.1.2.1 _) 0 _=_;rw[MC]
theorem IQ{ts:List (Int×Int)}(h:S1 ts)(b:0<ts.length):0<dF ts:=by
 cases ts with
 |nil=>simp at b
 |cons t ts=>have:=h t (cX ..);rw[mM];omega
theorem AG.aD{T:TX}{q:Pc}(r:AG h T q):∃a,q.1.1.aD=some a:=by
 obtain⟨a,e,_⟩:=r.kZ.rd.at (i:=0) r.ne;exact⟨a,e⟩
theorem AG.head{T:TX}(r:AG h T q){n:Nat}(h0:0<n)(d:n<=(bC T.enc q.2).length):AG h T (Fc T.enc q n):=by
 have hb:=r.bytes;have j:=oH (enc:=T.enc) hb;have x:=(pG (enc:=T.enc) hb n d).1.le hb;have z:=IQ (j.take n) (by rw[dJ];omega);have g:=Gb (enc:=T.enc) hb n d;have hlen:=r.kZ.len;have w:=r.kZ.cap;have y:=r.kZ.max;have A:=r.tag;have C:=r.len;unfold Fc Fb;generalize B:dF ((bC T.enc q.2).take n)=k at *;have c:(q.2.take k).length=k:=by rw[dJ];omega
 refine⟨r.kZ.take x (bL _) (by omega),by dsimp only;omega,?_,?_,by dsimp only;omega,λa ha=>?_⟩
 .dsimp only;rw[g];rfl
 .dsimp only;rw[c]
  show -1<=q.1.2.1/\q.1.2.1+(k:Int)<=65536;omega
 .obtain⟨o,p,t⟩:=r.Mk a ha
  refine⟨o,p,λb hb K4=>?_⟩;obtain⟨u,b5⟩:=t b hb K4;exact⟨u,by dsimp only;omega⟩
theorem AG.tail{T:TX}{q:Pc}(r:AG h T q){n:Nat}(I:n<(bC T.enc q.2).length):AG h T (Fy T.enc q n):=by
 have hb:=r.bytes;have t:=oH (enc:=T.enc) hb;have A:=(pG (enc:=T.enc) hb n (by omega)).1.le hb;have p:=(pG (enc:=T.enc) hb n (by omega)).2;have C:=Ga (enc:=T.enc) hb;have o:=iY ((bC T.enc q.2).take n) ((bC T.enc q.2).drop n);rw[eX]at o;have D:=IQ (t.drop n) (by rw[cZ];omega);have hlen:=r.kZ.len;have z:=r.kZ.cap;have B:=r.kZ.max;have E:=r.tag;have H:=r.len;unfold Fy GQ;generalize G:dF ((bC T.enc q.2).take n)=k at *;have j:(q.2.drop k).length=q.2.length-k:=cZ;obtain⟨d,c⟩:=r.aD;have g:bF q.1.1.aD q.1.1.cap k 1=some (d.add k):=by unfold bF;rw[if_neg (by omega),c];simp
 refine⟨r.kZ.tail (i:=k) A,by dsimp only;omega,?_,?_,by dsimp only;omega,λa ha=>?_⟩
 .dsimp only;rw[p];rfl
 .dsimp only;rw[j]
  show -1<=JZ q.1.2.1 k/\JZ q.1.2.1 k+((q.2.length-k:Nat):Int)<=65536;unfold JZ;split<;>omega
 .have ha:bF q.1.1.aD q.1.1.cap k 1=some a:=ha
  rw[g]at ha;cases ha;obtain⟨u,w,x⟩:=r.Mk d c;rw[iA];refine⟨u,w,λb hb K4=>?_⟩;obtain⟨y,b5⟩:=x b hb K4;refine⟨Mg y _,?_⟩;rw[U6];show d.off+k+(q.2.drop k).length<=_;omega
theorem pB(enc:Int)(a b:List Pc):gS enc (a++b)=gS enc a++gS enc b:=by simp[gS]
theorem Is(enc:Int)(q:Pc):gS enc [q]=yU enc q:=by simp[gS]
theorem OX{enc:Int}{ps:List Pc}(c:ps[i]?=some q):gS enc ps=gS enc (ps.take i)++yU enc q++gS enc (ps.drop (i+1)):=by
 have b:=(eK.1 c).1;have he:=(eK.1 c).2;have d:ps=ps.take i++[q]++ps.drop (i+1):=by
  rw[<-he,eC];show ps=ps.take i++(ps[i]::ps.drop (i+1));rw[<-gK b,eX]
 conv=>lhs;rw[d]
 rw[pB,pB,Is]
theorem E6(enc:Int)(q:Pc):(yU enc q).length=(bC enc q.2).length:=E5 ..
theorem Se{enc:Int}{ps:List Pc}{at_:Int}{n:Nat}(f:RH enc ps at_ i n)(h0:0<=at_):(gS enc ps).take at_.toNat=gS enc (ps.take i)++(match ps[i]? with|some q=>(yU enc q).take n|none=>[]) /\
  (gS enc ps).drop at_.toNat=(match ps[i]? with|some q=>(yU enc q).drop n|none=>[])++gS enc (ps.drop (i+1))/\(∀q,ps[i]?=some q->n<=(bC enc q.2).length):=by
 obtain⟨f1,f2,f3,f4⟩:=f;have d:at_.toNat=(gS enc (ps.take i)).length+n:=by rw[yE];omega
 cases c:ps[i]? with
 |none=>
  by_cases h:0<at_
  .obtain⟨q,b,_⟩:=f4 h;rw[c]at b;cases b
  .obtain⟨rfl,rfl⟩:=f3 (by omega)
   have:ps=[]:=by
    cases ps with
    |nil=>rfl
    |cons q ps=>simp at c
   subst this;exact⟨by simp[gS],by simp[gS],λq c=>(by cases c)⟩
 |some q=>
  have g:n<=(yU enc q).length:=by
   rw[E6];by_cases h:0<at_
   .obtain⟨p,b,_,o⟩:=f4 h;rw[c]at b;cases b;exact o
   .obtain⟨_,rfl⟩:=f3 (by omega);exact cS _
  have j:=OX (enc:=enc) c;refine⟨?_,?_,λp b=>by cases b;rw[<-E6];exact g⟩
  .rw[j,d,eC,Jp,iF (by omega),Bj,zZ g]
  .rw[j,d,eC,Rq,tY (by omega),Bj,Rr g,Kc]
theorem WI{enc:Int}{ps:List Pc}{a b:Int}{n j m:Nat}(f:RH enc ps a i n)(g:RH enc ps b j m)(h0:0<=a)(K4:a<=b):i<=j:=by
 obtain⟨f1,f2,f3,f4⟩:=f;obtain⟨t,u,w,d⟩:=g;by_cases ha:0<a
 .obtain⟨q,x,z,A⟩:=f4 ha
  obtain⟨r,hr,m0,y⟩:=d (by omega);by_cases c:i<=j
  .exact c
  .have o:=Hw (enc:=enc) hr
   have p:(cK enc (ps.take (j+1))).length<=(cK enc (ps.take i)).length:=by
    have:ps.take (j+1)=(ps.take i).take (j+1):=by rw[Jr,FK (by omega)]
    rw[this];exact GR _ _
   rw[o,bM]at p;omega
 .have:=(f3 (by omega)).1;omega
theorem MB(tag:Int):∀(ts:List (Int×Int)) (o:Nat),(gT tag o ts).map (·.1)=ts.map (·.1)
 |[],_=>rfl
 |t::ts,o=>by simp only[gT,fK,MB tag ts]
theorem F9{enc:Int}(he:eE enc):∀{ps:List Pc},(∀q,q∈ps->cA q.2)->cK enc ps=((gS enc ps).map (·.1)).map (tk enc)/\dK ps=((gS enc ps).map (·.1)).flatMap (cW enc)/\∀a,a∈(gS enc ps).map (·.1)->0<bU enc a
 |[],_=>⟨rfl,rfl,λa ha=>(by cases ha)⟩
 |q::ps,hb=>by
  have b:=VX he (hb q (cX ..));obtain⟨i1,i2,i3⟩:=F9 he (ps:=ps) λx g=>hb x (dZ _ g);have e:gS enc (q::ps)=yU enc q++gS enc ps:=by simp[gS]
  have c:(yU enc q).map (·.1)=(bC enc q.2).map (·.1):=by unfold yU;rw[MB]
  have d:bC enc q.2=((bC enc q.2).map (·.1)).map (tk enc):=by
   rw[sL]
   conv=>lhs;rw[<-List.map_id (bC enc q.2)]
   refine Js λt ht=>?_;show t=(t.1,bU enc t.1);rw[<-(b.1 t ht).2]
  rw[e,dL,dL,hQ,c];refine⟨?_,?_,λa ha=>?_⟩
  .rw[<-d,<-i1];simp[cK]
  .rw[<-i2,List.flatMap_map,b.2];simp[dK]
  .rcases dD.1 ha with ha|ha
   .obtain⟨t,ht,rfl⟩:=dC.1 ha
    exact(b.1 t ht).1
   .exact i3 a ha
theorem Yo{enc:Int}(h:q.1.2.1 = -1):yU enc q=(bC enc q.2).map λt=>(t.1, -1):=by
 unfold yU;rw[h];have:∀(b:List (Int×Int)) (o:Nat),gT (-1) o b=b.map λt=>(t.1, -1):=by
  intro b
  induction b with
  |nil=>intro o;rfl
  |cons t b c=>intro o;simp only[gT,fK,c];rw[if_pos (by decide)]
 exact this _ _
theorem Vn{enc:Int}:∀{qs:List Pc},(∀q,q∈qs->q.1.2.1 = -1)->gS enc qs=(cK enc qs).map λt=>(t.1, -1)
 |[],_=>rfl
 |q::qs,h=>by
  have:=Vn (enc:=enc) (qs:=qs) λx b=>h x (dZ _ b);unfold gS cK at this⊢;rw[fY,fY,dL,this,Yo (h q (cX ..))]
structure L8(T T':TX)(m:Nat):Prop where
 p:T'.p=T.p
 enc:T'.enc=T.enc
 limit:T'.limit=T.limit
 kept:T'.kept=T.kept
 zm:∀i,T.Z i->T'.Z i
 zn:∀i,T'.Z i->T.Z i\/m<=i
 adc:∀b,T'.ad.aD=some b->T.ad.aD=some b\/m<=b.block
theorem L8.refl(T:TX)(m:Nat):L8 T T m:=⟨rfl,rfl,rfl,rfl,λ_ h=>h,λ_ h=>.inl h,λ_ h=>.inl h⟩
theorem L8.trans{T T' c:TX}{m d:Nat}(a:L8 T T' m)(b:L8 T' c d)(hm:m<=d):L8 T c m:=
 ⟨b.p.trans a.p,b.enc.trans a.enc,b.limit.trans a.limit,b.kept.trans a.kept,λi hi=>b.zm i (a.zm i hi),λi hi=>(b.zn i hi).elim (a.zn i) λh=>.inr (dI hm h),
  λx g=>(b.adc x g).elim (a.adc x) λh=>.inr (dI hm h)⟩
theorem L8.vf{T T':TX}{m:Nat}(a:L8 T T' m)(hi:rF T' i):rF T i\/m<=i:=by
 rcases hi with rfl|⟨b,hb,rfl⟩
 .rw[a.p];exact .inl (.inl rfl)
 .exact(a.adc b hb).imp (λh=>.inr ⟨b,h,rfl⟩) id
end
section
variable{P:Program}{S:cG}{h:aE}{Q:Nat->bE->aE->Prop}
theorem eU{m:aK}{tys:List Ty}{K:Ts.den tys->aK}{R:Nat->bE->aE->Prop}(g:wp P m h R)(b:∀t vs h',R t vs h'->t=0/\∃x,vs=Ts.inj tys x/\wp P (K x) h' Q):wp P (.call m tys K) h Q:=cU m b g
theorem Vz{n:Nat}{Z:Nat->Prop}{s:Sl}{l:List Part}(o:yS n h s l)(hw:∀x,x∈l->VS (VZ x) (I5 x)):OK (part S Z) h s l:=⟨o.rd,o.2.1,o.2.2.1,hw⟩
theorem QK{T:TX}:∀{ps:List Pc},(∀q,q∈ps->AG h T q)->ps.length<=(dK ps).length
 |[],_=>bL _
 |q::ps,b=>by
  have c:=QK (ps:=ps) λx d=>b x (dZ _ d);have g:=(b q (cX ..)).ne;unfold dK at c⊢;rw[fY,bM,fF];omega
theorem sV(a b:List Pc):dK (a++b)=dK a++dK b:=by simp[dK]
theorem ON{ps qs:List Pc}(b:qs.Sublist ps):(dK qs).length<=(dK ps).length:=by
 induction b with
 |slnil=>exact bL _
 |cons q b c=>unfold dK at c⊢;rw[fY,bM];omega
 |cons_cons q b c=>unfold dK at c⊢;rw[fY,fY,bM,bM];omega
theorem Pm{n:Nat}{T:TX}{d:aE}{m:Nat}{root:OA}{o:Bt Part}{ps':List Pc}(t:eM S n h T)(hm:∀i,T.Z i->i<m)(G:n<=m/\m<=h.size)
  (nd:Nd (part S λi=>T.Z i\/m<=i) h root o) (ls:o.list=ps'.map (·.1)) (Cf:∀q,q∈ps'->AG h T q) (small:(dK ps').length<=1099511627776)
  (o2:cC n 1 d ⟨some T.p,4,4⟩ [aH T.enc,aH T.limit, .pointer root,dG T.ad]) (r:jE ⟨some T.p,4,4⟩ h d) :
  eM S n d {T with cur:=⟨root,o,ps'⟩,Z:=λi=>(T.Z i\/m<=i)/\i<d.size}:=by
 have I:T.p.block<h.size:=(t.lo _ t.zp).2;have z:(⟨T.p.block,0,none⟩:Addr)=T.p:=by
  obtain⟨_,_,_,E⟩:=t.ob;obtain⟨e0,C,_⟩:=E;show(⟨T.p.block,0,none⟩:Addr)=⟨T.p.block,T.p.off,T.p.spot⟩;rw[e0,C]
 have A:∀b,(⟨some T.p,4,4⟩:Sl).aD=some b->∃k x,Sw.cell h ⟨b.block,0,none⟩=some (.int k x):=λb hb=>by
  cases hb;have c:=t.c0;rw[add_zero']at c;rw[z];exact⟨_,_,c⟩
 have H:=r.1;have B:∀{q},AG h T q->AG d {T with cur:=⟨root,o,ps'⟩,Z:=λi=>(T.Z i\/m<=i)/\i<d.size} q:=λ{q} g=>
  ⟨g.kZ.blocks λa ha D=>r.2.1 _ D λb hb=>by cases hb;exact λe=>(g.Mk a ha).2.1 e.symm,g.ne,g.is,g.tag,g.len,λa ha=>⟨⟨.inl (g.Mk a ha).1,by have:=(t.lo _ (g.Mk a ha).1).2;omega⟩,(g.Mk a ha).2⟩⟩
 have st:∀{s},K1 S h T s->K1 S d {T with cur:=⟨root,o,ps'⟩,Z:=λi=>(T.Z i\/m<=i)/\i<d.size} s:=λ{s} j=>⟨xL (j.nd.US r A) λi hi y=>⟨.inl y,hi⟩,j.ls,λq w=>B (j.Cf q w),j.small⟩;refine⟨t.enc,t.Bp,o2,t.ad.GS r λa b ha hb=>by cases hb;exact λe=>t.Z0 a ha e.symm,t.Z0,t.ph,⟨xL (nd.US r A) λi hi y=>⟨y,hi⟩,ls,λq w=>B (Cf q w),small⟩,λs j=>st (t.kept s j),⟨.inl t.zp,show T.p.block<d.size by omega⟩,λb hb=>⟨.inl (t.za b hb),by have:=(t.lo _ (t.za b hb)).2;omega⟩,λi hi=>?_⟩;obtain⟨hi|hi,u⟩:=hi
 .exact⟨(t.lo i hi).1,u⟩
 .exact⟨by omega,u⟩
def mH(enc:Int)(ps:List Pc)(i n:Nat):List Pc:=match ps[i]? with|some q=>if 0<n then [Fc enc q n] else []|none=>[]
def lD(enc:Int)(ps:List Pc)(j m:Nat):List Pc:=match ps[j]? with|some q=>if m<(bC enc q.2).length then [Fy enc q m] else []|none=>[]
theorem Wv(M:jM P S){n:Nat}{T:TX}{from_ to:Int}{put:Sl}{l:aW}(t:eM S n h T)(hn:n<=h.size)(hp:kB .i64 h put l)(N:∀a,a∈l->0<bU T.enc a)(hA:T.A.length+4*l.length<=1099511627776)
  (hz:l≠[]->∀a,put.aD=some a->¬T.Z a.block) (h0:0<=from_) (h1:from_<=to) (h2:to<=(gS T.enc T.cur.ps).length) (fy:(dK T.cur.ps).length+4*l.length<=500000000000) :
  wp P (uS S (some T.p) from_ to put) h λtg vs h'=>tg=0/\vs=[]/\aY (rF T) h h'/\∃T',eM S n h' T'/\L8 T T' h.size/\T'.A=T.A++l.flatMap (cW T.enc) /\
   gS T.enc T'.cur.ps=(gS T.enc T.cur.ps).take from_.toNat++l.map (λa=>(a, -1))++(gS T.enc T.cur.ps).drop to.toNat:=by
 unfold uS;have g5:(cK T.enc T.cur.ps).length=(gS T.enc T.cur.ps).length:=(yE ..).symm;have gg:=QK t.cur.Cf;have gm:=Hl N;refine aM (PJ t h0 (by omega)) λ⟨(i':Int),(n':Int),_⟩ ha ea ⟨i,ni,hi,bt,fi⟩=>aM (PJ (t.ext ea) (by omega) (by omega)) λ⟨(j':Int),(m':Int),_⟩ hb eb ⟨j,o,hj,bo,fj⟩=>?_;have hi:i'=i:=hi;have bt:n'=ni:=bt;have hj:j'=j:=hj;have bo:m'=o:=bo;subst hi;subst bt;subst hj;subst bo;dsimp only;have g0:=WI fi fj h0 h1;obtain⟨eT,_,V⟩:=Se fi h0;obtain⟨_,eD,bp⟩:=Se fj (by omega:0<=to);have aw:=ea.trans eb;have G:=t.ext aw;have O:∀Z,(part S Z).Ok P:=λZ=>B1 S Z;have g1:=fi.1;have g2:=fj.1;have a9:=t.cur.bytes;have fv:∀q,q∈mH T.enc T.cur.ps i ni->AG h T q:=λq c=>by
  unfold mH at c;cases w:T.cur.ps[i]? with
  |none=>rw[w]at c;cases c
  |some x=>
   rw[w]at c;dsimp only at c;split at c
   .rw[dE.1 c];exact(t.cur.Cf x (eL w)).head (by omega) (V x w)
   .cases c
 refine eN (λtg vs h'=>tg=0/\Ext hb h'/\∃s,vs=[dG s]/\yS hb.size h' s ((mH T.enc T.cur.ps i ni).map (·.1))) ?_ ?_
 .cases c:T.cur.ps[i]? with
  |none=>
   have al:mH T.enc T.cur.ps i ni=[]:=by unfold mH;rw[c]
   refine tX G (aM (R:=λ(y:Part×Bool×Unit) _=>y.1=zP/\y.2.1=false) (TO (O T.Z) G.cur.nd (rH (G.cur.room G.Bp.2)) (by omega) (.inr ?_)) λ⟨(y:Part),(ok:Bool),_⟩ h5 K ⟨Y,u⟩=>?_)
   .have h1:T.cur.t.list.length<=i:=by rw[t.cur.ls,cD];exact V7.1 c
    show((List.length T.cur.t.list:Nat):Int)<=_;omega
   .have u:ok=false:=u
    subst u;dsimp only;refine fV (bs:=PB) zP (by decide) λh6 e6 o6=>mJ (bs:=PB) y o6 (wN _) λL o7 u7=>?_;have z:Ext hb L:=jE.jA (K.trans e6) u7 (by intro x d;cases d;exact K.size);refine bW False (lI (aC ⟨rfl,Ext.refl _,false,rfl,Iff.intro (λh=>by cases h) False.elim⟩)) λbb h8 e8 a0=>aG (λd=>(a0.1 d).elim) λ_=>aC ⟨rfl,z.trans e8,⟨none,0,0⟩,rfl,?_⟩;rw[al];exact cC.nil _ _ _
  |some q=>
   have d:T.cur.t.list[((i:Int)).toNat]?=some q.1:=by rw[cN,t.cur.ls,fX,c];rfl
   refine tX G (aM (R:=λ(y:Part×Bool×Unit) _=>y.1=q.1/\y.2.1=true) (jg (O T.Z) G.cur.nd G.cur.wf (rH (G.cur.room G.Bp.2)) (by omega) d) λ⟨(y:Part),(ok:Bool),_⟩ h5 K ⟨Y,u⟩=>?_);have u:ok=true:=u;have Y:y=q.1:=Y;subst u;subst Y;dsimp only;refine fV (bs:=PB) zP (by decide) λh6 e6 o6=>mJ (bs:=PB) q.1 o6 (wN _) λL o7 u7=>?_;have z:Ext hb L:=jE.jA (K.trans e6) u7 (by intro x d;cases d;exact K.size);have t7:=G.ext z;have a3:=eL c;refine bW (0<ni) (mI (aC ⟨rfl,Ext.refl _,_,rfl,by rw[dQ];omega⟩)) λbb h8 e8 a0=>aG (λd=>?_) λd=>?_
   .have ct:=a0.1 d
    have al:mH T.enc T.cur.ps i ni=[Fc T.enc q ni]:=by unfold mH;rw[c];dsimp only;rw[if_pos ct]
    have t8:=t7.ext e8;have pc:=t8.cur.Cf q a3;refine eN (λtg vs h'=>tg=0/\Ext h8 h'/\∃A:Addr,vs=[.pointer (some A)]/\Eo h8.size h' A (Fb T.enc q.1 q.2 ni)) ?_ ?_
    .refine TZ M (fin:=λA B=>.ret 0 [.pointer (some A)]) t8 (x:=q.1) (bs:=q.2) pc (o7.ext e8) (by omega) (by have:=V q c;omega) λh9 A B e9 oA oB=>aC ⟨rfl,e9,A,rfl,?_⟩
     rw[cN]at oA;exact oA
    .rintro tg vs h9 ⟨rfl,e9,A,rfl,oA⟩
     refine bK (B6 (tys:=[tP]) (some A,()) rfl ?_);dsimp only;refine gJ (bs:=PB) oA ?_;have C:=(z.trans e8).trans e9;refine LG (n:=hb.size) (old:=[]) (new:=Bs.inj PB (Fb T.enc q.1 q.2 ni)) (cC.nil _ _ _) C.size rfl (wN _) rfl (by decide) (by decide) λr a6 a5 c5 b8 d10=>aC ⟨rfl,?_,r,rfl,?_⟩
     .exact jE.jA C b8 (by intro x d;cases d)
     .rw[al]
      show cC hb.size 7 a6 r (cP [Fb T.enc q.1 q.2 ni]);rw[PG];simpa using a5
   .have al:mH T.enc T.cur.ps i ni=[]:=by unfold mH;rw[c];dsimp only;rw[if_neg λk=>by rw[a0.2 k]at d;cases d]
    refine aC ⟨rfl,z.trans e8,⟨none,0,0⟩,rfl,?_⟩;rw[al];exact cC.nil _ _ _
 rintro tg vs hc ⟨rfl,ec,s,rfl,os⟩;refine bK (B6 (tys:=[tS]) (s,()) rfl ?_);dsimp only;have D:=aw.trans ec;have tc:=t.ext D;have ey:n<=hc.size:=dI hn D.size;refine eU (bm M tc ey (hp.ext D) N hA hz) λtg vs h' d=>?_;obtain⟨rfl,cd,g,rfl,F⟩:=d;refine⟨rfl,(g.ps,()),rfl,?_⟩;dsimp only;have td:=F.t;have cT:aY (rF T) h h':=aY.pre D cd;have e2:∀{x:Addr},hb.size<=x.block->¬rF T x.block:=λ{x} d hw=>by have:=(G.lo _ (Jb G hw)).2;omega
 have ft:yS hb.size h' s ((mH T.enc T.cur.ps i ni).map (·.1)):=cd.own os λx d hw=>e2 (os.lt d).1 hw;have gf:(mH T.enc T.cur.ps i ni).length<=1:=by unfold mH;split;split<;>simp;simp
 have e3:=yS.len os;rw[cD]at e3;have de:=yS.len F.op;rw[cD]at de;have g4:g.qs.length<=4*l.length:=by
  have h1:=QK λq c=>(F.Cf q c).1;rw[F.put]at h1;omega
 refine Gf ft (dI ec.size cd.1) F.op.rd (Vb _) rfl (by show(s.len+g.ps.len)*64<=_;omega) (by omega) λr1 he a1 b1 u1 d1=>?_;rw[<-FU,<-dL]at a1;have ce:aY (λi=>∃b,s.aD=some b/\b.block=i) h' he:=aY.dP u1 λx d _=>⟨x,d,rfl⟩;have b6:∀b,s.aD=some b->¬g.Z b.block:=λb hb hz=>by
  have h1:=(os.lt hb);rcases F.zn _ hz with d|d
  .have:=(G.lo _ d).2;omega
  .omega
 have H:eM S n he (T.at_ g):=td.oQ ce λi hi ⟨b,hb,e⟩=>b6 b hb (e ▸ hi);have cx:∀q,q∈g.qs->AG he (T.at_ g) q:=λq c=>(F.Cf q c).1.oQ ce λi hi ⟨b,hb,e⟩=>b6 b hb (e ▸ hi);have E:∀b,r1.aD=some b->¬g.Z b.block/\hb.size<=b.block:=λb hb=>by
  refine⟨λhz=>?_,(a1.lt hb).1⟩;rcases d1 b hb with d|d
  .exact b6 b d hz
  .have:=(td.lo _ hz).2;omega
 refine eN (λtg vs h'=>tg=0/\aY (λi=>∃b,r1.aD=some b/\b.block=i) he h'/\∃r2,vs=[dG r2]/\yS hb.size h' r2 ((mH T.enc T.cur.ps i ni++g.qs++lD T.enc T.cur.ps j o).map (·.1))/\∀b,r2.aD=some b->¬g.Z b.block) ?_ ?_
 .cases c:T.cur.ps[j]? with
  |none=>
   have ao:lD T.enc T.cur.ps j o=[]:=by unfold lD;rw[c]
   refine tX (T:=T.at_ g) H (aM (R:=λ(y:Part×Bool×Unit) _=>y.1=zP/\y.2.1=false) (TO (O g.Z) H.cur.nd (rH (H.cur.room H.Bp.2)) (by omega) (.inr ?_)) λ⟨(y:Part),(ok:Bool),_⟩ h5 K ⟨Y,u⟩=>?_)
   .have h1:T.cur.t.list.length<=j:=by rw[t.cur.ls,cD];exact V7.1 c
    show((List.length T.cur.t.list:Nat):Int)<=_;omega
   .have u:ok=false:=u
    subst u;dsimp only;refine fV (bs:=PB) zP (by decide) λh6 e6 o6=>mJ (bs:=PB) y o6 (wN _) λL o7 u7=>?_;have z:Ext he L:=jE.jA (K.trans e6) u7 (by intro x d;cases d;exact K.size);refine lI (aC ⟨rfl,aY.bH z,r1,rfl,?_,λb hb=>(E b hb).1⟩);rw[ao,jX];exact a1.ext z
  |some q=>
   have d:T.cur.t.list[((j:Int)).toNat]?=some q.1:=by rw[cN,t.cur.ls,fX,c];rfl
   refine tX (T:=T.at_ g) H (aM (R:=λ(y:Part×Bool×Unit) _=>y.1=q.1/\y.2.1=true) (jg (O g.Z) H.cur.nd H.cur.wf (rH (H.cur.room H.Bp.2)) (by omega) d) λ⟨(y:Part),(ok:Bool),_⟩ h5 K ⟨Y,u⟩=>?_);have u:ok=true:=u;have Y:y=q.1:=Y;subst u;subst Y;dsimp only;refine fV (bs:=PB) zP (by decide) λh6 e6 o6=>mJ (bs:=PB) q.1 o6 (wN _) λL o7 u7=>mI ?_;have z:Ext he L:=jE.jA (K.trans e6) u7 (by intro x d;cases d;exact K.size);have t7:=H.ext z;have a3:=eL c;have pc:=t7.cur.Cf q a3;have g3:=bp q c;refine eN (λtg vs h'=>tg=0/\Ext L h'/\∃B:Addr,vs=[.pointer (some B)]/\Eo L.size h' B (GQ T.enc q.1 q.2 o)) ?_ ?_
   .refine TZ M (T:=T.at_ g) (fin:=λA B=>.ret 0 [.pointer (some B)]) t7 (x:=q.1) (bs:=q.2) pc o7 (by omega) (show((o:Nat):Int)<=((bC T.enc q.2).length:Nat) by omega) λh9 A B e9 oA oB=>aC ⟨rfl,e9,B,rfl,?_⟩
    rw[cN]at oB;exact oB
   .rintro tg vs h9 ⟨rfl,e9,B,rfl,oB⟩
    refine bK (B6 (tys:=[tP]) (some B,()) rfl ?_);dsimp only;have C:=z.trans e9;have fm:=oH (enc:=T.enc) (a9 q a3);have b9:Sw.cell h9 ((B.add 2).add 0)=some (aH ((bC T.enc q.2).drop o).length):=by
     rw[add_zero'];have:=aI.1 oB.cells 2 _ rfl;rw[this];show some (Value.int .i64 (qN ((bC T.enc q.2).drop o)).1)=_;rw[(DJ (fm.drop o)).1]
    refine aL rfl (aL rfl (aX (b:=bI) ((B.add 2).add 0) _ rfl b9 (aG (λd=>?_) λd=>?_)))
    .rw[dQ,cZ]at d
     have ao:lD T.enc T.cur.ps j o=[Fy T.enc q o]:=by unfold lD;rw[c];dsimp only;rw[if_pos (by omega)]
     refine gJ (bs:=PB) oB ?_;have b0:=yS.len a1;rw[cD,bM]at b0;refine LG (n:=hb.size) (new:=Bs.inj PB (GQ T.enc q.1 q.2 o)) (a1.ext C) (dI (dI ec.size cd.1) (dI ce.1 C.size)) rfl (wN _) rfl (by show(r1.len+1)*64<=_;omega) (by omega) λr2 a6 a5 c5 b8 d10=>aC ⟨rfl,?_,r2,rfl,?_,λb hb=>?_⟩
     .exact(aY.bH C).trans (aY.dP b8 λx d _=>⟨x,d,rfl⟩) λi _ x=>x
     .rw[ao,dL]
      show cC hb.size 7 a6 r2 (cP (_++[GQ T.enc q.1 q.2 o]));rw[FU,PG];exact a5
     .rcases d10 b hb with d|d
      .exact(E b d).1
      .intro hz;have:=(H.lo _ hz).2;have:=C.size;omega
    .rw[gC,cZ]at d
     have ao:lD T.enc T.cur.ps j o=[]:=by unfold lD;rw[c];dsimp only;rw[if_neg (by omega)]
     refine aC ⟨rfl,aY.bH C,r1,rfl,?_,λb hb=>(E b hb).1⟩;rw[ao,jX];exact a1.ext C
 rintro tg vs N ⟨rfl,cf,r2,rfl,a2,z2⟩;refine bK (B6 (tys:=[tS]) (r2,()) rfl ?_);dsimp only;have tf:eM S n N (T.at_ g):=H.oQ cf λi hi ⟨b,hb,e⟩=>(E b hb).1 (e ▸ hi);have c4:∀q,q∈g.qs->AG N (T.at_ g) q:=λq c=>(cx q c).oQ cf λi hi ⟨b,hb,e⟩=>(E b hb).1 (e ▸ hi);have b3:∀q,q∈lD T.enc T.cur.ps j o->AG N (T.at_ g) q:=λq c=>by
  unfold lD at c;cases w:T.cur.ps[j]? with
  |none=>rw[w]at c;cases c
  |some x=>
   rw[w]at c;dsimp only at c;split at c
   .rename_i bd
    rw[dE.1 c];exact AG.tail (T:=T.at_ g) (tf.cur.Cf x (eL w)) bd
   .cases c
 have ba:∀q,q∈mH T.enc T.cur.ps i ni->AG N (T.at_ g) q:=λq c=>by
  unfold mH at c;cases w:T.cur.ps[i]? with
  |none=>rw[w]at c;cases c
  |some x=>
   rw[w]at c;dsimp only at c;split at c
   .rename_i bd
    rw[dE.1 c];exact AG.head (T:=T.at_ g) (tf.cur.Cf x (eL w)) bd (V x w)
   .cases c
 have U:∀q,q∈mH T.enc T.cur.ps i ni++g.qs++lD T.enc T.cur.ps j o->AG N (T.at_ g) q:=λq c=>by
  rcases dD.1 c with c|c
  .rcases dD.1 c with c|c
   .exact ba q c
   .exact c4 q c
  .exact b3 q c
 have cg:T.cur.t.list.length=T.cur.ps.length:=by rw[t.cur.ls,cD]
 refine tX (T:=T.at_ g) tf (tX (T:=T.at_ g) tf (aM (R:=λ(x:Int×Unit) _=>x.1=((T.cur.t.list.length:Nat):Int)) (Any.GW (I:=part S g.Z) tf.cur.nd) λ⟨(sz:Int),_⟩ hg eg a4=>?_));have a4:sz=_:=a4;rw[cg]at a4;subst a4;dsimp only;have tg:=tf.ext eg;refine sC tg.c2 ?_;rw[bG (by omega) (by omega),lA];have hJ:min ((j:Int)+1) (T.cur.ps.length:Int)=((min (j+1) T.cur.ps.length:Nat):Int):=by omega
 rw[hJ]
 let J:Nat->Prop:=λi=>g.Z i\/hg.size<=i
 have c9:oC (part S J) hg:=λi hi=>.inr hi;have fl:Nd (part S J) hg T.cur.root T.cur.t:=xL tg.cur.nd λi _ hi=>.inl hi;have e4:∀x,x∈(mH T.enc T.cur.ps i ni++g.qs++lD T.enc T.cur.ps j o).map (·.1)->VS (VZ x) (I5 x):=λx d=>by
  obtain⟨q,c,rfl⟩:=dC.1 d;exact(U q c).wt.2
 have e7:OK (part S J) hg r2 ((mH T.enc T.cur.ps i ni++g.qs++lD T.enc T.cur.ps j o).map (·.1)):=Vz (a2.ext eg) e4;have c6:=ja U;have dx:(dK (mH T.enc T.cur.ps i ni++g.qs++lD T.enc T.cur.ps j o)).length<=131072+4*l.length:=by
  have h1:(dK (mH T.enc T.cur.ps i ni)).length<=65536:=by
   unfold mH;split
   .rename_i q c
    split
    .have:=(t.cur.Cf q (eL c)).len
     show(dK [Fc T.enc q ni]).length<=_;unfold dK Fc;simp only[fY,List.flatMap_nil,jX,dJ];omega
    .simp[dK]
   .simp[dK]
  have h2:(dK (lD T.enc T.cur.ps j o)).length<=65536:=by
   unfold lD;split
   .rename_i q c
    split
    .have:=(t.cur.Cf q (eL c)).len
     show(dK [Fy T.enc q o]).length<=_;unfold dK Fy;simp only[fY,List.flatMap_nil,jX,cZ];omega
    .simp[dK]
   .simp[dK]
  rw[sV,sV,bM,bM,F.put];omega
 have ei:=(Fz (enc:=T.enc) λq c=>(U q c).bytes).1;have cr:=(t.cur.Xx t.Bp.2).2;have c7:(part S J).W T.cur.t.list+(part S J).W ((mH T.enc T.cur.ps i ni++g.qs++lD T.enc T.cur.ps j o).map (·.1))<=4398046511104:=by
  have h1:(part S J).W T.cur.t.list<=1099511627776:=cr;have h2:(part S J).W ((mH T.enc T.cur.ps i ni++g.qs++lD T.enc T.cur.ps j o).map (·.1))=(cK T.enc (mH T.enc T.cur.ps i ni++g.qs++lD T.enc T.cur.ps j o)).length:=c6;rw[h2];refine dI (Nat.add_le_add h1 (dI ei dx)) ?_;omega
 have b2:=Wj (O J) (i:=(i:Int)) (j:=((min (j+1) T.cur.ps.length:Nat):Int)) fl e7 tg.cur.wf (by omega) (by omega) (by show _<=((T.cur.t.list.length:Nat):Int);omega) c7 c9;rw[<-WS S J]at b2;refine aM (R:=λ(y:TR×Int×Unit) h'=>y.2.1=0/\∃t':Bt Part,Nd (part S J) h' y.1.1 t'/\t'.list=T.cur.t.list.take ((i:Int)).toNat++(mH T.enc T.cur.ps i ni++g.qs++lD T.enc T.cur.ps j o).map (·.1)++T.cur.t.list.drop (((min (j+1) T.cur.ps.length:Nat):Int)).toNat) (aS.mono b2 λy h' e ⟨h1,t',h2,h3,_⟩=>⟨h1,t',h2,h3⟩) λ⟨⟨(ab:OA),_⟩,(er:Int),_⟩ hh eh ⟨_,t',b4,df⟩=>?_;have b4:Nd (part S J) hh ab t':=b4;dsimp only;have th:=tg.ext eh;refine aL rfl (aL rfl (eW (.pointer ab) (show cC n 1 hh ⟨some T.p,4,4⟩ [aH T.enc,aH T.limit, .pointer T.cur.root,dG g.ad] from th.ob) (by simp) rfl λhk ok uk=>aC ⟨rfl,rfl,?_,?_⟩))
 .have c1:aY (rF T) h N:=(cT.trans ce λi hi ⟨b,hb,e⟩=>by have:=(os.lt hb).1;have:=aw.size;omega).trans cf λi hi ⟨b,hb,e⟩=>by have:=(E b hb).2;have:=aw.size;omega
  exact(c1.ext (eg.trans eh)).trans (pH uk) λi _ e=>.inl e
 .have ok:cC n 1 hk ⟨some T.p,4,4⟩ [aH T.enc,aH T.limit, .pointer ab,dG g.ad]:=ok
  have c8:T.cur.ps.drop (min (j+1) T.cur.ps.length)=T.cur.ps.drop (j+1):=by
   by_cases d:j+1<=T.cur.ps.length
   .rw[FK d]
   .rw[Nat.min_eq_right (by omega),FL,tY (by omega)]
  have ds:t'.list=(T.cur.ps.take i++(mH T.enc T.cur.ps i ni++g.qs++lD T.enc T.cur.ps j o)++T.cur.ps.drop (j+1)).map (·.1):=by
   rw[df,t.cur.ls,cN,cN,<-DP,<-LO,c8];simp only[dL]
  have gv:=ON (List.take_sublist i T.cur.ps);have gw:=ON (List.drop_sublist (j+1) T.cur.ps);have hs:=Pm (T:=T.at_ g) (ps':=T.cur.ps.take i++(mH T.enc T.cur.ps i ni++g.qs++lD T.enc T.cur.ps j o)++T.cur.ps.drop (j+1)) th (m:=hg.size) (λi hi=>(tg.lo i hi).2) ⟨by have:=D.size;have:=cd.1;have:=ce.1;have:=cf.1;have:=eg.size;omega,eh.size⟩ b4 ds
   (λq c=>by
    rcases dD.1 c with c|c
    .rcases dD.1 c with c|c
     .exact th.cur.Cf q (rG c)
     .exact(U q c).oQ (aY.bH (F:=λ_=>False) (eg.trans eh)) λ_ _ x=>x
    .exact th.cur.Cf q (Bi c))
   (by rw[sV,sV,bM,bM];omega) ok uk
  refine⟨_,hs,⟨rfl,rfl,rfl,rfl,λi hi=>⟨.inl (F.zm i hi),?_⟩,λi hi=>?_,λb hb=>?_⟩,F.all,?_⟩
  .have h1:=(t.lo i hi).2;have:=D.size;have:=cd.1;have:=ce.1;have:=cf.1;have:=eg.size;have:=eh.size;have:=uk.1;omega
  .rcases hi.1 with d|d
   .exact(F.zn i d).imp id λh=>by have:=D.size;omega
   .right;have:=D.size;have:=cd.1;have:=ce.1;have:=cf.1;have:=eg.size;omega
  .exact(F.adc b hb).imp id λh=>by have:=D.size;omega
  .show gS T.enc (T.cur.ps.take i++(mH T.enc T.cur.ps i ni++g.qs++lD T.enc T.cur.ps j o)++T.cur.ps.drop (j+1))=_
   have e1:gS T.enc g.qs=l.map λa=>(a, -1):=by
    rw[Vn λq c=>(F.Cf q c).2,F.oi,sL];rfl
   have dr:gS T.enc (mH T.enc T.cur.ps i ni)=(match T.cur.ps[i]? with|some q=>(yU T.enc q).take ni|none=>[]):=by
    unfold mH;cases c:T.cur.ps[i]? with
    |none=>rfl
    |some q=>
     dsimp only;by_cases d:0<ni
     .rw[if_pos d,Is,WB (a9 q (eL c)) (V q c)]
     .rw[if_neg d,show ni=0 by omega];simp[gS]
   have b0:gS T.enc (lD T.enc T.cur.ps j o)=(match T.cur.ps[j]? with|some q=>(yU T.enc q).drop o|none=>[]):=by
    unfold lD;cases c:T.cur.ps[j]? with
    |none=>rfl
    |some q=>
     dsimp only;by_cases d:o<(bC T.enc q.2).length
     .rw[if_pos d,Is,WC (a9 q (eL c)) (bp q c)]
     .rw[if_neg d,tY (by rw[E6];omega)];simp[gS]
   rw[pB,pB,pB,pB,e1,dr,b0,eT,eD];simp only[eC]
   all_goals rfl
end
section
variable{P:Program}{S:cG}{h:aE}{Q:Nat->bE->aE->Prop}
variable{e:gY}
abbrev El:=Int×Int
def DA(E:List El)(e:gY):List El:=E.take e.1.toNat++e.2.2.1.2.map (λa=>(a, -1))++E.drop e.2.1.toNat
def iI(E:List El)(es:List gY):List El:=es.foldr (λe E=>DA E e) E
theorem pU(E:List El)(e:gY)(es:List gY):iI E (e::es)=DA (iI E es) e:=rfl
def kJ(enc:Int)(E:List El):Nat:=((E.map (·.1)).flatMap (cW enc)).length
theorem lG(enc:Int)(a b:List El):kJ enc (a++b)=kJ enc a+kJ enc b:=by simp[kJ]
theorem AN{T:TX}{s:St}(r:K1 S h T s)(he:eE T.enc):kJ T.enc (gS T.enc s.ps)=(dK s.ps).length:=by
 unfold kJ;rw[<-(F9 he r.bytes).2.1]
theorem XL{enc:Int}{E:List El}(g:jF enc e.2.2.1.2)(h0:0<=e.1)(h1:e.1<=e.2.1):kJ enc (DA E e)<=kJ enc E+4*e.2.2.1.2.length:=by
 unfold DA;have c:=lG enc (E.take e.1.toNat) (E.drop e.1.toNat);rw[eX]at c;have d:=lG enc ((E.drop e.1.toNat).take (e.2.1.toNat-e.1.toNat)) ((E.drop e.1.toNat).drop (e.2.1.toNat-e.1.toNat));rw[eX,FI,show e.1.toNat+(e.2.1.toNat-e.1.toNat)=e.2.1.toNat by omega]at d;have j:kJ enc (e.2.2.1.2.map λa=>((a, -1):El))<=4*e.2.2.1.2.length:=by
  have:=(Hl g).2;unfold kJ;rw[sL];have b:(List.map ((λx:El=>x.1)∘λa=>((a, -1):El)) e.2.2.1.2)=e.2.2.1.2:=by
   conv=>rhs;rw[<-List.map_id e.2.2.1.2]
   rfl
  rw[b];exact this
 rw[lG,lG];omega
theorem Nv{es:List gY}{i:Nat}(hi:es[i]?=some e):(aU (es.drop i)).length=e.2.2.1.2.length+(aU (es.drop (i+1))).length:=by
 have b:=(eK.1 hi).1;have he:=(eK.1 hi).2;rw[gK b,he];simp[aU]
theorem IW(es:List gY)(i:Nat):(aU (es.drop i)).length<=(aU es).length:=by
 have:aU es=aU (es.take i)++aU (es.drop i):=by unfold aU;rw[<-hQ,eX]
 rw[this,bM];omega
structure Z8(S:cG)(n:Nat)(T:TX)(h0 h:aE)(es:List gY)(r:Int)(T':TX):Prop where
 ref:KZ T.enc T.limit (cK T.enc T.cur.ps) es r
 t:eM S n h T'
 nx:L8 T T' h0.size
 gS:gS T.enc T'.cur.ps=if r=0 then iI (gS T.enc T.cur.ps) es else gS T.enc T.cur.ps
 len:T'.A.length<=T.A.length+4*(aU es).length
theorem XP(M:jM P S){n:Nat}{T:TX}{x:Gp}(t:eM S n h T)(hn:n<=h.size)(Y:∀h',aY (rF T) h h'->(Sh.list jD).ok h' x)(hz:∀e,e∈x.2->e.2.2.1.2≠[]->∀a,e.2.2.1.1.aD=some a->¬T.Z a.block)
  (hA:T.A.length+4*(aU x.2).length<=400000000000) (b3:(dK T.cur.ps).length<=T.limit) :
  wp P (xU S (some T.p) x.1) h λtg vs h'=>tg=0/\aY (rF T) h h'/\∃r T',vs=[aH r]/\Z8 S n T h h' x.2 r T':=by
 unfold xU;have ho:=Y h (aY.refl _ _);have b8:=ho.len;have cr:=ho.2.1;have c6:=ho.2.2.1;refine aM (Yb M t ho (by omega) b3) λ⟨(r:Int),_⟩ h1 e1 hr=>?_;have hr:KZ T.enc T.limit (cK T.enc T.cur.ps) x.2 r:=hr;dsimp only;refine aG (λB=>?_) λB=>?_
 .rw[lB]at B
  exact aC ⟨rfl,aY.bH e1,r,T,rfl,hr,t.ext e1,L8.refl _ _,by rw[if_neg B],by omega⟩
 rw[lX]at B;subst B;obtain⟨cg,ab,a6,_⟩:x.2.length<=70000/\uE (cK T.enc T.cur.ps).length 0 x.2/\jF T.enc (aU x.2)/\True:=by
  cases hr with
  |ok a b c d=>exact⟨a,b,c,trivial⟩
 have hlen:(cK T.enc T.cur.ps).length=(gS T.enc T.cur.ps).length:=(yE ..).symm;have c7:=AN t.cur t.enc;have ct:=t.Bp;have al:bJ .i64 (aQ x.1.len) 1=(x.2.length:Int)-1:=by rw[aN,b8,cY (by omega) (by omega)]
 rw[al];refine dV (G:=Nat×TX) (λg (s:Int×Unit) h'=>s.1=(g.1:Int)-1/\g.1<=x.2.length/\aY (rF T) h h'/\eM S n h' g.2/\L8 T g.2 h.size/\gS T.enc g.2.cur.ps=iI (gS T.enc T.cur.ps) (x.2.drop g.1) /\
   dB 0 (x.2.take g.1)<=(gS T.enc g.2.cur.ps).length/\(dK g.2.cur.ps).length<=(dK T.cur.ps).length+4*(aU (x.2.drop g.1)).length/\g.2.A.length<=T.A.length+4*(aU (x.2.drop g.1)).length) (λg=>g.1)
  (λtg vs h'=>tg=2/\vs=[]/\aY (rF T) h h'/\∃T',eM S n h' T'/\L8 T T' h.size/\gS T.enc T'.cur.ps=iI (gS T.enc T.cur.ps) x.2/\T'.A.length<=T.A.length+4*(aU x.2).length)
  (x.2.length,T) ⟨rfl,bL _,aY.bH e1,t.ext e1,L8.refl _ _,by rw[FL];rfl,?_,DS _ _,DS _ _⟩ ?_ ?_
 .rw[fA,<-hlen]
  have:∀(es:List gY) (a L:Int),a<=L->uE L a es->dB a es<=L:=by
   intro es
   induction es with
   |nil=>intro a L h _;exact h
   |cons e es ih=>intro a L h ⟨_,_,I,h4⟩;exact ih _ _ I h4
  exact this _ _ _ (by omega) ab
 .rintro⟨k,o⟩ ⟨(s:Int),u⟩ h2 ⟨hs,J,c2,t2,nx,V,a0,bs,O⟩
  dsimp only at hs J t2 nx V a0 bs O⊢;subst hs;refine aG (λB=>?_) λB=>?_
  .rw[dT]at B
   obtain⟨i,rfl⟩:∃i,k=i+1:=⟨k-1,by omega⟩;have hi:((i+1:Nat):Int)-1=(i:Int):=by omega
   rw[hi];obtain⟨e,j⟩:∃e,x.2[i]?=some e:=⟨x.2[i]'(by omega),cM (by omega)⟩;have aw:=eL j;have a4:=ab.at j;have cx:=CS (ab.take i);have b4:x.2.take (i+1)=x.2.take i++[e]:=by rw[eG,j];rfl
   rw[b4,yZ]at a0;have bt:x.2.drop i=e::x.2.drop (i+1):=by
    have b1:=(eK.1 j).1;have he:=(eK.1 j).2;rw[gK b1,he]
   have df:=Nv j;have de:=IW x.2 i;have W:jF T.enc e.2.2.1.2:=λa ha=>a6 a (by unfold aU;exact Kd.2 ⟨e,aw,ha⟩);have C:iI (gS T.enc T.cur.ps) (x.2.drop i)=DA (gS T.enc o.cur.ps) e:=by rw[bt,pU,<-V]
   have a9:dB 0 (x.2.take i)<=(DA (gS T.enc o.cur.ps) e).length:=by
    unfold DA;rw[bM,bM,dJ];omega
   refine eN (λtg vs h'=>tg=0/\vs=[]/\aY (rF T) h h'/\∃z,eM S n h' z/\L8 T z h.size/\gS T.enc z.cur.ps=iI (gS T.enc T.cur.ps) (x.2.drop i)/\(dK z.cur.ps).length<=(dK T.cur.ps).length+4*(aU (x.2.drop i)).length/\z.A.length<=T.A.length+4*(aU (x.2.drop i)).length) ?_ ?_
   .refine DD (Y h2 c2) j λa I e3 _ o3=>?_
    have l0:∀{K:Int->aK} {Q:Nat->bE->aE->Prop} {h'},Ext I h'->wp P (K e.1) h' Q->wp P (.load (tI) (aB (some a) 0) K) h' Q:=λq J=>aX (b:=bI) _ e.1 rfl (aI.1 (o3.ext q).cells 0 _ rfl) J;have l1:∀{K:Int->aK} {Q:Nat->bE->aE->Prop} {h'},Ext I h'->wp P (K e.2.1) h' Q->wp P (.load (tI) (aB (some a) 1) K) h' Q:=λq J=>aX (b:=bI) _ e.2.1 rfl (aI.1 (o3.ext q).cells 1 _ rfl) J;have l2:∀{K:Sl->aK} {Q:Nat->bE->aE->Prop} {h'},Ext I h'->wp P (K e.2.2.1.1) h' Q->wp P (.load (tS) (aB (some a) 2) K) h' Q:=λq J=>aX (b:=.sl) _ e.2.2.1.1 rfl (aI.1 (o3.ext q).cells 2 _ rfl) J;have N:∀{h'},aY (rF T) h h'->kB .i64 h' e.2.2.1.1 e.2.2.1.2:=λc=>Sh.kZ ((Y _ c).el j).2.2.1;have c8:=(N c2).len;have c3:=c2.ext e3;have E3:=Ext.refl I;refine bW (e.1<e.2.1\/0<e.2.2.1.2.length) ?_ λbb h4 H hb=>aG (λD=>?_) λD=>?_
    .refine l0 E3 (l1 E3 (aG (λD=>aC ⟨rfl,Ext.refl _,true,rfl,?_⟩) λD=>l2 E3 (aC ⟨rfl,Ext.refl _,_,rfl,?_⟩)))
     .rw[aV]at D;exact Iff.intro (λ_=>.inl D) λ_=>rfl
     .rw[aZ]at D;rw[dQ,aN];omega
    .have c4:=c3.ext H
     have t4:=(t2.ext e3).ext H;have b2:o.p=T.p:=nx.p;have w:o.enc=T.enc:=nx.enc;refine l0 H (l1 H (l2 H ?_));rw[<-b2];refine eU (Wv M (T:=o) t4 (dI hn c4.1) (N c4) (by rw[w];exact W) (by omega) (λa3 b hb cd=>?_) (by omega) a4.2.1 (by rw[w];omega) (by omega)) λtg vs h5 b6=>?_
     .have h0:b.block<h.size:=by
       have b0:=N (aY.refl _ _);obtain⟨y,l',b9⟩:∃y l',e.2.2.1.2=y::l':=by
        cases hh:e.2.2.1.2 with
        |nil=>exact absurd hh a3
        |cons y l'=>exact⟨y,l',rfl⟩
       obtain⟨b',eb,cb⟩:=b0.rd.at (i:=0) (by rw[b9];simp);rw[hb]at eb;cases eb;have:=BI cb;rw[iA]at this;exact this
      rcases nx.zn _ cd with hy|hy
      .exact hz e aw a3 b hb hy
      .omega
     .obtain⟨rfl,rfl,c5,z,t5,a5,bo,U⟩:=b6
      refine⟨rfl,(),rfl,aC ⟨rfl,rfl,?_,z,t5,nx.trans a5 c4.1,?_,?_,?_⟩⟩
      .exact c4.trans c5 λi hi hw=>(nx.vf hw).elim id λh=>by omega
      .rw[C];rw[w]at U;exact U
      .have h6:=AN t5.cur t5.enc
       have h7:=AN t2.cur t2.enc;rw[a5.enc,w]at h6;rw[w]at h7 U;rw[<-h6,U];have h8:=XL (E:=gS T.enc o.cur.ps) W (by omega) a4.2.1;unfold DA at h8;rw[h7]at h8;omega
      .rw[bo,bM]
       have:=(Hl W).2;rw[w];omega
    .have c9:¬(e.1<e.2.1\/0<e.2.2.1.2.length):=λk=>by rw[hb.2 k]at D;cases D
     have ba:e.2.2.1.2=[]:=Aa (by omega);refine aC ⟨rfl,rfl,c3.ext H,o,(t2.ext e3).ext H,nx,?_,by omega,by omega⟩;rw[C];unfold DA;rw[ba,show e.2.1=e.1 by omega];simp
   .rintro tg vs I ⟨rfl,rfl,c3,z,t3,cf,ao,bp,bd⟩
    refine bK (bV ?_);rw[cY (by omega) (by omega)];exact aC ⟨λ_=>⟨(i,z),((i:Int)-1,()),rfl,⟨rfl,by dsimp only;omega,c3,t3,cf,ao,by dsimp only;rw[ao,C];exact a9,bp,bd⟩,by dsimp only;omega⟩,λh=>absurd rfl h⟩
  .rw[fC]at B
   have:k=0:=by omega
   subst this;exact aC ⟨λh=>absurd h (by decide),λ_=>⟨rfl,rfl,c2,o,t2,nx,V,O⟩⟩
 .rintro tg vs h2 ⟨rfl,rfl,c2,o,t2,nx,V,O⟩
  exact bK (bV (aC ⟨rfl,c2,0,o,rfl,hr,t2,nx,by rw[if_pos rfl];exact V,O⟩))
end
section
variable{P:Program}{S:cG}{h:aE}{Q:Nat->bE->aE->Prop}
variable{i:Int}
structure Clb(P:Program)(S:cG):Prop where
 it:∀(y:Value) (a b:OA),ZY P (.func (.func S.iT) #[] #[.pointer a, .pointer b]) [y] (Ab S y a b)
 wk:∀(p:OA) (i:Int) (a b:OA),ZY P (.func (.func S.lW) #[] #[.pointer a, .pointer b]) [.pointer p,iv i] (wL S p i a b)
structure Cl0(P:Program)(S:cG):Prop extends Clb P S where
 atoms:∀(a t:Int) (p:OA),ZY P (.func (.func S.vR) #[] #[.pointer p]) [iv a,iv t] (Eu S a t p)
structure wg(P:Program)(S:cG):Prop extends Cl0 P S where
 tags:∀(a t:Int) (p:OA),ZY P (.func (.func S.sX) #[] #[.pointer p]) [iv a,iv t] (B7 S a t p)
structure Xv(P:Program)(S:cG):Prop extends Clb P S where
 tags:∀(a t:Int) (p:OA),ZY P (.func (.func S.sX) #[] #[.pointer p]) [iv a,iv t] (B7 S a t p)
instance:Coe (wg P S) (Cl0 P S):=⟨wg.toCl0⟩
instance:Coe (Cl0 P S) (Clb P S):=⟨Cl0.toClb⟩
instance:Coe (Xv P S) (Clb P S):=⟨Xv.toClb⟩
theorem Clb.vd(C:Clb P S)(Z:Nat->Prop):iw P (part S Z):=⟨λy a b=>C.it y a b,λp i a b=>C.wk p i a b⟩
structure wj(h:aE)(root:OA)(i:Int)(a b:Addr):Prop where
 ca:Sw.cell h a=some (.pointer root)
 cb:Sw.cell h b=some (iv i)
theorem XT{p:OA}:aS P (qB S (p,()) i) [.one .any] h λ(y:Value×Unit) h'=>∃a b,y.1 = .func (.func S.iT) #[] #[.pointer (some a), .pointer (some b)]/\wj h' p i a b/\h.size<=a.block/\h.size<=b.block:=by
 unfold qB aS;refine jI p λc g o1=>λel=>?_;have d:Ext c (c.push (.cells [iv i].toArray el)):=Ext.push ..;have j:cC c.size 1 (c.push (.cells [iv i].toArray el)) ⟨some ⟨c.size,0,none⟩,1,1⟩ [iv i]:=bX rfl (by decide) (by decide);generalize(c.push (.cells [iv i].toArray el))=o at d j⊢;exact aC ⟨rfl,g.trans d,(_,()),rfl,_,_,rfl,⟨kP (o1.ext d),kP j⟩,bL _,g.size⟩
theorem Xu(C:Clb P S){n:Nat}{T:TX}{a b:Addr}{body:OA×Unit->aK}{K:Nat->aK}(t:eM S n h T)(hi:cR .i64 i)(it:wj h T.cur.root i a b)(J:Nat->aE->Prop)(F:Nat->aE->Prop)
  (y:∀k a b,J k a->aY (own h.size 4) a b->J k b) (sF:∀k a b,F k a->aY (own h.size 4) a b->F k b)
  (hr:∀k q d c,(T.cur.ps.drop i.toNat)[k]?=some q->J k d->h.size+4<=d.size->Eo (h.size+4) d c q.1->wp P (body (some c,())) d λtag _ g=>gU (λi=>own h.size 4 i\/((T.Z i\/i=a.block\/i=b.block)/\i<h.size)) d g/\(tag=0->J (k+1) g)/\(tag≠0->F tag g))
  (j0:J 0 h)
  (Y:∀j o,h.size+2<=o.size->(j=0/\J (T.cur.ps.drop i.toNat).length o\/j≠0/\F j o)->wp P (K j) o λt vs D=>gU (own h.size 1) o D/\∀E,aY (own h.size 1) D E->E.size=D.size->Q t vs E) :
  wp P (.range (.func (.func S.iT) #[] #[.pointer (some a), .pointer (some b)]) [.agg PB] [tP] (λ(r:Part×Unit)=>
   .alloc (Bs.inj PB zP) λ(c:Addr)=>.store (some c) (Bs.inj PB r.1)<|.ret 0 [.pointer (some c)]) body K) h Q:=by
 let Z:Nat->Prop:=λi=>T.Z i\/i=a.block\/i=b.block
 have nd:Nd (part S Z) h T.cur.root T.cur.t:=xL t.cur.nd λ_ _ h=>.inl h;have U:=Un (B1 S Z (P:=P)) (C.vd Z) nd (rH (t.cur.room t.Bp.2)) hi it.ca it.cb (.inr (.inl rfl)) (.inr (.inr rfl));refine ZW (A:=AL (part S Z) (T.cur.t.list.drop i.toNat)) (N:=(T.cur.t.list.drop i.toNat).length) (Z:=Z) (m:=2) (h0:=h) U (gU.refl _ _) J F y sF (λk hp d args ⟨r,_,e⟩=>⟨(r,()),e⟩) ?_ j0 ?_
 .rintro k hp d ⟨x,u⟩ ab j al c ao a0 ⟨r,M,L⟩
  have G:Bs.inj PB x=Bs.inj PB r:=by
   have d:=congrArg (λl=>l.head?) L;simp only[Ts.inj,List.head?_cons,fW]at d;have g:(Value.agg (Bs.inj PB x).toArray)=Value.agg (Bs.inj PB r).toArray:=d;injection g with g;exact List.toArray_inj g
  dsimp only;rw[G];have p:∃q,(T.cur.ps.drop i.toNat)[k]?=some q/\r=q.1:=by
   have d:(T.cur.t.list.drop i.toNat)[k]?=some r:=M;rw[t.cur.ls,<-LO,fX]at d;cases p:(T.cur.ps.drop i.toNat)[k]? with
   |none=>rw[p]at d;cases d
   |some q=>rw[p]at d;exact⟨q,rfl,(dW d).symm⟩
  obtain⟨q,p,rfl⟩:=p;refine fV (bs:=PB) zP (by decide) λg H o2=>mJ (bs:=PB) q.1 o2 (wN _) λW o3 V=>aC ⟨rfl,(some ⟨d.size,0,none⟩,()),rfl,?_,λI c3 aw=>?_⟩
  .exact gU.bH (jE.jA H V (by intro z w;cases w;exact bL _))
  .have B:Ext d W:=jE.jA H V (by intro z w;cases w;exact bL _)
   refine hr k q I _ p ?_ (by have:=B.size;omega) ((c3.own o3 λz w hw=>by cases w;have:=hw.2;dsimp only at this;omega).mono (by omega));exact y _ _ _ (y _ _ _ (y _ _ _ j c) (aY.bH B)) c3
 .intro j o O a3 G
  refine Y j o O ?_;have:(T.cur.t.list.drop i.toNat).length=(T.cur.ps.drop i.toNat).length:=by rw[t.cur.ls,cZ,cZ,cD]
  rw[<-this];exact G
theorem Zq{n:Nat}{k:IntKind}{s x:Sl}{pre mid post l:aW}{i:Nat}{K:Nat->aK}(o:bR n k h s (pre++mid++post))(u:kB k h x l)(W:l.length=mid.length)(h0:0<l.length)(hi:i=pre.length)
  (N:∀h',bR n k h' s (pre++l++post)->jE s h h'->h'.size=h.size->wp P (K l.length) h' Q):wp P (.copy 1 ⟨bF s.aD s.cap i 1,cV s.len i,cV s.cap i⟩ x K) h Q:=by
 subst hi;have L:=u.len;have J:=o.len;simp only[bM]at J;obtain⟨o1,o2,O,p⟩:=o.own;cases hb:s.aD with
 |none=>rw[hb]at p;simp only at p;omega
 |some a=>
  rw[hb]at p;obtain⟨b,off,spot⟩:=a;obtain⟨e0,C,D,cs,elem,E,G,H⟩:=p;simp only at e0 C D E;subst e0;subst C;have t:bF (some (⟨b,0,none⟩:Addr)) s.cap pre.length 1=some ⟨b,pre.length,none⟩:=by
   unfold bF;rw[if_neg (by omega)];simp[pA]
  rw[t];have g:min x.len (cV s.len pre.length)=l.length:=by unfold cV;omega
  obtain⟨w,B,c1,c2,c3,A,V,M⟩:=lS (vs:=l.map (.int k)) (i:=0) (off:=pre.length) E (by intro y c;obtain⟨z,_,rfl⟩:=dC.1 c;rfl) (by rw[cD];simp at G;omega);refine⟨l.map (.int k),?_,?_⟩
  .rw[g]
   have:=u.rd.G5;rw[L]at this;exact this
  .dsimp only
   rw[g];refine⟨w,N _ ⟨⟨by simp at o1⊢;omega,o2,O,?_⟩,?_⟩ ⟨by unfold nO;omega,λj d I=>M j λe=>(I _ hb) e.symm,λa e=>by unfold nO;rw[iR];exact e⟩ (by unfold nO;omega)⟩
   .rw[hb]
    refine⟨rfl,rfl,D,B,elem,c1,by rw[c2,G],λj v d=>?_⟩;rw[dL,dL]at d;by_cases r:j<pre.length
    .rw[eC,lV (by rw[cD];exact r)]at d
     rw[A j (by omega)];exact H j v (by rw[dL,dL,eC,lV (by rw[cD];exact r)];exact d)
    .by_cases U:j<pre.length+l.length
     .rw[lV (by simp;omega),jK (by simp;omega),cD]at d
      have:=c3 (j-pre.length) v d;rw[show pre.length+0+(j-pre.length)=j by omega]at this;exact this
     .rw[jK (by simp;omega)]at d
      rw[A j (by simp;omega)];refine H j v ?_;rw[dL,dL,jK (by simp;omega)];simp only[bM,cD]at d⊢;rw[show j-(pre.length+mid.length)=j-(pre.length+l.length) by omega];exact d
   .intro y c
    rcases dD.1 c with c|c
    .rcases dD.1 c with c|c
     .exact o.wf y (oM _ (oM _ c))
     .exact u.wf y c
    .exact o.wf y (pZ _ c)
end
section
variable{P:Program}{S:cG}{h:aE}{Q:Nat->bE->aE->Prop}
variable{a:Addr}
theorem Zx{k:IntKind}{bytes n:Nat}{K:Sl->aK}(h1:n<2^63)(b:bytes*n<=2^48)(c:∀h' r,Ext h h'->bR h.size k h' r (List.replicate n 0)->wp P (K r) h' Q):wp P (.mk bytes [.int k 0] (n:Int) (n:Int) K) h Q:=by
 refine⟨⟨by omega,nJ _,by omega,by exact_mod_cast b⟩,λelem=>c _ _ (Ext.push ..) ⟨⟨by simp,by simp,by dsimp only;omega,?_⟩,λx d=>by rw[(Rw.1 d).2];exact rU k⟩⟩;refine⟨rfl,rfl,bL _,_,elem,FE,?_,λi v hi=>?_⟩
 .rw[Pv];simp
 .rw[Pv]
  rw[List.map_replicate]at hi;rw[Ri];simpa using hi
theorem NB(v:Value){K:Addr->aK}(b:∀h',Ext h h'->cC h.size 1 h' ⟨some ⟨h.size,0,none⟩,1,1⟩ [v]->h'.size=h.size+1->wp P (K ⟨h.size,0,none⟩) h' Q):wp P (.alloc [v] K) h Q:=
 λel=>b _ (Ext.push ..) (bX rfl (by decide) (by decide)) (by simp)
abbrev OJ(n:Nat)(h:aE)(a:Addr)(v:Value):Prop:=cC n 1 h ⟨some a,1,1⟩ [v]
theorem CZ{n:Nat}{b:B}{x:b.den}{K:b.den->aK}(o:OJ n h a (b.inj x))(c:wp P (K x) h Q):wp P (.load (.one b) (some a) K) h Q:=aX a x rfl (kP o) c
theorem I0{n:Nat}{v:Value}(w:Value){K:aK}(o:OJ n h a v)(hw:flat w=true)(b:∀h',OJ n h' a w->jE ⟨some a,1,1⟩ h h'->wp P K h' Q):wp P (.store (some a) [w] K) h Q:=
 fL [w] o rfl (by intro u hu;rw[dE.1 hu];exact hw) b
theorem Th(z w:Value){K:Addr->aK}(hw:flat w=true)(d:∀h',Ext h h'->OJ h.size h' ⟨h.size,0,none⟩ w->wp P (K ⟨h.size,0,none⟩) h' Q):wp P (.alloc [z] λa=>.store (some a) [w] (K a)) h Q:=
 NB z λo b o1 _=>I0 w o1 hw λc o2 j=>d c (jE.jA b j (by intro x g;cases g;exact bL _)) o2
theorem gG.oQ{n:Nat}{F:Nat->Prop}{a b c:aE}(k:gG n a b)(d:aY F b c)(j:n<=b.size)(g:∀i,F i->n<=i):gG n a c:=gG.trans k (d.aP j λi hi x=>by have:=g i x;omega)
end
section
variable{P:Program}{S:cG}{h:aE}{Q:Nat->bE->aE->Prop}
variable{l:aW}{q:Part}
theorem Sd(tag:Int):∀(ts:List (Int×Int)) (o w:Nat) (t:Int×Int),ts[w]?=some t->(gT tag o ts)[w]?=some (t.1,if tag<0 then -1 else tag+((o+dF (ts.take w):Nat):Int))
 |[],o,w,t,h=>by simp at h
 |x::ts,o,0,t,h=>by simp at h;subst h;simp[gT,dF]
 |x::ts,o,w+1,t,h=>by
  have:=Sd tag ts (o+x.2.toNat) w t (by simpa using h);simp only[gT,Rt,Jo,mM];rw[this,Bg]
structure ue(P:Program)(see:Value)(f:El->Int)(cc:Addr):Prop where
 flat:flat see=true
 go:∀(h:aE) (m:Nat) (e:El) (s:Sl) (l:aW) (Q:Nat->bE->aE->Prop) (K:Unit->aK),m<=h.size->OJ m h cc (dG s)->bR m .i64 h s l->cR .i64 e.1->cR .i64 e.2->l.length<=1099511627776->(∀x,s.aD=some x->x.block≠cc.block) ->
  (∀h' s',OJ m h' cc (dG s')->bR m .i64 h' s' (l++[f e])->aY (λi=>i=cc.block\/∃x,s.aD=some x/\x.block=i) h h'->(∀x,s'.aD=some x->s.aD=some x\/h.size<=x.block)->wp P (K ()) h' Q)->wp P (.kO see [iv e.1,iv e.2] [] K) h Q
theorem Tk{m:Nat}{cc:Addr}{s:Sl}{v:Int}{K:aK}(hm:m<=h.size)(oc:OJ m h cc (dG s))(ol:bR m .i64 h s l)(w:cR .i64 v)(E:l.length<=1099511627776)(d:∀x,s.aD=some x->x.block≠cc.block)
  (u:∀h' g,OJ m h' cc (dG g)->bR m .i64 h' g (l++[v])->aY (λi=>i=cc.block\/∃x,s.aD=some x/\x.block=i) h h'->(∀x,g.aD=some x->s.aD=some x\/h.size<=x.block)->wp P K h' Q) :
  wp P (.load (tS) (some cc) λ(A:Sl)=>.alloc [iv v] λ(a2:Addr)=>.append 1 8 [iv 0] A ⟨some a2,1,1⟩ λ(B:Sl)=>.store (some cc) [dG B] K) h Q:=by
 refine CZ (b:=.sl) (x:=s) oc (Hr ol hm w (by omega) (by omega) λr p k1 o1 C j=>?_);have c1:aY (λi=>∃x,s.aD=some x/\x.block=i) h p:=aY.dP C λx c _=>⟨x,c,rfl⟩;have D:cc.block<h.size:=(oc.lt rfl).2;refine I0 (dG r) (c1.own oc λx c ⟨y,z,e⟩=>by cases c;exact d y z e) rfl λt o2 o=>u t r o2 (o1.GS o λa b ha hb=>?_) ?_ j
 .cases hb
  rcases j a ha with c|c
  .exact(d a c).symm
  .omega
 .exact(c1.mono λi _ e=>.inr e).trans ((pH o).mono λi _ e=>.inl e) λi _ x=>x
theorem Xc(C:Cl0 P S)(cc:Addr):ue P (.func (.func S.vR) #[] #[.pointer (some cc)]) (·.1) cc:=
 ⟨rfl,λh m e s l Q K hm oc ol j t p g o=>NT (C.atoms _ _ _) (Tk hm oc ol j p g λh' r a b c d=>aC ⟨rfl,(),rfl,o h' r a b c d⟩)⟩
theorem Xd(C:Xv P S)(cc:Addr):ue P (.func (.func S.sX) #[] #[.pointer (some cc)]) (·.2) cc:=
 ⟨rfl,λh m e s l Q K hm oc ol t j p g o=>NT (C.tags _ _ _) (Tk hm oc ol j p g λh' r a b c d=>aC ⟨rfl,(),rfl,o h' r a b c d⟩)⟩
def Ob(E:List El)(from_ to:Int):List El:=(E.take (min to E.length).toNat).drop (max from_ 0).toNat
structure WJ(S:cG)(P:Program)(n:Nat)(T:TX)(h0:aE)(hr m0:Nat)(a1 a2 a7 a8 cc:Addr)(see:Value)(f:El->Int)(R:List El)(m cnt v:Nat)(h:aE)(s:Sl):Prop where
 c:aY (λi=>i=cc.block) h0 h
 sz:hr<=h.size
 t:eM S n h T
 o1:OJ h0.size h a1 (.pointer (some T.p))
 o2:OJ h0.size h a2 see
 o7:OJ h0.size h a7 (aH ((m-v:Nat):Int))
 o8:OJ h0.size h a8 (aH ((cnt-(v-m):Nat):Int))
 oc:OJ m0 h cc (dG s)
 ol:bR m0 .i64 h s (((R.take v).drop m).map f)
 sb:∀x,s.aD=some x->hr+4<=x.block/\0<((R.take v).drop m).length
 lt:a1.block<hr/\a2.block<hr/\a7.block<hr/\a8.block<hr/\cc.block<h0.size/\h0.size<=hr
variable{n:Nat}{T:TX}{h0:aE}{hr m0:Nat}{a1 a2 a7 a8 cc:Addr}{see:Value}{f:El->Int}{R:List El}{m cnt v:Nat}{s:Sl}
theorem WJ.oQ{h':aE}{F:Nat->Prop}(j:WJ S P n T h0 hr m0 a1 a2 a7 a8 cc see f R m cnt v h s)(c:aY F h h')(d:∀i,F i->hr<=i/\∀x,s.aD=some x->x.block≠i)(g:∀i,T.Z i->i<h0.size):WJ S P n T h0 hr m0 a1 a2 a7 a8 cc see f R m cnt v h' s:=by
 obtain⟨o,p,r,u,lc,w⟩:=j.lt;exact⟨j.c.trans (c.mono λi _ x=>x) λi hi x=>by have:=(d i x).1;omega,dI j.sz c.1,j.t.oQ c λi hi x=>by have:=(d i x).1;have:=g i hi;omega,
  c.own j.o1 λx b y=>by cases b;have:=(d _ y).1;omega,c.own j.o2 λx b y=>by cases b;have:=(d _ y).1;omega,c.own j.o7 λx b y=>by cases b;have:=(d _ y).1;omega,c.own j.o8 λx b y=>by cases b;have:=(d _ y).1;omega,
  c.own j.oc λx b y=>by cases b;have:=(d _ y).1;omega,c.pW j.ol λx b y=>(d _ y).2 x b rfl,j.sb,j.lt⟩
theorem WJ.ext{h':aE}(j:WJ S P n T h0 hr m0 a1 a2 a7 a8 cc see f R m cnt v h s)(c:Ext h h')(b:∀i,T.Z i->i<h0.size):WJ S P n T h0 hr m0 a1 a2 a7 a8 cc see f R m cnt v h' s:=
 j.oQ (F:=λ_=>False) (aY.bH c) (λi x=>x.elim) b
theorem mn{k:IntKind}{u:Nat}{c x:Addr}(o:bR m0 k h s l)(t:0<l.length)(d:s.aD=some x)(oc:Eo u h c q):x.block≠c.block:=by
 intro e;obtain⟨_,_,_,g⟩:=id o.own;rw[d]at g;obtain⟨j,p,_⟩:=g;obtain⟨_,_,_,r⟩:=id oc;obtain⟨c0,c1,_⟩:=r;obtain⟨y,b,cy⟩:=o.kZ.rd.at (i:=0) t;rw[d]at b;cases b;have cc:=aI.1 oc.cells 0 _ rfl;have:x=c:=by
  obtain⟨w,z,xs⟩:=x;obtain⟨cb,co,cs⟩:=c;dsimp only at e j p c0 c1;subst e;subst j;subst p;subst c0;subst c1;rfl
 rw[this]at cy;rw[cc]at cy;cases cy
theorem Xj{E:El}(b:R[v]?=some E)(hm:m<=v):(R.take (v+1)).drop m=(R.take v).drop m++[E]:=by
 rw[eG,b];rw[Rr (by rw[dJ];have:=(eK.1 b).1;omega)];rfl
theorem Xi(hm:v<m):(R.take (v+1)).drop m=[]/\(R.take v).drop m=[]:=by
 constructor<;>exact tY (by rw[dJ];omega)
theorem jv(hs:ue P see f cc){c:Addr}{E:El}{tag at_:Int}{nr:Nat}{W:Nat->Prop}(j:WJ S P n T h0 hr m0 a1 a2 a7 a8 cc see f R m cnt v h s)(b3:m0<=h0.size)(hz:∀i,T.Z i->i<h0.size)(a6:¬T.Z cc.block)(hd:a1.block≠a7.block/\a1.block≠a8.block/\a2.block≠a7.block/\a2.block≠a8.block/\a7.block≠a8.block)
  (D:h0.size<=a1.block/\h0.size<=a2.block/\h0.size<=a7.block/\h0.size<=a8.block) (hv:R[v]?=some E) (b2:v-m<cnt) (bo:m<=1099511627776/\cnt<=1099511627776/\v<=1099511627776) (oc:Eo (hr+4) h c q) (ab:q.2.1=tag) (H:E.2=if tag<0 then -1 else tag+at_) (z:cR .i64 E.1/\cR .i64 E.2 /\ -9223372036854775808<=tag+at_/\tag+at_<=9223372036854775807)
  (I:∀i,W i->i≠a7.block/\i≠a8.block/\i≠cc.block/\i<hr+4) :
  wp P (.bind
     (.load (tI) (some a7) λ(ao:Int)=>
     aR (rY ao 0)
      (.load (tI) (some a7) λ(aw:Int)=>
      .store (some a7) [aH (bJ .i64 aw 1)]<|
      .ret 0 [])<|
     .bind
      (bD (aJ (some c))<|
      .load (tI) (aB (some c) 1) λ(a0:Int)=>
      aR (fE a0 0)
       (.load (.one .any) (some a2) λ(V:Value)=>
       .kO V [aH E.1,aH (-1)] [] λ(bp:Unit)=>
       .ret 0 [])<|
      .load (.one .any) (some a2) λ(Y:Value)=>
      bD (aJ (some c))<|
      .load (tI) (aB (some c) 1) λ(a3:Int)=>
      .kO Y [aH E.1,aH (aT .i64 a3 at_)] [] λ(bs:Unit)=>
      .ret 0 []) λ(al:Nat)=>
     λ(J:bE)=>
     aR (jC al 0)
      (.cast [] J λ(bt:Unit)=>
      .load (tI) (some a8) λ(a4:Int)=>
      .store (some a8) [aH (bJ .i64 a4 1)]<|
      .load (tI) (some a8) λ(a5:Int)=>
      aR (fU a5 0)
       (.ret 1 [])<|
      .ret 0 [])<|
     .fail) λk vs=>.ret k vs) h λtg vs h'=>vs=[]/\gU W h h'/\Eo (hr+4) h' c q/\∃p,WJ S P n T h0 hr m0 a1 a2 a7 a8 cc see f R m cnt (v+1) h' p/\((tg=0/\v+1-m<cnt)\/(tg=1/\v+1=m+cnt)):=by
 obtain⟨l1,l2,l7,l8,lc,lh⟩:=j.lt;obtain⟨d17,d18,d27,d28,d78⟩:=hd;have b0:hr+4<=c.block:=(oc.lt rfl).1;refine eN (λtg vs h'=>vs=[]/\gU W h h'/\Eo (hr+4) h' c q/\∃p,WJ S P n T h0 hr m0 a1 a2 a7 a8 cc see f R m cnt (v+1) h' p/\((tg=0/\v+1-m<cnt)\/(tg=1/\v+1=m+cnt))) ?_ λt vs h' d=>aC d;refine CZ (b:=bI) (x:=((m-v:Nat):Int)) j.o7 (aG (λA=>?_) λA=>?_)
 .rw[dQ]at A
  obtain⟨k1,k2⟩:=Xi (R:=R) (show v<m by omega);refine CZ (b:=bI) (x:=((m-v:Nat):Int)) j.o7 ?_;rw[cY (by omega) (by omega)];refine I0 (aH (((m-v:Nat):Int)-1)) j.o7 rfl λG o1 u1=>aC ⟨rfl,?_,?_,s,?_, .inl ⟨rfl,by omega⟩⟩
  .exact gU.Nl (pH u1) λi hi hw e=>(I i hw).1 e
  .exact qK oc u1 λx d=>by cases d;omega
  .have g:aY (λi=>i=a7.block) h G:=pH u1
   refine⟨j.c.trans g λi hi e=>by have e:i=a7.block:=e;omega,dI j.sz g.1,j.t.oQ g λi hi e=>by have:=hz i hi;have e:i=a7.block:=e;omega,g.own j.o1 λx d e=>by cases d;exact d17 e,g.own j.o2 λx d e=>by cases d;exact d27 e,?_,?_,g.own j.oc λx d e=>by cases d;have e:cc.block=a7.block:=e;omega,?_,λx d=>?_,j.lt⟩
   .rw[show((m-(v+1):Nat):Int)=((m-v:Nat):Int)-1 by omega];exact o1
   .rw[show cnt-(v+1-m)=cnt-(v-m) by omega];exact g.own j.o8 λx d e=>by cases d;exact d78 e.symm
   .rw[k1,<-k2];exact g.pW j.ol λx d e=>by have:=(j.sb x d).1;have e:x.block=a7.block:=e;omega
   .have:=j.sb x d;rw[k2]at this;exact absurd this.2 (by simp)
 .rw[gC]at A
  have a9:m<=v:=by omega
  have L:=Xj hv a9;have ba:((R.take v).drop m).length=v-m:=by rw[cZ,dJ];have:=(eK.1 hv).1;omega
  have c1:Sw.cell h (c.add 1)=some (aH tag):=by rw[<-ab];exact aI.1 oc.cells 1 _ rfl
  have bb:∀x,s.aD=some x->x.block≠c.block:=λx d=>mn j.ol (by rw[cD];exact(j.sb x d).2) d oc;have tell:∀{K:Unit->aK} {Q:Nat->bE->aE->Prop},(∀h' p,gU W h h'->Eo (hr+4) h' c q->h.size<=h'.size->WJ S P n T h0 hr m0 a1 a2 a7 a8 cc see f R m (cnt+0) v h s->(aY (λi=>i=cc.block\/∃x,s.aD=some x/\x.block=i) h h')->OJ m0 h' cc (dG p)->bR m0 .i64 h' p (((R.take (v+1)).drop m).map f)->(∀x,p.aD=some x->s.aD=some x\/h.size<=x.block)->wp P (K ()) h' Q)->wp P (.kO see [iv E.1,iv E.2] [] K) h Q:=λhk=>
   hs.go h m0 E s _ _ _ (by have:=j.c.1;omega) j.oc j.ol z.1 z.2.1 (by rw[cD,ba];omega) (λx d=>by have:=(j.sb x d).1;omega) λh' p o1 o2 g B=>
    hk h' p (gU.Nl g λi hi hw e=>by
     rcases e with e|⟨x,d,e⟩
     .exact(I i hw).2.2.1 e
     .have:=(j.sb x d).1;have:=(I i hw).2.2.2;omega) (g.own oc λx d e=>by
     cases d;rcases e with e|⟨y,u,e⟩
     .omega
     .exact bb y u e) g.1 j g o1 (by rw[L,dL];exact o2) B
  refine eN (λtg vs h'=>tg=0/\vs=[]/\gU W h h'/\Eo (hr+4) h' c q/\∃p,aY (λi=>i=cc.block\/∃x,s.aD=some x/\x.block=i) h h'/\OJ m0 h' cc (dG p)/\bR m0 .i64 h' p (((R.take (v+1)).drop m).map f)/\∀x,p.aD=some x->s.aD=some x\/h.size<=x.block) ?_ ?_
  .refine aL rfl (aX (b:=bI) (c.add 1) tag rfl c1 (aG (λA=>?_) λA=>?_))
   .rw[aV]at A
    rw[if_pos A]at H;rw[<-H];exact CZ (b:=.any) (x:=see) j.o2 (tell λh' p w o sz _ g o1 o2 B=>aC ⟨rfl,rfl,w,o,p,g,o1,o2,B⟩)
   .rw[aZ]at A
    rw[if_neg (by omega)]at H;refine CZ (b:=.any) (x:=see) j.o2 (aL rfl (aX (b:=bI) (c.add 1) tag rfl c1 ?_));rw[bG z.2.2.1 z.2.2.2,<-H];exact tell λh' p w o sz _ g o1 o2 B=>aC ⟨rfl,rfl,w,o,p,g,o1,o2,B⟩
  .rintro tg vs G ⟨rfl,rfl,w1,bd,p,g,o1,o2,B⟩
   have M:OJ h0.size G a8 (aH ((cnt-(v-m):Nat):Int)):=g.own j.o8 λx d e=>by
    cases d;rcases e with e|⟨y,u,e⟩
    .omega
    .have:=(j.sb y u).1;omega
   refine bK (bV (CZ (b:=bI) (x:=((cnt-(v-m):Nat):Int)) M ?_));rw[cY (by omega) (by omega)];refine I0 (aH (((cnt-(v-m):Nat):Int)-1)) M rfl λC N u2=>?_;have e8:((cnt-(v-m):Nat):Int)-1=((cnt-(v+1-m):Nat):Int):=by omega
   have r:aY (λi=>i=a8.block) G C:=pH u2;have old:∀{a:Addr} {x:Value},OJ h0.size h a x->a.block<hr->h0.size<=a.block->a.block≠a8.block->OJ h0.size C a x:=λo q1 q2 q3=>r.own (g.own o λx d e=>by
    cases d;rcases e with e|⟨y,u,e⟩
    .omega
    .have:=(j.sb y u).1;omega) λx d e=>by cases d;exact q3 e
   have U:∀x,p.aD=some x->hr+4<=x.block:=λx d=>by
    rcases B x d with u|u
    .exact(j.sb x u).1
    .have:c.block<h.size:=(oc.lt rfl).2;omega
   have J2:WJ S P n T h0 hr m0 a1 a2 a7 a8 cc see f R m cnt (v+1) C p:=by
    refine⟨?_,?_,?_,old j.o1 l1 D.1 d18,old j.o2 l2 D.2.1 d28,?_,by rw[<-e8];exact N,r.own o1 λx d e=>by cases d;have e:cc.block=a8.block:=e;omega,r.pW o2 λx d e=>by have:=U x d;have e:x.block=a8.block:=e;omega,λx d=>⟨U x d,by rw[L,bM];simp⟩,j.lt⟩
    .refine(j.c.trans g λi hi e=>?_).trans r λi hi e=>by have e:i=a8.block:=e;omega
     rcases e with e|⟨y,u,e⟩
     .exact e
     .have:=(j.sb y u).1;omega
    .have:=g.1;have:=r.1;have:=j.sz;omega
    .refine eM.oQ (eM.oQ j.t g λi hi e=>?_) r λi hi e=>by have:=hz i hi;have e:i=a8.block:=e;omega
     rcases e with e|⟨y,u,e⟩
     .exact a6 (e ▸ hi)
     .have:=(j.sb y u).1;have:=hz i hi;omega
    .have:=old j.o7 l7 D.2.2.1 d78
     rw[show m-(v+1)=m-v by omega];exact this
   have w2:gU W h C:=w1.trans (gU.Nl r λi hi hw e=>(I i hw).2.1 e);have O:Eo (hr+4) C c q:=r.own bd λx d e=>by cases d;have e:c.block=a8.block:=e;omega
   refine CZ (b:=bI) (x:=(((cnt-(v-m):Nat):Int)-1)) N (aG (λd=>?_) λd=>?_)
   .rw[cJ]at d
    exact aC ⟨rfl,w2,O,p,J2, .inr ⟨rfl,by omega⟩⟩
   .rw[dM]at d
    exact aC ⟨rfl,w2,O,p,J2, .inl ⟨rfl,by omega⟩⟩
end
section
variable{P:Program}{S:cG}{h:aE}{Q:Nat->bE->aE->Prop}
variable{from_ to:Int}
theorem dg(a b:Int):CU a b=max a b:=by unfold CU;split<;>omega
theorem Yn{enc:Int}{q:Pc}{w:Nat}{t:Int×Int}(hw:(bC enc q.2)[w]?=some t):(yU enc q)[w]?=some (t.1,if q.1.2.1<0 then -1 else q.1.2.1+(dF ((bC enc q.2).take w):Int)):=by
 have:=Sd q.1.2.1 (bC enc q.2) 0 w t hw;unfold yU;rw[this,Jm]
theorem Vk(M:jM P S)(C:Clb P S){n m0:Nat}{T:TX}{see:Value}{f:El->Int}{cc:Addr}(t:eM S n h T)(hs:ue P see f cc)(oc:OJ m0 h cc (dG ⟨none,0,0⟩))(dr:m0<=h.size)(b1:¬T.Z cc.block)(ec:cR .i64 to) :
  wp P (yN S (some T.p) from_ to see) h λtg vs h'=>tg=0/\vs=[]/\aY (λi=>i=cc.block) h h'/\∃s,OJ m0 h' cc (dG s)/\bR m0 .i64 h' s ((Ob (gS T.enc T.cur.ps) from_ to).map f):=by
 unfold yN;rw[eO]at ec;have hf:=t.cur.Xx t.Bp.2;have fy:(gS T.enc T.cur.ps).length=(cK T.enc T.cur.ps).length:=yE ..;have lo:=t.lo;have c7:cc.block<h.size:=(oc.lt rfl).2;refine NB _ λD e1 o1 z1=>aL hs.flat (NB _ λh2 e2 o2 z2=>?_);have bo:=e1.trans e2;refine CZ (b:=.ptr) (x:=some T.p) (o1.ext e2) (aM (Vd (t.ext bo)) λ⟨(L:Int),_⟩ h3 e3 hL=>?_);have hL:L=(gS T.enc T.cur.ps).length:=hL;subst hL;dsimp only;rw[dg,lA];have z:=bo.trans e3;have a4:Ob (gS T.enc T.cur.ps) from_ to=((gS T.enc T.cur.ps).take (min to (gS T.enc T.cur.ps).length).toNat).drop (max from_ 0).toNat:=rfl;refine aG (λhc=>?_) λhc=>?_
 .rw[dT]at hc
  refine aC ⟨rfl,rfl,aY.bH z,⟨none,0,0⟩,oc.ext z,?_⟩;have:Ob (gS T.enc T.cur.ps) from_ to=[]:=by rw[a4];exact tY (by rw[dJ];omega)
  rw[this];exact bR.nil _ _ _
 rw[fC]at hc;generalize gm:max from_ 0=fr at *;generalize g5:min to ((gS T.enc T.cur.ps).length:Int)=tt at *;have cf:0<=fr:=by omega
 have fm:tt<=(gS T.enc T.cur.ps).length:=by omega
 have t3:=t.ext z;refine CZ (b:=.ptr) (x:=some T.p) (o1.ext (e2.trans e3)) (aM (PJ t3 cf (by omega)) λ⟨(i':Int),(m':Int),_⟩ K e4 ⟨i,m,hi,hm,fi⟩=>?_);have hi:i'=i:=hi;have hm:m'=m:=hm;subst hi;subst hm;dsimp only;have gv:=fi.1;have de:=fi.2.1;have fl:=QK t.cur.Cf;have g2:=t.cur.small;refine Th _ (aH (m:Int)) rfl λI e5 o5=>Th _ (aH (bJ .i64 tt fr)) rfl λh6 e6 o6=>?_;rw[cY (by omega) (by omega)]at o6;have a0:=(e4.trans e5).trans e6;have bp:=z.trans a0;refine CZ (b:=.ptr) (x:=some T.p) (o1.ext ((e2.trans e3).trans a0)) (tX (t.ext bp) (aM XT λ⟨y,_⟩ d e7 hy=>?_));obtain⟨a,b,hy,er,ha,hb⟩:=hy;have hy:y=_:=hy;subst hy;dsimp only;have ao:=bp.trans e7;have t7:=t.ext ao;generalize hR:gS T.enc (T.cur.ps.drop i)=R;have O:gS T.enc T.cur.ps=gS T.enc (T.cur.ps.take i)++R:=by rw[<-hR,<-pB,eX]
 have gf:R.length+(gS T.enc (T.cur.ps.take i)).length=(gS T.enc T.cur.ps).length:=by rw[O,bM];omega
 rw[<-yE]at de;have df:fr.toNat=(gS T.enc (T.cur.ps.take i)).length+m:=by omega
 generalize fj:(tt-fr).toNat=cnt;have cr:(R.take (m+cnt)).drop m=Ob (gS T.enc T.cur.ps) from_ to:=by
  rw[a4];have D:tt.toNat=fr.toNat+cnt:=by omega
  have hd:∀A:List El,(A++R).drop (A.length+m)=R.drop m:=λA=>by rw[<-FI,LV rfl]
  rw[LR,LR,D,Bj,Bj,df,O,hd]
 have g7:=e1.size;have g8:=e3.size;have g9:=e5.size;have g1:D.size<h2.size+0:=by omega
 have p2:D.size<h2.size:=by omega
 have p5:K.size<I.size:=(o5.lt rfl).2;have p6:I.size<h6.size:=(o6.lt rfl).2;have s4:=e4.size;have s7:=e7.size
 let A1:Addr:=⟨h.size,0,none⟩
 let A2:Addr:=⟨D.size,0,none⟩
 let Y:Addr:=⟨K.size,0,none⟩
 let A8:Addr:=⟨I.size,0,none⟩
 let V:Nat->Nat:=λk=>(gS T.enc ((T.cur.ps.drop i).take k)).length
 let J:Nat->aE->Prop:=λk h'=>∃s,WJ S P n T h d.size m0 A1 A2 Y A8 cc see f R m cnt (V k) h' s/\V k-m<cnt
 let F:Nat->aE->Prop:=λtg h'=>tg=1/\∃s,WJ S P n T h d.size m0 A1 A2 Y A8 cc see f R m cnt (m+cnt) h' s
 have hz:∀i,T.Z i->i<h.size:=λi hi=>(lo i hi).2;have al:∀{v s a b},WJ S P n T h d.size m0 A1 A2 Y A8 cc see f R m cnt v a s->aY (own d.size 4) a b->WJ S P n T h d.size m0 A1 A2 Y A8 cc see f R m cnt v b s:=λj c=>
  j.oQ c (λi o=>⟨o.1,λx g e=>by have:=(j.sb x g).1;have:=o.2;omega⟩) hz
 have J0:J 0 d:=by
  refine⟨⟨none,0,0⟩,⟨aY.bH ao,bL _,t7,(o1.ext (((e2.trans e3).trans a0).trans e7)),(o2.ext ((e3.trans a0).trans e7)).mono e1.size,?_,?_,oc.ext ao,?_,λx g=>(by cases g),?_⟩,?_⟩
  .have:V 0=0:=rfl
   rw[this,LL];exact(o5.ext (e6.trans e7)).mono (by have:=z.size;omega)
  .have D:V 0=0:=rfl
   rw[D,Nat.zero_sub,LL];have h2:((cnt:Nat):Int)=tt-fr:=by omega
   rw[h2];exact(o6.ext e7).mono (by have:=z.size;omega)
  .have:V 0=0:=rfl
   rw[this];simp;exact bR.nil _ _ _
  .refine⟨?_,?_,?_,?_,c7,ao.size⟩
   .show h.size<d.size;omega
   .show D.size<d.size;omega
   .show K.size<d.size;omega
   .show I.size<d.size;omega
  .have:V 0=0:=rfl
   omega
 have b0:m<=1099511627776/\cnt<=1099511627776:=by omega
 refine Xu C t7 (i:=(i:Int)) (eO.2 (by omega)) er J F (λk a b ⟨s,j,l⟩ c=>⟨s,al j c,l⟩) (λk a b ⟨D,s,j⟩ c=>⟨D,s,al j c⟩) ?_ J0 ?_
 .rintro k q h8 c hq ⟨s,j,a5⟩ dx ey
  rw[cN]at hq;have b4:=Bi (eL hq);have a9:=t.cur.Cf q b4;have N:=a9.bytes;have e8:=oH (enc:=T.enc) N;have c5:V (k+1)=V k+(bC T.enc q.2).length:=by
   show(gS T.enc ((T.cur.ps.drop i).take (k+1))).length=(gS T.enc ((T.cur.ps.drop i).take k)).length+_;rw[eG,hq,pB,bM]
   congr 1
   show(gS T.enc [q]).length=_;rw[Is,E6]
  have bs:R=gS T.enc ((T.cur.ps.drop i).take k)++yU T.enc q++gS T.enc ((T.cur.ps.drop i).drop (k+1)):=by rw[<-hR];exact OX hq
  have c4:∀w E,(yU T.enc q)[w]?=some E->R[V k+w]?=some E:=λw E hE=>by
   have eh:=(eK.1 hE).1;rw[bs,eC,jK (by show(gS T.enc ((T.cur.ps.drop i).take k)).length<=V k+w;exact DS _ _)];have:V k+w-(gS T.enc ((T.cur.ps.drop i).take k)).length=w:=by show(gS T.enc ((T.cur.ps.drop i).take k)).length+w-_=w;omega
   rw[this,lV eh];exact hE
  have gg:V k+(bC T.enc q.2).length<=R.length:=by
   rw[bs,bM,bM,E6];show(gS T.enc ((T.cur.ps.drop i).take k)).length+_<=(gS T.enc ((T.cur.ps.drop i).take k)).length+_+_;omega
  let W:Nat->Prop:=λi=>own d.size 4 i\/((T.Z i\/i=a.block\/i=b.block)/\i<d.size)
  have hW:∀i,W i->i≠Y.block/\i≠A8.block/\i≠cc.block/\i<d.size+4:=λi hw=>by
   show i≠K.size/\i≠I.size/\i≠cc.block/\i<d.size+4;rcases hw with o|⟨a6|a6|a6,a5⟩
   .have:=o.1;have:=o.2;omega
   .have:=hz i a6;have:i≠cc.block:=λe=>b1 (e ▸ a6);omega
   .omega
   .omega
  refine dV (G:=Nat) (λw (r:Int×Unit) h'=>w<=(bC T.enc q.2).length/\r.1=dF ((bC T.enc q.2).take w)/\gU W h8 h'/\Eo (d.size+4) h' c q.1/\∃s,WJ S P n T h d.size m0 A1 A2 Y A8 cc see f R m cnt (V k+w) h' s/\V k+w-m<cnt) (λw=>(bC T.enc q.2).length-w)
   (λtg vs h'=>vs=[]/\gU W h8 h'/\((tg=4/\J (k+1) h')\/(tg=1/\F 1 h'))) 0 ⟨cS _,rfl,gU.refl _ _,ey,s,j,a5⟩ ?_ ?_
  .rintro w ⟨(at_:Int),u⟩ h9 ⟨hw,bt,H9,b9,s9,H,bb⟩
   dsimp only at bt⊢;subst bt;obtain⟨c6,b6⟩:=pG (enc:=T.enc) N w hw;have hle:=c6.le N;have e9:=H.t.cur.Cf q b4;have b2:Sw.cell h9 (c.add 0)=some (dG q.1.1):=aI.1 b9.cells 0 _ rfl;have b3:=a9.kZ.len;have hlen:=a9.len;refine aL rfl (aX (b:=.sl) (c.add 0) q.1.1 rfl b2 (aG (λhc=>?_) λhc=>?_))
   .rw[aV,aN,b3]at hc
    have g0:dF ((bC T.enc q.2).take w)<q.2.length:=by omega
    have U:=jJ (enc:=T.enc) (N.drop (dF ((bC T.enc q.2).take w))) (by rw[cZ];omega);rw[b6]at U;have B:w<(bC T.enc q.2).length:=by
     by_cases g:w<(bC T.enc q.2).length
     .exact g
     .rw[tY (by omega)]at U;cases U
    rw[gK B,Jq]at U;have ba:=Yn (enc:=T.enc) (q:=q) (cM B);have g3:=e8 _ (Cp B);have c8:=Pq (enc:=T.enc) N _ (Cp B);have cg:dF ((bC T.enc q.2).take (w+1))=dF ((bC T.enc q.2).take w)+(bC T.enc q.2)[w].2.toNat:=by
     rw[eG,cM B,iY];simp[dF]
    refine CZ (b:=.ptr) (x:=some T.p) H.o1 (Zr H.t (aL rfl (aX (b:=.sl) (c.add 0) q.1.1 rfl b2 (aM (PI M e9.kZ) λ⟨(x:Int),(sz:Int),_⟩ ft aw g=>?_))));have g:(x,sz)=eH T.enc (q.2.drop (dF ((bC T.enc q.2).take w))):=by
     rcases g with⟨ds,_,_⟩|⟨_,_,_,g⟩
     .rcases ds with h|h|h
      .exact absurd t.enc h
      .omega
      .omega
     .rw[cN]at g;exact g
    rw[<-U.1]at g;have ei:x=(bC T.enc q.2)[w].1:=congrArg Prod.fst g;have g6:sz=(bC T.enc q.2)[w].2:=congrArg Prod.snd g;dsimp only;generalize a3:((bC T.enc q.2)[w].1,if q.1.2.1<0 then (-1:Int) else q.1.2.1+(dF ((bC T.enc q.2).take w):Int))=E at ba;have cx:x=E.1:=by rw[ei,<-a3]
    have g4:=a9.tag;rw[cx];refine eN _ (jv (nr:=0) (W:=W) (tag:=q.1.2.1) (at_:=(dF ((bC T.enc q.2).take w):Nat)) (c:=c) (E:=E) hs (H.ext aw hz) dr hz b1 ⟨by show h.size≠K.size;have:=z.size;omega,by show h.size≠I.size;have:=z.size;omega,by show D.size≠K.size;omega,by show D.size≠I.size;omega,by show K.size≠I.size;omega⟩
     ⟨bL _,e1.size,by show h.size<=K.size;have:=z.size;omega,by show h.size<=I.size;have:=z.size;omega⟩ (c4 w E ba) bb ⟨b0.1,b0.2,by omega⟩ (b9.ext aw) rfl (by rw[<-a3]) ⟨by rw[<-a3];exact c8,by rw[<-a3,eO];dsimp only;split<;>omega,by omega,by omega⟩ hW) ?_
    rintro tg vs fv ⟨rfl,bd,ct,cd,b8,⟨rfl,ab⟩|⟨rfl,ab⟩⟩
    .have HH:=(H9.trans (gU.bH aw)).trans bd
     refine pY (by decide) (bK (bV ?_));rw[bG (by omega) (by omega)];refine aC ⟨λ_=>⟨w+1,(_,()),rfl,⟨B,?_,HH,ct,cd,b8,ab⟩,by omega⟩,λh=>absurd rfl h⟩;show _=((dF ((bC T.enc q.2).take (w+1)):Nat):Int);rw[cg];omega
    .have HH:=(H9.trans (gU.bH aw)).trans bd
     refine bK (bV (aC ⟨λh=>absurd h (by decide),λ_=>⟨rfl,HH, .inr ⟨rfl,rfl,cd,?_⟩⟩⟩));rw[<-ab];exact b8
   .rw[aZ,aN,b3]at hc
    have eg:w=(bC T.enc q.2).length:=by
     have:(bC T.enc q.2).drop w=[]:=by rw[<-b6];exact lT (by rw[cZ];omega)
     rw[Rv]at this;omega
    subst eg;refine aC ⟨λh=>absurd h (by decide),λ_=>⟨rfl,H9, .inl ⟨rfl,s9,?_⟩⟩⟩;show WJ S P n T h d.size m0 A1 A2 Y A8 cc see f R m cnt (V (k+1)) h9 s9/\V (k+1)-m<cnt;rw[c5];exact⟨H,bb⟩
  .rintro tg vs h9 ⟨rfl,H9,⟨rfl,H⟩|⟨rfl,f9⟩⟩
   .exact bK (bV (aC ⟨H9,λ_=>H,λh=>absurd rfl h⟩))
   .exact pY (by decide) (bK (bV (aC ⟨H9,λh=>absurd h (by decide),λ_=>f9⟩)))
 .intro k h8 dx g
  rcases g with⟨rfl,s,j,a5⟩|⟨gw,rfl,s,j⟩
  .exfalso
   have hV:V (T.cur.ps.drop i).length=R.length:=by
    show(gS T.enc ((T.cur.ps.drop i).take (T.cur.ps.drop i).length)).length=_;rw[fA,hR]
   rw[cN,hV]at a5;omega
  .refine bK (aC ⟨gU.refl _ _,λh9 c9 _=>?_⟩)
   have H:=al j (c9.mono λi _ o=>⟨o.1,by have:=o.2;omega⟩);refine⟨rfl,rfl,H.c,s,H.oc,?_⟩;have:=H.ol;rw[cr]at this;exact this
theorem au(M:jM P S)(C:Cl0 P S){n:Nat}{T:TX}(t:eM S n h T)(d:cR .i64 to):aS P (Ah S (some T.p) from_ to) [tS] h λ(y:Sl×Unit) h'=>bR h.size .i64 h' y.1 ((Ob (gS T.enc T.cur.ps) from_ to).map (·.1)):=by
 unfold Ah aS;refine NB _ λo c o1 u=>eU (Vk M C (t.ext c) (Xc C _) o1 c.size (λj=>by have:h.size<h.size:=(t.lo _ j).2;omega) d) λtg vs r g=>?_;obtain⟨rfl,rfl,c2,s,o2,ol⟩:=g;refine⟨rfl,(),rfl,CZ (b:=.sl) (x:=s) o2 (aC ⟨rfl,?_,(s,()),rfl,ol⟩)⟩;exact gG.oQ (c.aP (bL _)) c2 c.size λi e=>Nat.le_of_eq e.symm
theorem bf(M:jM P S)(C:Xv P S){n:Nat}{T:TX}(t:eM S n h T)(d:cR .i64 to):aS P (Bw S (some T.p) from_ to) [tS] h λ(y:Sl×Unit) h'=>bR h.size .i64 h' y.1 ((Ob (gS T.enc T.cur.ps) from_ to).map (·.2)):=by
 unfold Bw aS;refine NB _ λo c o1 u=>eU (Vk M C (t.ext c) (Xd C _) o1 c.size (λj=>by have:h.size<h.size:=(t.lo _ j).2;omega) d) λtg vs r g=>?_;obtain⟨rfl,rfl,c2,s,o2,ol⟩:=g;refine⟨rfl,(),rfl,CZ (b:=.sl) (x:=s) o2 (aC ⟨rfl,?_,(s,()),rfl,ol⟩)⟩;exact gG.oQ (c.aP (bL _)) c2 c.size λi e=>Nat.le_of_eq e.symm
end
section
variable{P:Program}{S:cG}{h:aE}{Q:Nat->bE->aE->Prop}
variable{l:aW}
theorem Xa{n:Nat}{k:IntKind}{s x:Sl}{old:aW}{K:Nat->aK}(c:bR n k h s old)(g:kB k h x l)(j:l.length=old.length)
  (d:∀h',bR n k h' s l->jE s h h'->wp P (K l.length) h' Q):wp P (.copy 1 s x K) h Q:=by
 cases l with
 |nil=>
  have h0:old=[]:=Aa j.symm;subst h0;have r:s.len=0:=c.len;have p:x.len=0:=g.len;have b:min x.len s.len=0:=by omega
  refine⟨[],?_,?_⟩
  .rw[b];have:=g.rd.G5;rw[p]at this;exact this
  .rw[b]
   cases hb:s.aD with
   |none=>exact d h c ⟨bL _,λ_ _ _=>rfl,λ_ e=>e⟩
   |some a=>exact⟨trivial,d h c ⟨bL _,λ_ _ _=>rfl,λ_ e=>e⟩⟩
 |cons y l=>
  have:=Zq (P:=P) (Q:=Q) (K:=K) (s:=s) (x:=x) (pre:=[]) (mid:=old) (post:=[]) (l:=y::l) (i:=0) (by simpa using c) g j (by simp) rfl λh' o u z=>d h' (by simpa using o) u;rw[eQ,show cV s.len 0=s.len from rfl,show cV s.cap 0=s.cap from rfl]at this;exact this
theorem KC(tag:Int):∀(a b:List (Int×Int)) (o:Nat),gT tag o (a++b)=gT tag o a++gT tag (o+dF a) b
 |[],b,o=>by simp[gT,dF]
 |x::a,b,o=>by simp only[DN,gT,KC tag a b,mM,Bg]
def Ld(enc:Int)(lo:Sl)(l:aW)(q:Pc):Prop:=∃a e:Nat,a<e/\e<=l.length/\q.2=(l.take e).drop a/\q.1=WY ⟨bF lo.aD e a 1,e-a,e-a⟩ a (bC enc q.2)
theorem YP{m:Nat}{T:TX}{enc:Int}{lo:Sl}{q:Pc}(ol:bR m .u8 h lo l)(z:T.enc=enc)(t:T.ad=⟨none,0,0⟩)(y:∀b,lo.aD=some b->T.Z b.block/\b.block≠T.p.block)(hlen:l.length<=65536)(D:Ld enc lo l q):AG h T q:=by
 obtain⟨a,e,E,w,r,o⟩:=D;have B:=ol.len;have A:=ol.kZ.cap;have C:=ol.kZ.max;have j:=(ol.kZ.take (n:=e) (m:=e) w (bL _) (by omega)).tail (i:=a) (by rw[dJ];omega);dsimp only at j;have G:q.2.length=e-a:=by rw[r,cZ,dJ];omega
 have hb:q.1.1=⟨bF lo.aD e a 1,e-a,e-a⟩:=by rw[o];rfl
 have ht:q.1.2.1=a:=by rw[o];rfl
 refine⟨by rw[hb,r];exact j,by omega,by rw[z,hb,ht];exact o,by rw[ht];omega,by omega,λx d=>?_⟩;rw[hb]at d;have d:bF lo.aD e a 1=some x:=d;unfold bF at d;rw[if_neg (by omega)]at d;cases g:lo.aD with
 |none=>rw[g]at d;simp at d
 |some b=>
  rw[g]at d;have d:b.add (a*1)=x:=dW d;subst d;rw[iA];exact⟨(y b g).1,(y b g).2,λc u=>by rw[t]at u;cases u⟩
inductive HM(S:cG)(h0 h:aE)(enc limit:Int)(l:aW):OA->Int->Prop where
 |enc:¬eE enc->HM S h0 h enc limit l none 10
 |arg:eE enc->¬(0<=limit/\limit<=65536)->HM S h0 h enc limit l none 1
 |full:eE enc->0<=limit/\limit<=65536->limit<l.length->HM S h0 h enc limit l none 50
 |ok (T:TX):eE enc->0<=limit/\limit<=65536->l.length<=limit->eM S h0.size h T->T.enc=enc->T.limit=limit->T.kept=[]->T.A=[]->gS enc T.cur.ps=gT 0 0 (bC enc l)->dK T.cur.ps=l->(∀i,T.Z i->h0.size<=i)->HM S h0 h enc limit l (some T.p) 0
theorem jk(M:jM P S){enc limit:Int}{b:Sl}(hb:kB .u8 h b l) :
  aS P (Ao S enc b limit) [tP, tI] h λ(y:OA×Int×Unit) h'=>HM S h h' enc limit l y.1 y.2.1:=by
 unfold Ao aS;have a3:=hb.len;have j:cA l:=hb.wf;refine bW (¬eE enc) ?_ λbb h1 e1 bt=>aG (λc=>aC ⟨rfl,e1,(none,10,()),rfl, .enc (bt.1 c)⟩) λc=>?_
 .unfold eE
  refine aG (λd=>aC ⟨rfl,Ext.refl _,true,rfl,?_⟩) λd=>aC ⟨rfl,Ext.refl _,_,rfl,?_⟩
  .rw[aV]at d;exact Iff.intro (λ_=>by omega) λ_=>rfl
  .rw[aZ]at d;rw[dQ];omega
 have he:eE enc:=by
  by_cases O:eE enc
  .exact O
  .rw[bt.2 O]at c;cases c
 refine bW (¬(0<=limit/\limit<=65536)) ?_ λbb h2 e2 b0=>aG (λc=>aC ⟨rfl,e1.trans e2,(none,1,()),rfl, .arg he (b0.1 c)⟩) λc=>?_
 .refine aG (λd=>aC ⟨rfl,Ext.refl _,true,rfl,?_⟩) λd=>aC ⟨rfl,Ext.refl _,_,rfl,?_⟩
  .rw[aV]at d;exact Iff.intro (λ_=>by omega) λ_=>rfl
  .rw[aZ]at d;rw[dQ];omega
 have V:0<=limit/\limit<=65536:=by
  by_cases O:0<=limit/\limit<=65536
  .exact O
  .rw[b0.2 O]at c;cases c
 have L:=e1.trans e2;refine aG (λd=>aC ⟨rfl,L,(none,50,()),rfl, .full he V (by rw[dQ,aN,a3]at d;omega)⟩) λd=>?_;rw[gC,aN,a3]at d;have ct:aQ b.len=(l.length:Int):=by rw[aN,a3]
 rw[ct];have a6:=oH (enc:=enc) j;have g0:=zF (enc:=enc) j;have al:=Ga (enc:=enc) j;refine Zx (k:=.u8) (by omega) (by omega) λh3 lo e3 cg=>Xa cg (hb.ext (L.trans e3)) (by simp) λo ba u4=>?_;have bs:Ext h2 o:=jE.jA e3 u4 (λa ha=>(cg.own.lt ha).1);have cr:=ba.len;refine λel=>?_;have e5:Ext o (o.push (.cells [aH enc,aH limit, .pointer none, .slice none 0 0].toArray el)):=Ext.push ..;have o5:cC o.size 1 (o.push (.cells [aH enc,aH limit, .pointer none, .slice none 0 0].toArray el)) ⟨some ⟨o.size,0,none⟩,4,4⟩ [aH enc,aH limit, .pointer none, .slice none 0 0]:=bX rfl (by decide) (by decide);generalize o.push (.cells [aH enc,aH limit, .pointer none, .slice none 0 0].toArray el)=h5 at e5 o5⊢;have c4:=(L.trans bs).trans e5;have K:=ba.ext e5;have ft:=K.kZ.cap;have fv:=K.kZ.max;refine dV (G:=Nat×List Pc) (λg (r:Sl×Int×Unit) h'=>g.1<=(bC enc l).length/\r.2.1=dF ((bC enc l).take g.1)/\Ext h5 h'/\yS h5.size h' r.1 (g.2.map (·.1))/\(∀q,q∈g.2->Ld enc lo l q)/\gS enc g.2=gT 0 0 ((bC enc l).take g.1)/\dK g.2=l.take (dF ((bC enc l).take g.1))/\g.2.length<=g.1) (λg=>(bC enc l).length-g.1)
  (λtg vs h'=>tg=3/\Ext h5 h'/\∃(s:Sl) (ps:List Pc),vs=[dG s]/\yS h5.size h' s (ps.map (·.1))/\(∀q,q∈ps->Ld enc lo l q)/\gS enc ps=gT 0 0 (bC enc l)/\dK ps=l) (0,[]) ⟨cS _,rfl,Ext.refl _,cC.nil _ _ _,(λq t=>by cases t),rfl,by simp[dK,dF],bL _⟩ ?_ ?_
 .rintro⟨k,ps⟩ ⟨(s:Sl),(at_:Int),u⟩ h6 ⟨O,b1,B,os,I,D,z,eg⟩
  dsimp only at O b1 os I D z eg⊢;subst b1;have c9:=pG (enc:=enc) j k O;have gv:=c9.1.le j;have c7:aQ lo.len=(l.length:Int):=by rw[aN,cr]
  rw[c7];refine aG (λd=>?_) λd=>?_
  .rw[aV]at d
   have gg:k<(bC enc l).length:=by
    by_cases c:k<(bC enc l).length
    .exact c
    .rw[iF (by omega),al]at d;omega
   have fj:=K.ext B;refine dV (G:=Nat) (λw (r:Int×Int×Unit) h'=>k+w<=(bC enc l).length/\w<=128/\r.1=dF ((bC enc l).take (k+w))/\r.2.1=w/\Ext h6 h') (λw=>(bC enc l).length-w)
    (λtg vs h'=>tg=5/\Ext h6 h'/\∃w,1<=w/\k+w<=(bC enc l).length/\vs=[aH (dF ((bC enc l).take (k+w)))]) 0 ⟨by omega,by omega,rfl,rfl,Ext.refl _⟩ ?_ ?_
   .rintro w ⟨(en:Int),(n:Int),u⟩ h7 ⟨H,hw,b3,hn,C⟩
    dsimp only at b3 hn⊢;subst b3;subst hn;obtain⟨a4,ei⟩:=pG (enc:=enc) j (k+w) H;have hle:=a4.le j;have fy:dF ((bC enc l).take k)<=dF ((bC enc l).take (k+w)):=by
     have:(bC enc l).take k=((bC enc l).take (k+w)).take k:=by rw[Jr,FK (by omega)]
     rw[this];exact vZ _ _
    refine bW (dF ((bC enc l).take (k+w))<l.length/\w<128) ?_ λbb N e8 b2=>aG (λc=>?_) λc=>?_
    .refine aG (λd=>aC ⟨rfl,Ext.refl _,_,rfl,?_⟩) λd=>aC ⟨rfl,Ext.refl _,false,rfl,?_⟩
     .rw[aV]at d⊢;omega
     .rw[aZ]at d;exact Iff.intro (λh=>by cases h) λh=>by omega
    .obtain⟨ds,gf⟩:=b2.1 c
     have ab:k+w<(bC enc l).length:=by
      by_cases c:k+w<(bC enc l).length
      .exact c
      .rw[iF (by omega),al]at ds;omega
     have b8:=jJ (enc:=enc) (j.drop (dF ((bC enc l).take (k+w)))) (by rw[cZ];omega);rw[ei,gK ab,Jq]at b8;have gw:=a6 _ (Cp ab);have cx:dF ((bC enc l).take (k+(w+1)))=dF ((bC enc l).take (k+w))+(bC enc l)[k+w].2.toNat:=by
      rw[show k+(w+1)=(k+w)+1 by omega,eG,cM ab,iY];simp[dF]
     refine aM (PI M (fj.ext (C.trans e8)).kZ) λ⟨(x:Int),(sz:Int),_⟩ h9 e9 ao=>?_;have ao:(x,sz)=eH enc (l.drop (dF ((bC enc l).take (k+w)))):=by
      rcases ao with⟨a5,_,_⟩|⟨_,_,_,c⟩
      .rcases a5 with h|h|h
       .exact absurd he h
       .omega
       .omega
      .rw[cN]at c;exact c
     rw[<-b8.1]at ao;have g2:sz=(bC enc l)[k+w].2:=congrArg Prod.snd ao;dsimp only;rw[bG (by omega) (by omega),bG (a:=(w:Int)) (by omega) (by omega)];refine aC ⟨λ_=>⟨w+1,(_,_,()),rfl,⟨by omega,by omega,?_,by dsimp only;omega,(C.trans e8).trans e9⟩,by omega⟩,λh=>absurd rfl h⟩;dsimp only;rw[cx];omega
    .have a5:¬(dF ((bC enc l).take (k+w))<l.length/\w<128):=λk=>by rw[b2.2 k]at c;cases c
     refine aC ⟨λh=>absurd h (by decide),λ_=>⟨rfl,C.trans e8,w,?_,H,rfl⟩⟩;by_cases h0:w=0
     .subst h0;exact absurd ⟨by rw[FF];omega,by omega⟩ a5
     .omega
   .rintro tg vs h7 ⟨rfl,C,w,g1,H,rfl⟩
    refine bK (gZ ?_);have a4:=(pG (enc:=enc) j (k+w) H).1;have hle:=a4.le j;have cf:=Gb (enc:=enc) j (k+w) H;have Y:((bC enc l).take (k+w)).take k=(bC enc l).take k:=by rw[Jr,FK (by omega)]
    have bo:=iY (((bC enc l).take (k+w)).take k) (((bC enc l).take (k+w)).drop k);rw[eX,Y]at bo;have gm:=IQ (((a6.take (k+w)).drop k)) (by rw[cZ,dJ];omega);have cd:=(pG (enc:=enc) (j.take (dF ((bC enc l).take (k+w)))) k (by rw[cf,dJ];omega)).2;rw[cf,Y]at cd;generalize hA:dF ((bC enc l).take k)=A at *;generalize hE:dF ((bC enc l).take (k+w))=E at *;have c6:A<E:=by omega
    have tA:bP (A:Int)=A:=by rw[eR];omega
    have tE:bP (E:Int)=E:=by rw[eR];omega
    dsimp only;refine sD (fD.2 ⟨iQ (by omega) (by omega),fD.2 ⟨iQ (by omega) (by rw[tE];omega),iQ (by omega) (by rw[tE];omega)⟩⟩) ?_;rw[tA,tE];have fl:=(K.ext B).ext C;have b4:=(fl.kZ.take (n:=E) (m:=E) hle (bL _) (by omega)).tail (i:=A) (by rw[dJ];omega);dsimp only at b4;refine aM (FV M he (tag:=(A:Int)) b4 (by rw[cZ,dJ];omega)) λ⟨(y:Part),_⟩ N e8 hy=>?_;have hy:y=WY ⟨bF lo.aD E A 1,E-A,E-A⟩ A (bC enc ((l.take E).drop A)):=hy;dsimp only;have a0:=C.trans e8;have eh:=yS.len os;rw[cD]at eh;refine LG (n:=h5.size) (new:=Bs.inj PB y) (os.ext a0) (dI B.size a0.size) rfl (wN _) rfl (by show(s.len+1)*64<=_;omega) (by omega) λr h9 a9 b9 u9 d9=>aC ⟨λ_=>⟨(k+w,ps++[(y,(l.take E).drop A)]),(r,(E:Int),()),rfl,⟨H,by dsimp only;rw[hE],?_,?_,?_,?_,?_,by dsimp only;rw[bM];simp;omega⟩,by dsimp only;omega⟩,λh=>absurd rfl h⟩
    .exact jE.jA (B.trans a0) u9 (λa ha=>(os.lt ha).1)
    .rw[dL]
     show cC h5.size 7 h9 r (cP (_++[y]));rw[FU,PG];exact a9
    .intro q t
     rcases dD.1 t with t|t
     .exact I q t
     .rw[dE.1 t]
      exact⟨A,E,c6,hle,rfl,hy⟩
    .dsimp only
     rw[pB,Is,D];have h1:(bC enc l).take (k+w)=(bC enc l).take k++((bC enc l).take (k+w)).drop k:=by rw[<-Y,eX]
     conv=>rhs;rw[h1]
     rw[KC,hA]
     congr 1
     unfold yU;dsimp only;rw[cd,hy];show gT (A:Int) 0 _=_;have:(A:Int)=JZ 0 A:=by unfold JZ;simp
     rw[this,MC]
    .dsimp only
     rw[sV,z,hE];have:l.take A=(l.take E).take A:=by rw[Jr,FK (by omega)]
     rw[this];simp[dK,eX]
  .rw[aZ]at d
   have df:k=(bC enc l).length:=by
    by_cases c:k<(bC enc l).length
    .have h1:=iY ((bC enc l).take k) ((bC enc l).drop k)
     rw[eX,al]at h1;have:=IQ (a6.drop k) (by rw[cZ];omega);omega
    .omega
   subst df;rw[fA]at D z;rw[al,fA]at z;exact aC ⟨λh=>absurd h (by decide),λ_=>⟨rfl,B,s,ps,rfl,os,I,D,z⟩⟩
 .rintro tg vs h6 ⟨rfl,B,s,ps,rfl,os,I,D,z⟩
  refine bK (B6 (tys:=[tS]) (s,()) rfl ?_);dsimp only;have bp:=c4.trans B;have J:∀b,lo.aD=some b->h.size<=b.block/\b.block<o.size:=λb hb=>by have:=ba.own.lt hb;have:=L.size;omega
  have aw:=L.trans bs
  let Z:Nat->Prop:=λi=>h.size<=i
  let T0:TX:={p:=⟨o.size,0,none⟩,enc:=enc,limit:=limit,cur:=⟨none, .nil,ps⟩,kept:=[],ad:=⟨none,0,0⟩,A:=[],Z:=Z}
  have bd:∀q,q∈ps->AG h6 T0 q:=λq t=>YP (K.ext B) rfl rfl (λb hb=>⟨(J b hb).1,by show b.block≠o.size;have:=(J b hb).2;omega⟩) (by omega) (I q t);have er:∀x,x∈ps.map (·.1)->VS (VZ x) (I5 x):=λx c=>by
   obtain⟨q,t,rfl⟩:=dC.1 c;exact(bd q t).wt.2
  have ey:OK (part S Z) h6 s (ps.map (·.1)):=Vz os er;have de:oC (part S Z) h6:=λi hi=>dI bp.size hi;have c8:((ps.map (·.1)).map VZ).sum=(cK enc ps).length:=ja bd;have dx:=(Fz (enc:=enc) λq t=>(bd q t).bytes).1;rw[z]at dx;have b6:=vc (B1 S Z (P:=P)) ey (show(part S Z).W (ps.map (·.1))<=4398046511104 from by
   have:(part S Z).W (ps.map (·.1))=(cK enc ps).length:=c8;rw[this];omega) de
  rw[<-vg S Z]at b6;refine aM (R:=λ(y:TR×Unit) h'=>∃U:Bt Part,Nd (part S Z) h' y.1.1 U/\U.list=ps.map (·.1)) (aS.mono b6 λy h' e ⟨U,q1,q2,_⟩=>⟨U,q1,q2⟩) λ⟨⟨(root:OA),_⟩,_⟩ h7 C ⟨U,nd,dr⟩=>?_;have nd:Nd (part S Z) h7 root U:=nd;dsimp only;have o7:=o5.ext (B.trans C);refine eW (.pointer root) o7 (by simp) rfl λN o8 u8=>?_;have o8:cC o.size 1 N ⟨some ⟨o.size,0,none⟩,4,4⟩ [aH enc,aH limit, .pointer root, .slice none 0 0]:=o8;have c5:Ext h N:=jE.jA (bp.trans C) u8 (by intro x c;cases c;exact aw.size);have fm:bR h2.size .u8 N lo l:=((K.ext B).ext C).GS u8 λx y c hy=>by cases hy;have:=(J x c).2;show o.size≠x.block;omega
  have ec:o.size<N.size:=(o8.lt rfl).2
  let T:TX:={p:=⟨o.size,0,none⟩,enc:=enc,limit:=limit,cur:=⟨root,U,ps⟩,kept:=[],ad:=⟨none,0,0⟩,A:=[],Z:=λi=>h.size<=i/\i<N.size}
  have e4:Nd (part S Z) N root U:=nd.US u8 λb hb=>by
   cases hb;have:=aI.1 o7.cells 0 _ rfl;rw[add_zero']at this;exact⟨_,_,this⟩
  refine aC ⟨rfl,c5,(some ⟨o.size,0,none⟩,0,()),rfl, .ok T he V (by omega) ⟨he,V,o8.mono aw.size,bR.nil _ _ _,λb hb=>(by cases hb),λb hb=>(by cases hb),⟨xL e4 λi hi hz=>⟨hz,hi⟩,dr,λq t=>YP fm rfl rfl (λb hb=>⟨⟨(J b hb).1,by have:=(J b hb).2;omega⟩,by show b.block≠o.size;have:=(J b hb).2;omega⟩) (by omega) (I q t),?_⟩,λs hs=>(by cases hs),⟨aw.size,ec⟩,λb hb=>(by cases hb),λi hi=>hi⟩ rfl rfl rfl rfl D z λi hi=>hi.1⟩;show(dK ps).length<=_;rw[z];omega
end
section
variable{P:Program}{S:cG}{h:aE}{Q:Nat->bE->aE->Prop}
abbrev Gr(n:Nat)(h:aE)(a:Addr)(of:Addr)(s:St):Prop:=cC n 1 h ⟨some a,2,2⟩ [.pointer (some of), .pointer s.root]
theorem eM.aP{n:Nat}{T:TX}(r:eM S n h T):eM S n h {T with kept:=T.cur::T.kept}:=by
 have d:∀{q},AG h T q->AG h {T with kept:=T.cur::T.kept} q:=λq=>⟨q.kZ,q.ne,q.is,q.tag,q.len,q.Mk⟩;have st:∀{s},K1 S h T s->K1 S h {T with kept:=T.cur::T.kept} s:=λs=>⟨s.nd,s.ls,λq c=>d (s.Cf q c),s.small⟩;refine⟨r.enc,r.Bp,r.ob,r.ad,r.Z0,r.ph,st r.cur,λs b=>?_,r.zp,r.za,r.lo⟩;rcases eJ.1 b with rfl|b
 .exact st r.cur
 .exact st (r.kept s b)
theorem XU{n:Nat}{T:TX}(t:eM S n h T):aS P (yM S (some T.p)) [tP] h λ(y:OA×Unit) h'=>∃a,y.1=some a/\Gr h.size h' a T.p T.cur:=by
 unfold yM aS;refine tX t λel=>?_;have b:Ext h (h.push (.cells [.pointer (some T.p), .pointer T.cur.root].toArray el)):=Ext.push ..;have o1:cC h.size 1 (h.push (.cells [.pointer (some T.p), .pointer T.cur.root].toArray el)) ⟨some ⟨h.size,0,none⟩,2,2⟩ [.pointer (some T.p), .pointer T.cur.root]:=bX rfl (by decide) (by decide);exact aC ⟨rfl,b,(some ⟨h.size,0,none⟩,()),rfl,_,rfl,o1⟩
theorem TP{n k:Nat}{T:TX}{a:Addr}{s:St}(t:eM S n h T)(u:n<=h.size)(w:s∈T.kept)(sn:Gr k h a T.p s) :
  wp P (uA S (some T.p) (some a)) h λtg vs h'=>tg=0/\vs=[aH 0]/\aY (rF T) h h'/\∃T',eM S n h' T'/\L8 T T' h.size/\T'.cur=s/\T'.A=T.A:=by
 unfold uA;refine bW False (lI (aL rfl (aL rfl (aX (b:=.ptr) (a.add 0) (some T.p) rfl (aI.1 sn.cells 0 _ rfl) ?_)))) λz o d hb=>aG (λx=>(hb.1 x).elim) λ_=>?_
 .refine .inl ⟨rfl,aC ⟨rfl,Ext.refl _,_,rfl,?_⟩⟩
  have:(T.p == T.p)=true:=by simp
  rw[this];exact Iff.intro (λh=>by cases h) False.elim
 .have t1:=t.ext d
  have s1:=sn.ext d;refine aL rfl (aL rfl ⟨a.add 1,rfl,(s.root,()),aI.2 λj v c=>?_,?_⟩)
  .match j,c with
   |0,c=>simp[Ty.cells,Bs.inj]at c;subst c;rw[add_zero'];exact aI.1 s1.cells 1 _ rfl
   |j+1,c=>simp[Ty.cells,Bs.inj]at c
  .refine aL rfl (aL rfl (eW (.pointer s.root) t1.ob (by simp) rfl λr o2 g=>?_))
   have st:=t1.kept s w;have o2:cC n 1 r ⟨some T.p,4,4⟩ [aH T.enc,aH T.limit, .pointer s.root,dG T.ad]:=o2;have y:=Pm (T:=T) (ps':=s.ps) t1 (m:=o.size) (λi hi=>(t1.lo i hi).2) ⟨dI u d.size,bL _⟩ (xL st.nd λi _ hi=>.inl hi) st.ls st.Cf st.small o2 g;refine aC ⟨rfl,rfl,?_,_,y,⟨rfl,rfl,rfl,rfl,λi hi=>⟨.inl hi,by have:=(t1.lo i hi).2;have:=g.1;omega⟩,λi hi=>hi.1.imp id λh=>by have:=d.size;omega,λb hb=>.inl hb⟩,rfl,rfl⟩;exact(aY.bH d).trans (pH g) λi _ e=>.inl e
end
end Go.Sw.Piece
namespace Go.Sw.Hist
open Go.Sw.Any Go.Sw.Codec Go.Sw.Piece
open Go.Sw.Tree (iv fL jI jW nE pD kT sG kP dV lA)
section
variable{P:Program}{S:cG}{h:aE}{Q:Nat->bE->aE->Prop}
abbrev RK:Sh:=.str (.pair (.int .i64) (.pair (.int .i64) (.pair (.int .i64) .unit)))
abbrev mE:=Int×Int×Int×Unit
abbrev Xw:=Sl×List mE
def Lu(e:mE)(s:Int×Bool):Int×Bool:=
 if s.1<e.1 then s else if e.2.1<=s.1 then (s.1+(e.2.2.1-(e.2.1-e.1)),s.2) else (e.1+min (s.1-e.1) e.2.2.1,false)
def qL(m:Int)(l:List mE):Int×Bool:=l.foldr Lu (m,true)
def KX(l:List mE):Prop:=l.length<=131072/\∀e∈l,0<=e.1/\e.1<=e.2.1/\e.2.1<=2199023255552/\0<=e.2.2.1/\e.2.2.1<=2199023255552
theorem KX.tail{e:mE}{l:List mE}(b:KX (e::l)):KX l:=⟨by have:=b.1;simp at this;omega,λx c=>b.2 x (dZ _ c)⟩
theorem KX.drop{l:List mE}(b:KX l)(i:Nat):KX (l.drop i):=⟨by have:=b.1;rw[cZ];omega,λx c=>b.2 x (Bi c)⟩
theorem CJ{m:Int}(h0:0<=m)(h1:m<=2199023255552):∀{l:List mE},KX l->0<=(qL m l).1/\(qL m l).1<=4398046511104+l.length*2199023255552
 |[],_=>by simp[qL];omega
 |e::l,b=>by
  have d:=CJ h0 h1 b.tail;have hb:=b.2 e (cX ..);have c:qL m (e::l)=Lu e (qL m l):=rfl;rw[c];unfold Lu;rw[fF];push_cast;split
  .omega
  .split
   .dsimp only;omega
   .dsimp only;omega
theorem tj{x:Xw}{e:mE}{j:Int}{K:Addr->aK}(p:(Sh.list RK).ok h x)(h0:0<=j)(g:x.2[j.toNat]?=some e)
  (o:∀a h',Ext h h'->cC h.size 1 h' ⟨some a,3,3⟩ [aH e.1,aH e.2.1,aH e.2.2.1]->wp P (K a) h' Q) :
  wp P (bD (bN (aJ x.1.aD) (eV j x.1.len))<|.load (.agg [.int .i64, .int .i64, .int .i64]) (aB x.1.aD (bB (bP j) 3)) λ(r:Int×Int×Int×Unit)=>
   .alloc [aH 0,aH 0,aH 0] λa=>.store (some a) [aH r.1,aH r.2.1,aH r.2.2.1] (K a)) h Q:=by
 refine QQ (e:=RK) (x:=x) p h0 g rfl (z:=(e.1,e.2.1,e.2.2.1,())) rfl ?_;dsimp only;refine λelem=>?_;have b:Ext h (h.push (.cells [aH 0,aH 0,aH 0].toArray elem)):=Ext.push ..;have o1:cC h.size 1 (h.push (.cells [aH 0,aH 0,aH 0].toArray elem)) ⟨some ⟨h.size,0,none⟩,3,3⟩ [aH 0,aH 0,aH 0]:=bX rfl (by decide) (by decide);generalize h.push (.cells [aH 0,aH 0,aH 0].toArray elem)=w at b o1⊢;exact DE [aH e.1,aH e.2.1,aH e.2.2.1] o1 rfl (by intro v c;simp only[eJ,lU,or_false]at c;rcases c with rfl|rfl|rfl<;>rfl) λd o2 u y=>
  o _ d (jE.jA b u (by intro x t;cases t;exact bL _)) o2
theorem I2{n:Nat}{a:Addr}{e:mE}(o:cC n 1 h ⟨some a,3,3⟩ [aH e.1,aH e.2.1,aH e.2.2.1]) :
  (∀{K:Int->aK},wp P (K e.1) h Q->wp P (.load (tI) (aB (some a) 0) K) h Q)/\(∀{K:Int->aK},wp P (K e.2.1) h Q->wp P (.load (tI) (aB (some a) 1) K) h Q) /\
  (∀{K:Int->aK},wp P (K e.2.2.1) h Q->wp P (.load (tI) (aB (some a) 2) K) h Q):=
 ⟨λc=>aX (b:=bI) _ e.1 rfl (aI.1 o.cells 0 _ rfl) c,λc=>aX (b:=bI) _ e.2.1 rfl (aI.1 o.cells 1 _ rfl) c,
  λc=>aX (b:=bI) _ e.2.2.1 rfl (aI.1 o.cells 2 _ rfl) c⟩
theorem X7{x:Xw}{m:Int}(K:(Sh.list RK).ok h x)(hb:KX x.2)(h0:0<=m)(h1:m<=2199023255552) :
  aS P (qT S m x.1) [tI, tB] h λ(y:Int×Bool×Unit) _=>y.1=(qL m x.2).1/\y.2.1=(qL m x.2).2:=by
 have M:=K.len;have hlen:=hb.1;unfold qT aS;have hn:bJ .i64 (aQ x.1.len) 1=(x.2.length:Int)-1:=by rw[aN,M];exact cY (by omega) (by omega)
 rw[hn];refine bO (λ(s:Int×Bool×Int×Unit) h'=>Ext h h'/\∃i:Nat,i<=x.2.length/\s.2.2.1=(i:Int)-1/\s.1=(qL m (x.2.drop i)).1/\s.2.1=(qL m (x.2.drop i)).2) (λs _=>(s.2.2.1+1).toNat)
  (λt vs h'=>Ext h h'/\t=2/\vs=[aH (qL m x.2).1, .bool (qL m x.2).2]) ⟨Ext.refl _,x.2.length,bL _,rfl,by simp[qL],by simp[qL]⟩ ?_ ?_
 .rintro⟨(p:Int),(A:Bool),(i':Int),u⟩ h2 ⟨B,i,hi,z,hm,g⟩
  dsimp only at z hm g⊢;subst z;refine aG (λD=>?_) λD=>?_
  .rw[dT]at D
   obtain⟨j,rfl⟩:∃j,i=j+1:=⟨i-1,by omega⟩;have hj:(((j+1:Nat):Int)-1)=(j:Int):=by omega
   rw[hj];obtain⟨e,he⟩:∃e,x.2[j]?=some e:=⟨x.2[j]'(by omega),cM (by omega)⟩;have c:x.2.drop j=e::x.2.drop (j+1):=by
    have J:=(eK.1 he).1;rw[<-(eK.1 he).2,<-gK J]
   have I:qL m (x.2.drop j)=Lu e (qL m (x.2.drop (j+1))):=by rw[c];rfl
   have al:=hb.2 e (eL he);have H:=CJ h0 h1 (hb.drop (j+1));have ao:(x.2.drop (j+1)).length<=131072:=(hb.drop (j+1)).1;rw[<-hm]at H;have ab:p<=4398046511104+131072*2199023255552:=by omega
   refine xN ?_;refine tj (K.ext B) (by omega) (by simpa using he) λa Z V o3=>?_;have fin:∀(v:Int×Bool),Lu e (qL m (x.2.drop (j+1)))=v->∀C,Ext Z C ->
     wp P (aR (jC 0 0) (.cast [tI, tB] [aH v.1, .bool v.2] λ(r:Int×Bool×Unit)=>.ret 0 [aH r.1, .bool r.2.1,aH (bJ .i64 (j:Int) 1)]) .fail) C (λtag vs h'=>
      (tag=0->∃b,vs=Ts.inj [tI, tB, tI] b/\(Ext h h'/\∃i:Nat,i<=x.2.length/\b.2.2.1=(i:Int)-1/\b.1=(qL m (x.2.drop i)).1/\b.2.1=(qL m (x.2.drop i)).2)/\(b.2.2.1+1).toNat<((j:Int)+1).toNat) /\
      (tag≠0->Ext h h'/\tag=2/\vs=[aH (qL m x.2).1, .bool (qL m x.2).2])):=by
    intro v L C W;refine bK ⟨(v.1,v.2,()),rfl,?_⟩;dsimp only;rw[cY (by omega) (by omega)];refine aC ⟨λ_=>⟨(v.1,v.2,(j:Int)-1,()),rfl,⟨(B.trans V).trans W,j,by omega,rfl,by rw[I,L],by rw[I,L]⟩,by dsimp only;omega⟩,λE=>absurd rfl E⟩
   obtain⟨o,N,O⟩:=I2 (P:=P) (Q:=λt vs h'=>wp P ((λ(G:Nat) (w:bE)=>aR (jC G 0) (.cast [tI, tB] w λ(r:Int×Bool×Unit)=>.ret 0 [aH r.1, .bool r.2.1,aH (bJ .i64 (j:Int) 1)]) .fail) t vs) h' (λtag vs h'=>
      (tag=0->∃b,vs=Ts.inj [tI, tB, tI] b/\(Ext h h'/\∃i:Nat,i<=x.2.length/\b.2.2.1=(i:Int)-1/\b.1=(qL m (x.2.drop i)).1/\b.2.1=(qL m (x.2.drop i)).2)/\(b.2.2.1+1).toNat<((j:Int)+1).toNat) /\
      (tag≠0->Ext h h'/\tag=2/\vs=[aH (qL m x.2).1, .bool (qL m x.2).2]))) o3
   have Y:qL m (x.2.drop (j+1))=(p,A):=by rw[hm,g]
   rw[Y]at fin;refine o (aG (λc=>aC (fin (p,A) ?_ _ (Ext.refl _))) λc=>N (aG (λd=>O (N (o ?_))) λd=>o (o (O ?_))))
   .rw[aV]at c;unfold Lu;rw[if_pos c]
   .rw[aZ]at c
    rw[dT]at d;rw[cY (a:=e.2.1) (by omega) (by omega),cY (by omega) (by omega),bG (by omega) (by omega)];refine aC (fin (_,A) ?_ _ (Ext.refl _));unfold Lu;rw[if_neg (by omega),if_pos d]
   .rw[aZ]at c
    rw[fC]at d;rw[cY (a:=p) (by omega) (by omega),lA,bG (by omega) (by omega)];refine aC (fin (_,false) ?_ _ (Ext.refl _));unfold Lu;rw[if_neg (by omega),if_neg (by omega)]
  .rw[fC]at D
   have:i=0:=by omega
   subst this;refine aC ⟨λE=>absurd E (by decide),λ_=>⟨B,rfl,?_⟩⟩;rw[hm,g];rfl
 .rintro t vs h' ⟨U,rfl,rfl⟩
  exact bK ⟨((qL m x.2).1,(qL m x.2).2,()),rfl,aC ⟨rfl,U,((qL m x.2).1,(qL m x.2).2,()),rfl,rfl,rfl⟩⟩
end
section
variable{P:Program}{S:cG}{h:aE}{Q:Nat->bE->aE->Prop}
variable{told l:fR}
def Bn(x:List mE)(l:fR):fR:=l.map λe=>(e.1,(qL e.2.1 x).1,e.2.2)
def wv(x:List mE)(v:Int):Int:=if v<0 then v else if (qL v x).2 then (qL v x).1 else -1
def kX(x:List mE)(ws:aW):aW:=ws.map (wv x)
def Ad(m:Nat)(w:Sl)(i:Nat):Prop:=i=m\/∃a,w.aD=some a/\a.block=i
open Classical in
noncomputable def half(g:Int->Int)(told:fR)(l:fR):fR:=l.map λe=>if e∈told then (e.1,g e.2.1,e.2.2) else e
theorem YI(g:Int->Int)(l:fR):half g [] l=l:=by simp[half]
theorem Sx{g:Int->Int}(b:told.Perm l):half g told l=l.map λe=>(e.1,g e.2.1,e.2.2):=by
 unfold half;refine Js λe he=>?_;rw[if_pos (b.mem_iff.2 he)]
theorem JF(g:Int->Int)(told l:fR):(half g told l).map (λe=>(e.1,e.2.2))=l.map (λe=>(e.1,e.2.2)):=by
 unfold half;rw[sL];refine Js λe he=>?_;simp only[Function.comp];split<;>rfl
theorem OZ{g:Int->Int}{e:Int×Int×Nat}(he:e∈l)(b:e∉told):e∈half g told l:=by
 unfold half;exact dC.2 ⟨e,he,if_neg b⟩
theorem WZ{g:Int->Int}:∀{l:fR} {e:Int×Int×Nat},(l.map (·.1)).Nodup->e∈l->Fm e.1 (g e.2.1) (half g told l)=half g (told++[e]) l:=by
 intro l
 induction l with
 |nil=>intro e _ he;cases he
 |cons a l t=>
  intro e c he;simp only[fK,Cl]at c;have e0:half g told (a::l)=(if a∈told then (a.1,g a.2.1,a.2.2) else a)::half g told l:=rfl;have o:half g (told++[e]) (a::l)=(if a∈told++[e] then (a.1,g a.2.1,a.2.2) else a)::half g (told++[e]) l:=rfl;rw[e0,o];have p:(if a∈told then (a.1,g a.2.1,a.2.2) else a).1=a.1:=by split<;>rfl
  have hb:(if a∈told then (a.1,g a.2.1,a.2.2) else a).2.2=a.2.2:=by split<;>rfl
  simp only[Fm,p,hb];by_cases ha:a.1=e.1
  .rw[if_pos ha]
   have b:a=e:=by
    rcases eJ.1 he with h|h
    .exact h.symm
    .exact absurd (by rw[ha];exact wF (f:=(·.1)) h) c.1
   subst b;rw[if_pos (dD.2 (.inr (dE.2 rfl)))]
   congr 1
   unfold half;refine Js λx r=>?_;have j:x≠a:=λh=>c.1 (by rw[<-h];exact wF (f:=(·.1)) r);simp only[dD,dE,j,or_false]
  .rw[if_neg ha]
   have d:e∈l:=by
    rcases eJ.1 he with h|h
    .exact absurd (by rw[h]) ha
    .exact h
   rw[t c.2 d]
   congr 1
   have b:a≠e:=λh=>ha (by rw[h]);simp only[dD,dE,b,or_false]
theorem cq{g:Int->Int}{c:Nat}(o:Cx l c)(p:∀e∈l,cR .i64 (g e.2.1)):Cx (half g told l) c:=by
 obtain⟨d,j⟩:=map_fst (JF g told l);refine⟨by rw[d];exact o.keys,by rw[j];exact o.OL,λe he=>?_,λe he=>?_⟩
 .obtain⟨x,b,rfl⟩:=dC.1 he
  have:=o.old x b;split<;>exact this
 .obtain⟨x,b,rfl⟩:=dC.1 he
  have:=o.fk x b;split
  .exact⟨this.1,p x b⟩
  .exact this
theorem X6{n E:Nat}{b:Addr}{vs:bE}{m:Nat}{w:Sl}{ws:aW}{x:Xw}(ob:cC n 1 h ⟨some b,10,10⟩ vs)(h4:vs[4]?=some (.map (some m)))(h5:vs[5]?=some (dG w))
  (hm:sS h m l) (hw:bR E .i64 h w ws) (bs:∀a,w.aD=some a->a.block≠b.block) (O:∀h',aY (Ad m w) h h'->(Sh.list RK).ok h' x) (hb:KX x.2)
  (hl:∀e∈l,0<=e.2.1/\e.2.1<=2199023255552) (b6:∀v∈ws,v<=2199023255552) :
  Ev (Ad m w) P (lE S (some b) x.1) [] h λ_ h'=>sS h' m (Bn x.2 l)/\bR E .i64 h' w (kX x.2 ws):=by
 unfold lE Ev;have bp:m≠b.block:=by
  intro e;obtain⟨c,d,_⟩:=hm;obtain⟨_,_,_,o4⟩:=ob;obtain⟨_,_,_,cs,el,B,_⟩:=o4;rw[e]at d;rw[d]at B;cases B
 have a4:∀a,w.aD=some a->a.block≠m:=by
  intro a ha e;obtain⟨c,d,_⟩:=hm;obtain⟨_,_,_,o4⟩:=hw.own;rw[ha]at o4;obtain⟨_,_,_,cs,el,B,_⟩:=o4;rw[e,d]at B;cases B
 have al:¬Ad m w b.block:=λhf=>by
  rcases hf with h|⟨a,ha,h⟩
  .exact bp h.symm
  .exact bs a ha h
 have b9:vs.length=10:=by have:=ob.1;simpa using this.symm
 have a5:∀{h':aE} {K:Option Nat->aK} {Q:Nat->bE->aE->Prop},aY (Ad m w) h h'->wp P (K (some m)) h' Q->wp P (.load (.one .map) (aB (some b) 4) K) h' Q:=λu hk=>
  aX (b:=.map) (b.add 4) (some m) rfl (aI.1 (u.own ob (by intro a ha;cases ha;exact al)).cells 4 _ h4) hk
 have a6:∀{h':aE} {K:Sl->aK} {Q:Nat->bE->aE->Prop},aY (Ad m w) h h'->wp P (K w) h' Q->wp P (.load (tS) (aB (some b) 5) K) h' Q:=λu hk=>
  aX (b:=.sl) (b.add 5) w rfl (aI.1 (u.own ob (by intro a ha;cases ha;exact al)).cells 5 _ h5) hk
 have bo:∀{h':aE} {K:aK} {Q:Nat->bE->aE->Prop},aY (Ad m w) h h'->wp P K h' Q->wp P (.check (aB (some b) 4) [.map (some m)] K) h' Q:=λu hk=>
  sC (aI.1 (u.own ob (by intro a ha;cases ha;exact al)).cells 4 _ h4) hk
 have Z:∀v,0<=v->v<=2199023255552->cR .i64 (qL v x.2).1:=λv h0 d=>by
  have:=CJ h0 d hb;have:=hb.1;rw[eO];omega
 refine aL rfl (aL rfl (a5 (aY.refl _ _) ?_));have b1:=hm;obtain⟨c,C,ok⟩:=hm;have b2:=(zY.1 C).1;refine Pt (m:=m) (l:=l) b1 (by decide) (λtold d=>aY (λi=>i=m) h d/\∃c,d[m]?=some (mU (half (λv=>(qL v x.2).1) told l) c)/\h[m]?=some (mU l c))
  (λtold d ⟨_,c,A,D⟩=>⟨c,_,A,D,JF _ _ _,λe he hn=>OZ he hn⟩) (λtold d L ⟨u,c,A,D⟩ v=>⟨u.trans v λi hi e=>by omega,c,by rw[v.2.1 m (zY.1 A).1 (by omega)];exact A,D⟩)
  (λd e1 z1=>⟨aY.bH e1,c,by rw[e1.2.1 m b2,YI];exact C,C⟩) (λtold e d ⟨u,j,A,D⟩ o he b3=>?_) λtold d hp ⟨u,j,A,D⟩=>?_
 .have W:aY (Ad m w) h d:=u.mono λi _ hi=>.inl hi
  have G:=hl e he;have ab:j=c:=by
   have:mU l j=mU l c:=dW (D.symm.trans C);unfold mU at this;injection this
  subst ab;refine aL rfl (aL rfl (a5 W ?_));refine aM (X7 (m:=e.2.1) (O d W) hb G.1 G.2) λ⟨(r:Int),(hr:Bool),_⟩ L Y U=>?_;obtain⟨p, -⟩:=U;have p:r=(qL e.2.1 x.2).1:=p;subst p;dsimp only;refine bo (W.ext Y) ?_;have b8:iX e.1 (half (λv=>(qL v x.2).1) told l)=some e.2.1:=by
   obtain⟨k1,k2⟩:=map_fst (JF (λv=>(qL v x.2).1) told l);rw[Hg (by rw[k1];exact ok.keys)];exact⟨e.2.2,OZ he b3⟩
  have g3:L[m]?=some (mU (half (λv=>(qL v x.2).1) told l) j):=by rw[Y.2.1 m (zY.1 A).1];exact A
  have ba:IM e.1 (qL e.2.1 x.2).1 (half (λv=>(qL v x.2).1) told l) j=mU (half (λv=>(qL v x.2).1) (told++[e]) l) j:=by
   unfold IM;rw[b8];exact congrArg (λz=>mU z j) (WZ (g:=λv=>(qL v x.2).1) ok.keys he)
  refine⟨m,_,j,rfl,g3,?_⟩;rw[ba];have u3:aY (λi=>i=m) L (L.setIfInBounds m (mU (half (λv=>(qL v x.2).1) (told++[e]) l) j)):=(Dl g3 Dy).mono λi _ hi=>by unfold own at hi;omega
  refine aC ⟨rfl,rfl,?_,?_,j,C2 g3,D⟩
  .rw[u3.2.1 h.size (pI o Y.1) (by omega),Y.2.1 h.size o]
  .exact(u.ext Y).trans u3 λi _ hi=>hi
 .refine bK (bV ?_)
  have W:aY (Ad m w) h d:=u.mono λi _ hi=>.inl hi;have m1:sS d m (Bn x.2 l):=⟨j,by rw[Sx hp]at A;exact A,by
   have ab:j=c:=by
    have:mU l j=mU l c:=dW (D.symm.trans C);unfold mU at this;injection this
   subst ab;have:=cq (told:=told) (g:=λv=>(qL v x.2).1) ok λy U=>Z _ (hl y U).1 (hl y U).2;rw[Sx hp]at this;exact this⟩
  refine aL rfl (aL rfl (a6 W ?_));have ao:=hw.len;have b4:=hw.kZ.cap;have cd:=hw.kZ.max;rw[ao]at b4;have w1:bR E .i64 d w ws:=u.pW hw λa ha=>a4 a ha;refine bO (λ(s:Int×Unit) h'=>aY (Ad m w) h h'/\sS h' m (Bn x.2 l)/\∃i:Nat,s.1=i/\i<=ws.length/\bR E .i64 h' w ((ws.take i).map (wv x.2)++ws.drop i)) (λs _=>((ws.length:Int)-s.1).toNat)
   (λt vs h'=>t=4/\vs=[]/\aY (Ad m w) h h'/\sS h' m (Bn x.2 l)/\bR E .i64 h' w (kX x.2 ws)) ⟨W,m1,0,rfl,cS _,by simpa using w1⟩ ?_ ?_
  .rintro⟨(i':Int),u'⟩ L ⟨V,m2,i,hi,b0,H⟩
   dsimp only at hi⊢;subst hi;refine aG (λC=>?_) λC=>?_
   .rw[aV,aN,ao]at C
    have o:i<ws.length:=by omega
    have a9:((ws.take i).map (wv x.2)++ws.drop i).getD i 0=ws[i]:=by
     simp[List.getD,Rh,FK b0,cM o]
    have a3:((ws.take i).map (wv x.2)++ws.drop i).length=ws.length:=by simp;omega
    have bb:∀v,v=wv x.2 ws[i]->((ws.take i).map (wv x.2)++ws.drop i).set i v=(ws.take (i+1)).map (wv x.2)++ws.drop (i+1):=by
     rintro v rfl;have a0:((ws.take i).map (wv x.2)).length=i:=by rw[cD,dJ];omega
     rw[Bl (h:=by rw[a0];exact bL _),a0,tZ,gK o,xS,eG,cM o,HA,dL,eC];rfl
    have aw:wv x.2 ws[i]=ws[i]->(ws.take i).map (wv x.2)++ws.drop i=(ws.take (i+1)).map (wv x.2)++ws.drop (i+1):=by
     intro G;rw[gK o,eG,cM o,HA,dL,eC,Rx,G];rfl
    have fin:∀M,aY (Ad m w) h M->sS M m (Bn x.2 l)->bR E .i64 M w ((ws.take (i+1)).map (wv x.2)++ws.drop (i+1)) ->
      wp P (aR (jC 0 0) (.cast [] [] λ_=>.ret 0 [aH (aT .i64 (i:Int) 1)]) .fail) M (λtag vs h'=>
       (tag=0->∃s':Int×Unit,vs=Ts.inj [tI] s'/\(aY (Ad m w) h h'/\sS h' m (Bn x.2 l)/\∃i:Nat,s'.1=i/\i<=ws.length/\bR E .i64 h' w ((ws.take i).map (wv x.2)++ws.drop i))/\((ws.length:Int)-s'.1).toNat<((ws.length:Int)-(i:Int)).toNat) /\
       (tag≠0->tag=4/\vs=[]/\aY (Ad m w) h h'/\sS h' m (Bn x.2 l)/\bR E .i64 h' w (kX x.2 ws))):=by
     intro M u3 m3 w3;refine bK (bV ?_);rw[bG (by omega) (by omega)];exact aC ⟨λ_=>⟨((i:Int)+1,()),rfl,⟨u3,m3,i+1,by simp,by omega,w3⟩,by dsimp only;omega⟩,λO=>absurd rfl O⟩
    refine xN (qM H.kZ (by omega) (by rw[a3];omega) λ_=>?_);rw[cN,a9];refine aG (λN=>aC (fin _ V m2 ?_)) λN=>?_
    .rw[aV]at N
     rw[<-aw (by unfold wv;rw[if_pos N])];exact H
    .rw[aZ]at N
     have G:=b6 ws[i] (Cp _);refine aM (X7 (m:=ws[i]) (O L V) hb N G) λ⟨(r:Int),(hr:Bool),_⟩ M B U=>?_;obtain⟨p,I⟩:=U;have p:r=(qL ws[i] x.2).1:=p;have I:hr=(qL ws[i] x.2).2:=I;dsimp only;refine iO (tys:=[tI]) (λ(y:Int×Unit) _=>y.1=wv x.2 ws[i]) ?_ λ⟨(v:Int),_⟩ h4 e4 J=>?_
     .refine aG (λhn=>aC ⟨rfl,Ext.refl _,(-1,()),rfl,?_⟩) λhn=>aC ⟨rfl,Ext.refl _,(r,()),rfl,?_⟩
      .have:hr=false:=by cases hr<;>simp[cO]at hn⊢
       unfold wv;rw[if_neg (by omega),<-I,this];rfl
      .have:hr=true:=by cases hr<;>simp[cO]at hn⊢
       unfold wv;rw[if_neg (by omega),<-I,this,<-p];rfl
     .have J:v=wv x.2 ws[i]:=J
      dsimp only;have u4:=(V.ext B).ext e4;refine aL rfl (aL rfl (a6 u4 ?_));refine ic ((H.ext B).ext e4) (by omega) (by rw[a3];omega) ?_ λh5 o5 u5 z5=>?_
      .rw[J];unfold wv
       rw[if_neg (by omega)];split
       .exact Z _ N G
       .rw[eO];omega
      .rw[cN,bb v J]at o5
       have c5:aY (Ad m w) h4 h5:=aY.dP u5 λa ha _=>.inr ⟨a,ha,rfl⟩;have u6:=u4.trans c5 λi _ hi=>hi;refine aC (fin _ u6 ?_ o5);have bd:aY (λi=>∃a,w.aD=some a/\a.block=i) h4 h5:=aY.dP u5 λa ha _=>⟨a,ha,rfl⟩;exact((m2.ext B).ext e4).oQ bd λ⟨a,ha,hh⟩=>a4 a ha hh
   .rw[aZ,aN,ao]at C
    have bt:i=ws.length:=by omega
    subst bt;rw[fA,FL,jX]at H;exact aC ⟨λO=>absurd O (by decide),λ_=>⟨rfl,rfl,V,m2,H⟩⟩
  .rintro t vs h' ⟨rfl,rfl,V,m2,H⟩
   exact bK (bV (aC ⟨rfl,V,(),rfl,m2,H⟩))
end
section
variable{P:Program}{S:cG}{h:aE}{Q:Nat->bE->aE->Prop}
variable{s:Sl}{l:List mE}{i:Nat}{h':aE}
theorem rD{n size off:Nat}{pre mid post:bE}(new:bE){K:aK}(I:cC n size h s (pre++mid++post))(g:off=pre.length)(H:new.length=mid.length)(h0:mid≠[])(E:∀v∈new,flat v=true)
  (G:∀h',cC n size h' s (pre++new++post)->jE s h h'->h'.size=h.size->wp P K h' Q):wp P (.store (aB s.aD off) new K) h Q:=by
 subst g;obtain⟨o1,o2,B,d⟩:=I;obtain⟨aD,len,cap⟩:=s;cases aD with
 |none=>
  dsimp only at o1 o2 d;subst d;have:len=0:=by omega
  subst this;have hm:0<mid.length:=List.length_pos_iff.2 h0;simp only[Nat.zero_mul,bM]at o1;omega
 |some a=>
  dsimp only at o1 o2 B d⊢;obtain⟨b,off,spot⟩:=a;obtain⟨e0,r,t,cs,elem,u,D,x⟩:=d;dsimp only at e0 r t u;subst e0;subst r;have hle:len*size<=cap*size:=Jl _ o2;simp only[bM]at o1;obtain⟨w,p,c1,c2,c3,o,J,C⟩:=lS (vs:=new) (i:=0) (off:=pre.length) u E (by omega);refine⟨⟨b,pre.length,none⟩,by rw[pE,pA];simp,w,G _ ⟨by simp only[bM];omega,o2,B,rfl,rfl,t,p,elem,c1,by rw[c2,D],λj v c=>?_⟩
   ⟨by unfold nO;omega,λi hi A=>C i λe=>A _ rfl e.symm,λa e=>by unfold nO;rw[iR];exact e⟩ (by unfold nO;omega)⟩
  by_cases y:j<pre.length
  .rw[o j (.inl (by omega))]
   refine x j v ?_;rw[eC,lV y]at c⊢;exact c
  .rw[eC,jK (by omega)]at c
   by_cases z:j-pre.length<new.length
   .rw[lV z]at c
    have:=c3 _ _ c
    rwa [show pre.length+0+(j-pre.length)=j by omega]at this
   .rw[jK (by omega)]at c
    rw[o j (.inr (by omega))];refine x j v ?_;rw[eC,jK (by omega),jK (by omega),<-H];exact c
abbrev Y3(e:mE):bE:=[aH e.1,aH e.2.1,aH e.2.2.1]
def gu(e:mE):Prop:=cR .i64 e.1/\cR .i64 e.2.1/\cR .i64 e.2.2.1
structure Jz(n:Nat)(h:aE)(s:Sl)(l:List mE):Prop where
 own:cC n 3 h s (l.flatMap Y3)
 fit:∀e∈l,gu e
theorem Lw(l:List mE):(l.flatMap Y3).length=l.length*3:=by
 induction l with
 |nil=>rfl
 |cons e l b=>rw[fY,bM,b,fF];simp only[fF,LS];omega
theorem Jz.len{n:Nat}{s:Sl}{l:List mE}(o:Jz n h s l):s.len=l.length:=by have:=o.own.1;rw[Lw]at this;omega
theorem mc{j:Nat}{e:mE}(hi:l[i]?=some e)(c:j<3):(l.flatMap Y3)[i*3+j]?=(Y3 e)[j]? := by
 have b:=(eK.1 hi).1;have g:l=l.take i++(e::l.drop (i+1)):=by
  rw[<-(eK.1 hi).2,<-gK b,eX]
 have d:((l.take i).flatMap Y3).length=i*3:=by rw[Lw,dJ];omega
 rw[g,hQ,fY,jK (by omega),d,show i*3+j-i*3=j by omega,lV (by simpa using c)]
theorem Jz.ok{n:Nat}{s:Sl}{l:List mE}(o:Jz n h s l):(Sh.list RK).ok h (s,l):=by
 have hlen:=o.len;obtain⟨⟨o1,o2,z,c⟩,of⟩:=o;refine⟨hlen,o2,z,λi y hi=>?_⟩;have d:=of y (eL hi);cases hb:s.aD with
 |none=>
  rw[hb]at c;have u:=(eK.1 hi).1;dsimp only at c u;omega
 |some a=>
  rw[hb]at c;obtain⟨b,off,spot⟩:=a;obtain⟨e0,g,w,cs,elem,p,A,x⟩:=c;dsimp only at e0 g w p;subst e0;subst g;refine⟨_,rfl,aI.2 λj v r=>?_,d.1,d.2.1,d.2.2,trivial⟩;have t:j<3:=(eK.1 r).1;have:=x (i*3+j) v (by rw[mc hi t];exact r);rw[pA,pA];simpa[Sw.cell,p,Sh.size] using this
theorem Jz.oQ{F:Nat->Prop}{n:Nat}(o:Jz n h s l)(u:aY F h h')(b:∀a,s.aD=some a->¬F a.block):Jz n h' s l:=⟨u.own o.own b,o.fit⟩
theorem Jz.ext{n:Nat}(o:Jz n h s l)(u:Ext h h'):Jz n h' s l:=o.oQ (aY.bH (F:=λ_=>False) u) λ_ _ x=>x
theorem ia{n:Nat}{K:Sl->aK}(h1:n<=131072)(b:∀h' r,Ext h h'->h'.size=h.size+1->(∀a,r.aD=some a->a.block=h.size)->Jz h.size h' r (List.replicate n (0,0,0,()))->wp P (K r) h' Q):wp P (.mk 24 [aH 0,aH 0,aH 0] (n:Int) (n:Int) K) h Q:=by
 refine⟨⟨by omega,nJ _,by omega,by omega⟩,λelem=>b _ _ (Ext.push ..) (by simp) (by intro a ha;simp at ha;rw[<-ha]) ⟨?_,?_⟩⟩
 .have c:∀n,kW [aH 0,aH 0,aH 0] n=(List.replicate n ((0,0,0,()):mE)).flatMap Y3:=by
   intro n
   induction n with
   |zero=>rfl
   |succ n d=>rw[Jn,fY,<-d];rfl
  rw[cN,c];exact bX (by rw[Lw,Jt]) (by decide) (by omega)
 .intro e he
  rw[(Rw.1 he).2];exact⟨rU _,rU _,rU _⟩
theorem ZA{n:Nat}(e:mE){K:aK}(o:Jz n h s l)(hi:i<l.length)(t:gu e)
  (u:∀h',Jz n h' s (l.set i e)->jE s h h'->h'.size=h.size->wp P K h' Q) :
  wp P (bD (bN (aJ s.aD) (eV (i:Int) s.len)) (.store (aB s.aD (bB (bP (i:Int)) 3)) [aH e.1,aH e.2.1,aH e.2.2.1] K)) h Q:=by
 have hlen:=o.len;have p:l=l.take i++(l[i]::l.drop (i+1)):=by rw[<-gK hi,eX]
 have c:l.set i e=l.take i++(e::l.drop (i+1)):=by
  conv=>lhs;rw[p]
  have j:(l.take i).length=i:=by rw[dJ];omega
  rw[Bl (h:=by omega),j,tZ,xS]
 have w:cC n 3 h s ((l.take i).flatMap Y3++Y3 l[i]++(l.drop (i+1)).flatMap Y3):=by
  have:=o.own;rw[p,hQ,fY]at this;rw[eC];exact this
 have hb:aJ s.aD=true:=by
  cases hb:s.aD with
  |none=>
   have:=o.own.2.2.2;rw[hb]at this;have:=o.own.2.1;dsimp only at *;omega
  |some a=>rfl
 have g:eV (i:Int) s.len=true:=by simp[eV,hlen];omega
 refine aL (by rw[hb,g];rfl) ?_;have d:bB (bP (i:Int)) 3=((l.take i).flatMap Y3).length:=by rw[Lw,dJ];simp[bB,bP];omega
 rw[d];refine rD (mid:=Y3 l[i]) [aH e.1,aH e.2.1,aH e.2.2.1] w rfl rfl (by simp) (by intro v r;simp only[eJ,lU,or_false]at r;rcases r with rfl|rfl|rfl<;>rfl) λh' y z A=>u h' ⟨?_,?_⟩ z A
 .rw[c,hQ,fY,<-eC];exact y
 .intro x b
  rw[c]at b;rcases dD.1 b with b|b
  .exact o.fit x (rG b)
  .rcases eJ.1 b with rfl|b
   .exact t
   .exact o.fit x (Bi b)
def pS:Int->List mE->List mE
 |_,[]=>[]
 |sh,e::l=>(e.1+sh,e.1+sh+e.2.2.1,e.2.1-e.1,())::pS (sh+(e.2.2.1-(e.2.1-e.1))) l
def NY:Int->List mE->Int
 |sh,[]=>sh
 |sh,e::l=>NY (sh+(e.2.2.1-(e.2.1-e.1))) l
theorem Fe:∀{l m:List mE} {sh:Int},pS sh (l++m)=pS sh l++pS (NY sh l) m
 |[],m,sh=>rfl
 |e::l,m,sh=>by simp only[DN,pS,NY,Fe (l:=l)]
theorem Ht:∀{l m:List mE} {sh:Int},NY sh (l++m)=NY (NY sh l) m
 |[],m,sh=>rfl
 |e::l,m,sh=>by simp only[DN,NY,Ht (l:=l)]
theorem MN:∀{l:List mE} {sh:Int},(pS sh l).length=l.length
 |[],sh=>rfl
 |e::l,sh=>by simp only[pS,fF,MN (l:=l)]
theorem JW:∀{l:List mE} {sh:Int},KX l->sh-l.length*2199023255552<=NY sh l/\NY sh l<=sh+l.length*2199023255552
 |[],sh,_=>by simp[NY]
 |e::l,sh,b=>by
  have c:=JW (sh:=sh+(e.2.2.1-(e.2.1-e.1))) b.tail;have hb:=b.2 e (cX ..);simp only[NY,fF];push_cast;omega
theorem KX.take{l:List mE}(b:KX l)(i:Nat):KX (l.take i):=⟨by have:=b.1;rw[dJ];omega,λx c=>b.2 x (rG c)⟩
theorem Wq{x:Xw}(I:(Sh.list RK).ok h x)(hb:KX x.2):aS P (qC S x.1) [tS] h λ(y:Sl×Unit) h'=>Jz h.size h' y.1 (pS 0 x.2):=by
 have K:=I.len;have hlen:=hb.1;unfold qC aS;have V:aQ x.1.len=(x.2.length:Int):=by rw[aN,K]
 rw[V];refine ia hlen λh1 r D z1 rb o1=>?_;have J:=o1.len;rw[Jt]at J;refine bO (λ(s:Int×Int×Unit) h'=>Ext h h'/\∃i:Nat,s.2.1=i/\i<=x.2.length/\s.1=NY 0 (x.2.take i)/\Jz h.size h' r (pS 0 (x.2.take i)++List.replicate (x.2.length-i) (0,0,0,()))) (λs _=>((x.2.length:Int)-s.2.1).toNat)
  (λt vs h'=>Ext h h'/\t=2/\vs=[]/\Jz h.size h' r (pS 0 x.2)) ⟨D,0,rfl,cS _,rfl,by simpa[pS] using o1⟩ ?_ ?_
 .rintro⟨(sh:Int),(i':Int),u⟩ G ⟨g,i,hi,Y,d,o2⟩
  dsimp only at hi d⊢;subst hi;refine aG (λz=>?_) λz=>?_
  .rw[aV]at z
   have p:i<x.2.length:=by omega
   obtain⟨e,he⟩:∃e,x.2[i]?=some e:=⟨x.2[i]'p,cM p⟩;have W:=hb.2 e (eL he);have H:=JW (sh:=0) (hb.take i);have ab:(x.2.take i).length<=131072:=(hb.take i).1;rw[<-d]at H;refine tj (I.ext g) (by omega) (by simpa using he) λa U E c=>?_;refine(I2 c).1 ((I2 c).1 ((I2 c).2.2 ((I2 c).2.1 ((I2 c).1 ?_))));rw[bG (a:=e.1) (b:=sh) (by omega) (by omega),bG (by omega) (by omega),cY (a:=e.2.1) (b:=e.1) (by omega) (by omega)];have o:(pS 0 (x.2.take i)).length=i:=by rw[MN,dJ];omega
   have A:(pS 0 (x.2.take i)++List.replicate (x.2.length-i) ((0,0,0,()):mE)).set i (e.1+sh,e.1+sh+e.2.2.1,e.2.1-e.1,())=pS 0 (x.2.take (i+1))++List.replicate (x.2.length-(i+1)) (0,0,0,()):=by
    rw[Bl (h:=by omega),o,tZ,show x.2.length-i=(x.2.length-(i+1))+1 by omega,Jn,xS,eG,he,HA,Fe,<-d,eC];rfl
   refine ZA (e.1+sh,e.1+sh+e.2.2.1,e.2.1-e.1,()) (o2.ext E) (by rw[bM,o,Jt];omega) ⟨by rw[eO];dsimp only;omega,by rw[eO];dsimp only;omega,by rw[eO];dsimp only;omega⟩ λw M C z4=>?_;rw[A]at M;have Z:=g.1;have N:aY (λi=>i=h.size) U w:=aY.dP C λy j _=>rb y j;have L:h.size<G.size:=by
    have:=D.1;obtain⟨_,_,_,q⟩:=o2.own;cases hb:r.aD with
    |none=>
     have:=C;rw[hb]at q;have:=o2.own.2.1;dsimp only at q;omega
    |some y=>
     rw[hb]at q;have:=(zY.1 q.2.2.2.choose_spec.choose_spec.1).1;rw[rb y hb]at this;exact this
   have o5:cC G.size 1 w ⟨some a,3,3⟩ [aH e.1,aH e.2.1,aH e.2.2.1]:=N.own c λy j=>by
    cases j;exact Nat.ne_of_gt (pI L (c.lt rfl).1)
   refine(I2 o5).2.2 ((I2 o5).2.1 ((I2 o5).1 ?_));rw[cY (a:=e.2.1) (b:=e.1) (by omega) (by omega),cY (by omega) (by omega),bG (by omega) (by omega),bG (by omega) (by omega)];have O:Ext h w:=jE.jA (g.trans E) C λy j=>by rw[rb y j];exact bL _
   refine aC ⟨λ_=>⟨(sh+(e.2.2.1-(e.2.1-e.1)),(i:Int)+1,()),rfl,⟨O,i+1,by simp,by omega,?_,M⟩,by dsimp only;omega⟩,λB=>absurd rfl B⟩;rw[eG,he,HA,Ht,<-d];rfl
  .rw[aZ]at z
   have:i=x.2.length:=by omega
   subst this;rw[fA,tZ,List.replicate_zero,jX]at o2;exact aC ⟨λB=>absurd B (by decide),λ_=>⟨g,rfl,rfl,o2⟩⟩
 .rintro t vs h' ⟨g,rfl,rfl,o2⟩
  exact bK (bV (aC ⟨rfl,g,(r,()),rfl,o2⟩))
end
section
variable{P:Program}{S:cG}{h:aE}{Q:Nat->bE->aE->Prop}
variable{vs:bE}{s:Sl}
theorem HT{n r:Nat}{b:Addr}{T:TX}{at_:Int}(ob:cC n 1 h ⟨some b,10,10⟩ vs)(h0:vs[0]?=some (.pointer (some T.p)))(t:eM S r h T) :
  aS P (mZ S (some b) at_) [tB] h λ(y:Bool×Unit) _=>y.1=true↔(0<=at_/\at_<=(gS T.enc T.cur.ps).length):=by
 unfold mZ aS;refine bW (0<=at_/\at_<=(gS T.enc T.cur.ps).length) (aG (λc=>?_) λc=>aC ⟨rfl,Ext.refl _,false,rfl,?_⟩) λj o d hb=>aC ⟨rfl,d,(j,()),rfl,hb⟩
 .rw[dT]at c
  refine aL rfl (aL rfl (aX (b:=.ptr) (b.add 0) (some T.p) rfl (aI.1 ob.cells 0 _ h0) ?_));refine aM (Vd t) λ⟨(L:Int),_⟩ o d g=>aC ⟨rfl,d,_,rfl,?_⟩;have g:L=_:=g;subst g;dsimp only;rw[gD];exact⟨λh=>⟨c,h⟩,λh=>h.2⟩
 .rw[fC]at c
  exact⟨λh=>(by cases h),λh=>by omega⟩
theorem PH{l:aW}(g:kB .i64 h s l)(u:l.length<=1099511627776):aS P (fP S s) [tS] h λ(y:Sl×Unit) h'=>bR h.size .i64 h' y.1 l:=by
 unfold fP aS;refine aG (λc=>aC ⟨rfl,Ext.refl _,(⟨none,0,0⟩,()),rfl,?_⟩) λc=>?_
 .have:l=[]:=by
   cases l with
   |nil=>rfl
   |cons a l=>
    obtain⟨x,d,_⟩:=g.rd.2 0 (.int .i64 a) rfl;rw[d]at c;cases c
  subst this;exact bR.nil _ _ _
 .refine λelem=>?_
  have b:Ext h (h.push (.cells [].toArray elem)):=Ext.push ..;have o1:bR h.size .i64 (h.push (.cells [].toArray elem)) ⟨some ⟨h.size,0,none⟩,0,0⟩ []:=O8 (k:=.i64) (l:=[]) (by simp) (by decide);generalize h.push (.cells [].toArray elem)=p at b o1⊢;refine Tf o1 b.1 (g.ext b) (by simp;omega) (by simp;omega) λr t k2 o2 j o=>aC ⟨rfl,?_,(r,()),rfl,by simpa using o2⟩;exact jE.jA b j (by intro x d;cases d;exact bL _)
theorem XQ{n:Nat}{v:Value}(ho:cC n 1 h s (v::vs))(hf:∀u∈vs,flat u=true) :
  Ev (λi=>∃a,s.aD=some a/\a.block=i) P (dS S s (Int.ofNat 0) (Int.ofNat 1)) [tS] h λ(y:Sl×Unit) h'=>cC n 1 h' y.1 vs/\y.1.aD=s.aD:=by
 unfold dS Ev;obtain⟨o1,o2,O,g⟩:=ho;obtain⟨aD,len,cap⟩:=s;dsimp only at o1 o2 O g⊢;simp only[Hz,fF]at o1;subst o1;cases aD with
 |none=>dsimp only at g;omega
 |some a=>
  dsimp only at g;obtain⟨b,off,spot⟩:=a;obtain⟨e0,E,G,cs,elem,p,r,e5⟩:=g;dsimp only at e0 E G p;subst e0;subst E;have c1:bF (some ⟨b,0,none⟩) cap 0 1=some ⟨b,0,none⟩:=eQ _ _ _;have lb:∀(j:Int) (n:Nat),0<=j->j<=n->wK j n=true:=λj n h0 c=>by unfold wK;rw[decide_eq_true h0,decide_eq_true c];rfl
  have o:∀x y:Bool,x=true->y=true->bN x y=true:=by rintro _ _ rfl rfl;rfl
  refine aL (o _ _ (lb _ _ (by rw[aN];omega) (by rw[aN];omega)) (o _ _ (lb _ _ (by decide) (by simp[bP,aQ];omega)) (lb _ _ (by decide) (by simp[bP])))) (aG (λt=>by cases t) λ_=>aL (lb _ _ (by decide) (by simp)) (aL (lb _ _ (by decide) (by simp;omega)) ?_));have A:wW h (bF (some ⟨b,0,none⟩) cap 1 1) (vs.length*1) vs:=by
   unfold bF;split
   .rename_i t
    subst t;have:vs=[]:=Aa (by omega);subst this;exact⟨rfl,trivial⟩
   .refine⟨by simp,aI.2 λj u d=>?_⟩
    have:=e5 (j+1) u (by simpa using d);simp only[Jj,pA];simpa[Sw.cell,p,FC] using this
  obtain⟨w,al,U,V,W,p4,Y,Z⟩:=lS (vs:=vs) (i:=0) (off:=0) p hf (by rw[r];omega);have H:cV (bP (Int.ofNat 0)) 0+cV (vs.length+1) (bP (Int.ofNat 1))<=cV cap 0:=by simp[cV,bP];omega
  have B:cV (bP (Int.ofNat 0)) 0+cV (vs.length+1) (bP (Int.ofNat 1))=vs.length:=by simp[cV,bP]
  refine⟨vs,A,?_⟩;dsimp only;rw[if_pos H];have c2:bF (some ⟨b,0,none⟩) cap (bP (Int.ofNat 0)) 1=some ⟨b,0,none⟩:=eQ _ _ _;rw[eQ];dsimp only;rw[B];have M:(Addr.mk b 0 none).add (cV (bP (Int.ofNat 0)) 0*1)=⟨b,0,none⟩:=by simp[pA,cV,bP]
  rw[M];refine⟨w,?_⟩;have p7:=λx=>iR x ⟨b,0,none⟩ vs h 0;have L:nO h ⟨b,0,none⟩ vs=nR h ⟨b,0,none⟩ 0 vs:=rfl;rw[L];generalize nR h ⟨b,0,none⟩ 0 vs=c at U W Y Z p7⊢;have z:cV cap 0=cap:=rfl;rw[z];refine aL (o _ _ (lb _ _ (by rw[aN];omega) (by rw[aN];omega)) (lb _ _ (by rw[aN];omega) (by simp[bP,aQ];omega))) ?_;have I:bF (some ⟨b,0,none⟩) cap (bP (aQ vs.length)) 1=some ⟨b,vs.length,none⟩:=by
   have:bP (aQ vs.length)=vs.length:=by simp[bP,aQ]
   rw[this];unfold bF;rw[if_neg (by omega),Jj,pA];simp
  have J:cV (bP (aQ (vs.length+1))) (bP (aQ vs.length))=1:=by simp[bP,aQ,cV]
  obtain⟨w2,D,q1,q2,q3,q4,q5,q6⟩:=lS (vs:=[.pointer none]) (i:=0) (off:=vs.length) U (by intro x C;rw[dE.1 C];rfl) (by rw[V,r];simp;omega);show Dm _ _ _ _;unfold Dm;dsimp only;have N:kW [Value.pointer none] 1=[Value.pointer none]:=rfl;rw[I,J,N];dsimp only;refine⟨w2,aC ⟨rfl,⟨?_,λi hi K=>?_,λx C=>?_⟩,(⟨some ⟨b,0,none⟩,vs.length,cap⟩,()),rfl,⟨by simp,by show vs.length<=cap;omega,O,rfl,rfl,G,D,elem,q1,by rw[q2,V,r],λj u d=>?_⟩,rfl⟩⟩
  .show h.size<=(nR c _ 0 _).size
   rw[q5,Y];exact bL _
  .have hb:i≠b:=λe=>K ⟨_,rfl,e.symm⟩
   show(nR c _ 0 _)[i]?=_;rw[q6 i hb,Z i hb]
  .show Ix (nR c _ 0 _) x=false
   rw[iR,p7];exact C
  .have ao:=(eK.1 d).1
   rw[q4 j (.inl (by omega))];have:=W j u d;simpa using this
end
section
variable{P:Program}{S:cG}{h:aE}{Q:Nat->bE->aE->Prop}
structure HC where
 pt:Addr
 U8:Addr
 qf:Addr
 sb:Piece.St
 sh:Piece.St
 bg:Int
 en:Int
 mv:Sl×List Xw
 old:Int
 fresh:Int
structure Kg where
 o:Addr
 U8:Addr
 sb:Piece.St
 bg:Int
 mv:Sl×List Xw
 old:Int
 m:Nat
 ms:fR
 w:Sl
 ws:aW
 ch:Bool
structure Bk where
 b:Addr
 T:TX
 depth:Int
 U:Sl×List HC
 R:Sl×List HC
 m:Nat
 ms:fR
 w:Sl
 ws:aW
 now:Option Kg
 state:Int
 saved:Int
 last:Int
def vh(g:HC):bE:=[.pointer (some g.U8), .pointer (some g.qf),aH g.bg,aH g.en,dG g.mv.1,aH g.old,aH g.fresh]
def Bu(o:Kg):bE:=[.pointer (some o.U8), .pointer none,aH o.bg,aH 0,dG o.mv.1,aH o.old,aH 0, .map (some o.m),dG o.w, .bool o.ch]
def oN(B:Bk):bE:=[.pointer (some B.T.p),aH B.depth,dG B.U.1,dG B.R.1, .map (some B.m),dG B.w, .pointer (B.now.map (·.o)),aH B.state,aH B.saved,aH B.last]
def oI(l:List HC):bE:=l.map λg=>.pointer (some g.pt)
structure XF(n:Nat)(h:aE)(rho:Nat->Nat)(r:Nat)(mv:Sl×List Xw):Prop where
 own:cC n 1 h mv.1 (mv.2.map λx=>dG x.1)
 role:∀a,mv.1.aD=some a->rho a.block=r
 each:∀x∈mv.2,Jz n h x.1 x.2/\(∀a,x.1.aD=some a->rho a.block=0)/\KX x.2
structure TF(n:Nat)(h:aE)(rho:Nat->Nat)(T:TX)(g:HC):Prop where
 ob:cC n 1 h ⟨some g.pt,7,7⟩ (vh g)
 s1:Gr n h g.U8 T.p g.sb
 s2:Gr n h g.qf T.p g.sh
 k1:g.sb∈T.kept
 k2:g.sh∈T.kept
 mv:XF n h rho 0 g.mv
 r0:rho g.pt.block=0/\rho g.U8.block=0/\rho g.qf.block=0
structure TH(n:Nat)(h:aE)(rho:Nat->Nat)(k:Nat)(T:TX)(o:Kg):Prop where
 ob:cC n 1 h ⟨some o.o,10,10⟩ (Bu o)
 ro:rho o.o.block=k+6
 sn:Gr n h o.U8 T.p o.sb
 ks:o.sb∈T.kept
 rs:rho o.U8.block=0
 mv:XF n h rho (k+7) o.mv
 mp:sS h o.m o.ms
 rm:rho o.m=k+9
 ow:bR n .i64 h o.w o.ws
 Es:∀a,o.w.aD=some a->rho a.block=k+10
structure RestR(S:cG)(n:Nat)(h:aE)(rho:Nat->Nat)(k:Nat)(B:Bk):Prop where
 t:eM S n h B.T
 rt:∀i,B.T.Z i->rho i=k+8
 mp:sS h B.m B.ms
 rm:rho B.m=k+2
 ow:bR n .i64 h B.w B.ws
 Es:∀a,B.w.aD=some a->rho a.block=k+3
 ou:cC n 1 h B.U.1 (oI B.U.2)
 ru:∀a,B.U.1.aD=some a->rho a.block=k+4
 KS:cC n 1 h B.R.1 (oI B.R.2)
 rr:∀a,B.R.1.aD=some a->rho a.block=k+5
 gs:∀g,g∈B.U.2\/g∈B.R.2->TF n h rho B.T g
 nw:∀o,B.now=some o->TH n h rho k B.T o
structure cL(S:cG)(n:Nat)(h:aE)(rho:Nat->Nat)(k:Nat)(B:Bk):Prop extends RestR S n h rho k B where
 ob:cC n 1 h ⟨some B.b,10,10⟩ (oN B)
 rb:rho B.b.block=k+1
structure cQ(k:Nat)(h:aE)(rho:Nat->Nat)(h':aE)(rho':Nat->Nat):Prop where
 c:aY (λi=>k<rho i/\rho i<=k+10) h h'
 old:∀i,i<h.size->(rho i<=k\/k+10<rho i)->rho' i=rho i
 new:∀i,i<h'.size->(h.size<=i\/(k<rho i/\rho i<=k+10))->rho' i=0\/(k<rho' i/\rho' i<=k+10)
theorem cQ.refl(k:Nat)(h:aE)(rho:Nat->Nat):cQ k h rho h rho:=
 ⟨aY.refl _ _,λ_ _ _=>rfl,λi hi b=>b.elim (λc=>absurd hi (by omega)) .inr⟩
theorem cQ.trans{k:Nat}{h h1 r:aE}{rho d g:Nat->Nat}(a:cQ k h rho h1 d)(b:cQ k h1 d r g):cQ k h rho r g where
 c:=a.c.trans b.c λi hi hr=>by
  by_cases p:rho i<=k\/k+10<rho i
  .rw[a.old i hi p]at hr;omega
  .omega
 old i hi p:=by
  have h1:=a.old i hi p;rw[b.old i (pI hi a.c.1) (by omega),h1]
 new i o hi:=by
  by_cases j:i<h1.size
  .rcases a.new i j hi with h0|h0
   .exact .inl (by rw[b.old i j (by omega),h0])
   .exact b.new i o (.inr h0)
  .exact b.new i o (.inl (by omega))
theorem cQ.of{k:Nat}{h h':aE}{rho:Nat->Nat}{F:Nat->Prop}(c:aY F h h')(d:∀i,i<h.size->F i->k<rho i/\rho i<=k+10)(j:∀i,h.size<=i->i<h'.size->rho i=0):cQ k h rho h' rho:=
 ⟨c.mono d,λ_ _ _=>rfl,λi hi g=>g.elim (λb=>.inl (j i b hi)) .inr⟩
section frames
variable{n:Nat}{h':aE}{rho rho':Nat->Nat}{F:Nat->Prop}{T T':TX}
theorem XF.aP{r o:Nat}{mv:Sl×List Xw}(m:XF n h rho r mv)(c:aY F h h')(j:∀i,i<h.size->F i->rho i≠0/\(∀a,mv.1.aD=some a->a.block≠i))(h0:∀i,i<h.size->rho i=0->rho' i=0)(hr:∀a,mv.1.aD=some a->rho' a.block=o):XF n h' rho' o mv where
 own:=c.own m.own λa ha d=>(j _ (m.own.lt ha).2 d).2 a ha rfl
 role:=hr
 each x t:=by
  obtain⟨b,g,p⟩:=m.each x t;exact⟨b.oQ c λa ha d=>(j _ (b.own.lt ha).2 d).1 (g a ha),λa ha=>h0 _ (b.own.lt ha).2 (g a ha),p⟩
theorem TF.aP{g:HC}(r:TF n h rho T g)(c:aY F h h')(d:∀i,i<h.size->F i->rho i≠0)(h0:∀i,i<h.size->rho i=0->rho' i=0)(o:T'.p=T.p)(j:∀s,s∈T.kept->s∈T'.kept):TF n h' rho' T' g where
 ob:=c.own r.ob λa ha b=>d _ (r.ob.lt ha).2 b (by cases ha;exact r.r0.1)
 s1:=by rw[Gr,o];exact c.own r.s1 λa ha b=>d _ (r.s1.lt ha).2 b (by cases ha;exact r.r0.2.1)
 s2:=by rw[Gr,o];exact c.own r.s2 λa ha b=>d _ (r.s2.lt ha).2 b (by cases ha;exact r.r0.2.2)
 k1:=j _ r.k1
 k2:=j _ r.k2
 mv:=r.mv.aP c (λi hi b=>⟨d i hi b,λa ha e=>d i hi b (by rw[<-e];exact r.mv.role a ha)⟩) h0 λa ha=>h0 _ (r.mv.own.lt ha).2 (r.mv.role a ha)
 r0:=⟨h0 _ (r.ob.lt rfl).2 r.r0.1,h0 _ (r.s1.lt rfl).2 r.r0.2.1,h0 _ (r.s2.lt rfl).2 r.r0.2.2⟩
theorem TH.aP{k:Nat}{o:Kg}(r:TH n h rho k T o)(c:aY F h h')(d:∀i,i<h.size->F i->rho i≠0/\rho i≠k+6/\rho i≠k+7/\rho i≠k+9/\rho i≠k+10)
  (h0:∀i,i<h.size->rho i=0\/rho i=k+6\/rho i=k+7\/rho i=k+9\/rho i=k+10->rho' i=rho i) (t:T'.p=T.p) (j:∀s,s∈T.kept->s∈T'.kept):TH n h' rho' k T' o where
 ob:=c.own r.ob λa ha b=>by have:=(d _ (r.ob.lt ha).2 b).2.1;cases ha;exact this r.ro
 ro:=by rw[h0 _ (r.ob.lt rfl).2 (.inr (.inl r.ro))];exact r.ro
 sn:=by rw[Gr,t];exact c.own r.sn λa ha b=>by have:=(d _ (r.sn.lt ha).2 b).1;cases ha;exact this r.rs
 ks:=j _ r.ks
 rs:=by rw[h0 _ (r.sn.lt rfl).2 (.inl r.rs)];exact r.rs
 mv:=r.mv.aP c (λi hi b=>⟨(d i hi b).1,λa ha e=>(d i hi b).2.2.1 (by rw[<-e];exact r.mv.role a ha)⟩) (λi hi g=>by rw[h0 i hi (.inl g)];exact g)
  λa ha=>by rw[h0 _ (r.mv.own.lt ha).2 (.inr (.inr (.inl (r.mv.role a ha))))];exact r.mv.role a ha
 mp:=r.mp.oQ c λb=>(d _ r.mp.lt b).2.2.2.1 r.rm
 rm:=by rw[h0 _ r.mp.lt (.inr (.inr (.inr (.inl r.rm))))];exact r.rm
 ow:=c.pW r.ow λa ha b=>(d _ (r.ow.own.lt ha).2 b).2.2.2.2 (r.Es a ha)
 Es a ha:=by rw[h0 _ (r.ow.own.lt ha).2 (.inr (.inr (.inr (.inr (r.Es a ha)))))];exact r.Es a ha
end frames
variable{h':aE}{rho:Nat->Nat}{X:Bk}{i:Nat}
theorem RestR.aP{n k:Nat}{h':aE}{rho rho':Nat->Nat}{B:Bk}{F:Nat->Prop}(r:RestR S n h rho k B)(c:aY F h h')(d:∀i,i<h.size->F i->rho i≠0/\(rho i<=k+1\/k+10<rho i))(h0:∀i,i<h.size->rho i=0\/(k+1<rho i/\rho i<=k+10)->rho' i=rho i):RestR S n h' rho' k B where
 t:=r.t.oQ c λi hi b=>by have:=d i (r.t.lo i hi).2 b;have:=r.rt i hi;omega
 rt i hi:=by rw[h0 _ (r.t.lo i hi).2 (.inr (by have:=r.rt i hi;omega))];exact r.rt i hi
 mp:=r.mp.oQ c λb=>by have:=d _ r.mp.lt b;have:=r.rm;omega
 rm:=by rw[h0 _ r.mp.lt (.inr (by have:=r.rm;omega))];exact r.rm
 ow:=c.pW r.ow λa ha b=>by have:=d _ (r.ow.own.lt ha).2 b;have:=r.Es a ha;omega
 Es a ha:=by rw[h0 _ (r.ow.own.lt ha).2 (.inr (by have:=r.Es a ha;omega))];exact r.Es a ha
 ou:=c.own r.ou λa ha b=>by have:=d _ (r.ou.lt ha).2 b;have:=r.ru a ha;omega
 ru a ha:=by rw[h0 _ (r.ou.lt ha).2 (.inr (by have:=r.ru a ha;omega))];exact r.ru a ha
 KS:=c.own r.KS λa ha b=>by have:=d _ (r.KS.lt ha).2 b;have:=r.rr a ha;omega
 rr a ha:=by rw[h0 _ (r.KS.lt ha).2 (.inr (by have:=r.rr a ha;omega))];exact r.rr a ha
 gs g u:=(r.gs g u).aP c (λi hi b=>(d i hi b).1) (λi hi j=>by rw[h0 i hi (.inl j)];exact j) rfl λs p=>p
 nw o w:=(r.nw o w).aP c (λi hi b=>by have:=d i hi b;omega) (λi hi j=>h0 i hi (by omega)) rfl λs p=>p
theorem cL.other{n k:Nat}{rho':Nat->Nat}{B:Bk}{F:Nat->Prop}(r:cL S n h rho k B)(c:aY F h h')(d:∀i,i<h.size->F i->rho i≠0/\(rho i<=k\/k+10<rho i))(h0:∀i,i<h.size->rho i=0\/(k<rho i/\rho i<=k+10)->rho' i=rho i):cL S n h' rho' k B where
 toRestR:=r.toRestR.aP c (λi hi b=>by have:=d i hi b;omega) λi hi g=>h0 i hi (by omega)
 ob:=c.own r.ob λa ha b=>by have:=d _ (r.ob.lt ha).2 b;cases ha;have:=r.rb;omega
 rb:=by rw[h0 _ (r.ob.lt rfl).2 (.inr (by have:=r.rb;omega))];exact r.rb
theorem cL.ext{n k:Nat}{B:Bk}(r:cL S n h rho k B)(e:Ext h h'):cL S n h' rho k B:=
 r.other (aY.bH (F:=λ_=>False) e) (λ_ _ x=>x.elim) λ_ _ _=>rfl
theorem RestR.re{n k:Nat}{B b:Bk}(r:RestR S n h rho k B)(h1:b.T=B.T)(c:b.U=B.U)(d:b.R=B.R)(p:b.m=B.m)(C:b.ms=B.ms)(t:b.w=B.w)(D:b.ws=B.ws)(E:b.now=B.now):RestR S n h rho k b:=by
 obtain⟨a1,a2,u,x,y,z,a7,a8,A,g,j,o⟩:=r;refine⟨by rw[h1];exact a1,by rw[h1];exact a2,by rw[p,C];exact u,by rw[p];exact x,by rw[t,D];exact y,by rw[t];exact z,by rw[c];exact a7,by rw[c];exact a8,by rw[d];exact A,by rw[d];exact g,by rw[h1,c,d];exact j,by rw[h1,E];exact o⟩
theorem cL.rd{n k:Nat}(r:cL S n h rho k X){b:B}(x:b.den){K:b.den->aK}(d:(oN X)[i]?=some (b.inj x))(c:wp P (K x) h Q) :
  wp P (bD (aJ (some X.b))<|bD (aJ (some X.b))<|.load (.one b) (aB (some X.b) i) K) h Q:=
 aL rfl (aL rfl (aX (b:=b) (X.b.add i) x rfl (aI.1 r.ob.cells i _ d) c))
theorem cL.wc{n k:Nat}(Y:Bk){v:Value}{K:aK}(r:cL S n h rho k X)(hi:i<10)(z:flat v=true)(B:oN Y=(oN X).set i v)(hb:Y.b=X.b)(h1:Y.T=X.T)(d:Y.U=X.U)(g:Y.R=X.R)(j:Y.m=X.m)(p:Y.ms=X.ms)(t:Y.w=X.w)(x:Y.ws=X.ws)(y:Y.now=X.now)
  (A:∀h',cL S n h' rho k Y->aY (λi=>i=X.b.block) h h'->wp P K h' Q) :
  wp P (bD (aJ (some X.b))<|bD (aJ (some X.b))<|.store (aB (some X.b) i) [v] K) h Q:=by
 refine aL rfl (aL rfl (eW v r.ob (by simp[oN];exact hi) z λh' o u=>?_));have c:aY (λi=>i=X.b.block) h h':=aY.dP u λa ha _=>by cases ha;rfl
 exact A h' {toRestR:=(r.toRestR.aP (rho':=rho) c (λi hi e=>by subst e;have:=r.rb;omega) λ_ _ _=>rfl).re h1 d g j p t x y,ob:=by rw[hb,B];exact o,rb:=by rw[hb];exact r.rb} c
end
section
variable{P:Program}{S:cG}{h:aE}{Q:Nat->bE->aE->Prop}{n k:Nat}{rho:Nat->Nat}{X:Bk}
theorem Vc(r:cL S n h rho k X):aS P (yL S (some X.b)) [tP] h λ(y:OA×Unit) _=>y.1=some X.T.p:=by
 unfold yL aS;exact r.rd (b:=.ptr) (some X.T.p) rfl (aC ⟨rfl,Ext.refl _,(some X.T.p,()),rfl,rfl⟩)
def G1(X:Bk):Bool:=decide (X.state≠X.saved) || (X.now.map (·.ch)).getD false
theorem b_(r:cL S n h rho k X):aS P (uO S (some X.b)) [tB] h λ(y:Bool×Unit) _=>y.1=G1 X:=by
 unfold uO aS;refine bW (G1 X=true) ?_ λg t p hb=>aC ⟨rfl,p,(g,()),rfl,by cases g<;>cases u:G1 X<;>simp_all⟩;refine r.rd (b:=bI) X.state rfl (r.rd (b:=bI) X.saved rfl (aG (λc=>aC ⟨rfl,Ext.refl _,true,rfl,?_⟩) λc=>?_))
 .have:X.state≠X.saved:=by simpa[HF] using c
  simp[G1,this]
 .have j:X.state=X.saved:=by simpa[HF] using c
  cases d:X.now with
  |none=>
   refine r.rd (b:=.ptr) none (by simp[oN,d,B.inj]) (aG (λc=>by cases c) λ_=>aC ⟨rfl,Ext.refl _,false,rfl,?_⟩);simp[G1,j,d]
  |some o=>
   have ro:=r.nw o d;refine r.rd (b:=.ptr) (some o.o) (by simp[oN,d,B.inj]) (aG (λ_=>?_) λc=>by cases c);refine r.rd (b:=.ptr) (some o.o) (by simp[oN,d,B.inj]) (aL rfl (aL rfl (aX (b:=.bool) (o.o.add 9) o.ch rfl (aI.1 ro.ob.cells 9 _ rfl) (aC ⟨rfl,Ext.refl _,o.ch,rfl,?_⟩))));simp[G1,j,d]
theorem ay(r:cL S n h rho k X):aS P (uN S (some X.b)) [tI, tI] h λ(y:Int×Int×Unit) _=>y.1=X.U.2.length/\y.2.1=X.R.2.length:=by
 unfold uN aS;have hu:X.U.1.len=X.U.2.length:=by have:=r.ou.1;simpa[oI] using this
 have hr:X.R.1.len=X.R.2.length:=by have:=r.KS.1;simpa[oI] using this
 refine r.rd (b:=.sl) X.U.1 rfl (r.rd (b:=.sl) X.R.1 rfl (aC ⟨rfl,Ext.refl _,(_,_,()),rfl,?_,?_⟩))
 .dsimp only;rw[hu]
 .dsimp only;rw[hr]
theorem XS(r:cL S n h rho k X):aS P (sN S (some X.b)) [tB] h λ(y:Bool×Unit) _=>y.1=X.now.isSome:=by
 unfold sN aS;refine r.rd (b:=.ptr) (X.now.map (·.o)) rfl (aC ⟨rfl,Ext.refl _,(_,()),rfl,?_⟩);cases X.now<;>rfl
def DF(X:Bk):Bk:=if X.now.isNone then {X with saved:=X.state} else X
theorem bc(r:cL S n h rho k X):Ev (λi=>i=X.b.block) P (uP S (some X.b)) [] h λ_ h'=>cL S n h' rho k (DF X):=by
 unfold uP Ev;refine r.rd (b:=.ptr) (X.now.map (·.o)) rfl (aG (λd=>?_) λd=>aC ⟨rfl,aY.refl _ _,(),rfl,?_⟩)
 .have g:X.now=none:=by cases j:X.now<;>simp[j,fI]at d⊢
  refine r.rd (b:=bI) X.state rfl (r.wc {X with saved:=X.state} (i:=8) (by decide) rfl rfl rfl rfl rfl rfl rfl rfl rfl rfl rfl λh' p c=>aC ⟨rfl,c,(),rfl,?_⟩);have:DF X={X with saved:=X.state}:=if_pos (by rw[g];rfl);dsimp only;rw[this];exact p
 .have g:X.now.isNone=false:=by cases j:X.now<;>simp[j,fI]at d⊢
  have:DF X=X:=if_neg (by rw[g];decide);dsimp only;rw[this];exact r
def Qa(a:Int):Prop:=(97<=a/\a<=122)\/a=39\/a=60\/a=62
theorem X9{a:Int}:aS P (rL S a) [tB] h λ(y:Bool×Unit) _=>y.1=true↔Qa a:=by
 unfold rL aS;have tail:wp P (aR (fU a 39) (.ret 0 [.bool true])<|aR (fU a 60) (.ret 0 [.bool true])<|.ret 0 [.bool (fU a 62)]) h λt vs h'=>t=0/\Ext h h'/\∃b,vs=[.bool b]/\(b=true↔a=39\/a=60\/a=62):=by
  refine aG (λc=>aC ⟨rfl,Ext.refl _,true,rfl,?_⟩) λc=>aG (λd=>aC ⟨rfl,Ext.refl _,true,rfl,?_⟩) λd=>aC ⟨rfl,Ext.refl _,_,rfl,?_⟩
  .have:a=39:=by simpa[fU] using c
   simp[this]
  .have:a=60:=by simpa[fU] using d
   simp[this]
  .have o:a≠39:=by simpa[fU] using c
   have u:a≠60:=by simpa[fU] using d
   simp[fU,o,u]
 refine bW (Qa a) ?_ λp o r hb=>aC ⟨rfl,r,(p,()),rfl,hb⟩;refine aG (λc=>aG (λd=>aC ⟨rfl,Ext.refl _,true,rfl,?_⟩) λd=>cU _ (λt vs h' ⟨a1,a2,b,g,j⟩=>⟨a1,a2,b,g,?_⟩) tail) λc=>cU _ (λt vs h' ⟨a1,a2,b,g,j⟩=>⟨a1,a2,b,g,?_⟩) tail
 .rw[dT]at c;rw[gD]at d
  exact⟨λ_=>.inl ⟨c,d⟩,λ_=>rfl⟩
 .rw[nQ]at d
  rw[j];unfold Qa;omega
 .rw[fC]at c
  rw[j];unfold Qa;omega
theorem jj{name:Int}(r:cL S n h rho k X):aS P (yK S (some X.b) name) [tI, tI] h λ(y:Int×Int×Unit) _=>(iX name X.ms=none/\y.1=0/\y.2.1=74)\/(iX name X.ms=some y.1/\y.2.1=0):=by
 unfold yK aS;refine r.rd (b:=.map) (some X.m) rfl (my r.mp ?_);cases hm:iX name X.ms with
 |none=>exact aG (λ_=>aC ⟨rfl,Ext.refl _,(0,74,()),rfl, .inl ⟨rfl,rfl,rfl⟩⟩) λc=>by cases c
 |some v=>exact aG (λc=>by cases c) λ_=>aC ⟨rfl,Ext.refl _,(v,0,()),rfl, .inr ⟨rfl,rfl⟩⟩
theorem Wm(r:cL S n h rho k X)(d:X.ws.length<=1099511627776):aS P (qQ S (some X.b)) [tS] h λ(y:Sl×Unit) h'=>bR h.size .i64 h' y.1 X.ws:=by
 unfold qQ aS;refine r.rd (b:=.sl) X.w rfl (aM (PH r.ow.kZ d) λ⟨(y:Sl),_⟩ g c o1=>aC ⟨rfl,c,(y,()),rfl,o1⟩)
end
section
variable{P:Program}{S:cG}{h:aE}{Q:Nat->bE->aE->Prop}{n k:Nat}{rho:Nat->Nat}{X:Bk}
section parts
variable{h':aE}{rho':Nat->Nat}{F:Nat->Prop}
variable{T':TX}
theorem RestR.tK(r:RestR S n h rho k X)(c:aY F h h')(b:∀i,i<h.size->F i->rho i≠k+8):eM S n h' X.T:=r.t.oQ c λi hi d=>b i (r.t.lo i hi).2 d (r.rt i hi)
theorem RestR.pk(r:RestR S n h rho k X)(h0:∀i,i<h.size->rho i=k+8->rho' i=k+8):∀i,X.T.Z i->rho' i=k+8:=λi hi=>h0 i (r.t.lo i hi).2 (r.rt i hi)
theorem RestR.gr(r:RestR S n h rho k X)(c:aY F h h')(b:∀i,i<h.size->F i->rho i≠k+2):sS h' X.m X.ms:=r.mp.oQ c λd=>b _ r.mp.lt d r.rm
theorem RestR.mw(r:RestR S n h rho k X)(h0:∀i,i<h.size->rho i=k+2->rho' i=k+2):rho' X.m=k+2:=h0 _ r.mp.lt r.rm
theorem RestR.gz(r:RestR S n h rho k X)(c:aY F h h')(b:∀i,i<h.size->F i->rho i≠k+3):bR n .i64 h' X.w X.ws:=c.pW r.ow λa ha d=>b _ (r.ow.own.lt ha).2 d (r.Es a ha)
theorem RestR.pw(r:RestR S n h rho k X)(h0:∀i,i<h.size->rho i=k+3->rho' i=k+3):∀a,X.w.aD=some a->rho' a.block=k+3:=λa ha=>h0 _ (r.ow.own.lt ha).2 (r.Es a ha)
theorem RestR.gy(r:RestR S n h rho k X)(c:aY F h h')(b:∀i,i<h.size->F i->rho i≠k+4):cC n 1 h' X.U.1 (oI X.U.2):=c.own r.ou λa ha d=>b _ (r.ou.lt ha).2 d (r.ru a ha)
theorem RestR.sx(r:RestR S n h rho k X)(h0:∀i,i<h.size->rho i=k+4->rho' i=k+4):∀a,X.U.1.aD=some a->rho' a.block=k+4:=λa ha=>h0 _ (r.ou.lt ha).2 (r.ru a ha)
theorem RestR.mm(r:RestR S n h rho k X)(c:aY F h h')(b:∀i,i<h.size->F i->rho i≠k+5):cC n 1 h' X.R.1 (oI X.R.2):=c.own r.KS λa ha d=>b _ (r.KS.lt ha).2 d (r.rr a ha)
theorem RestR.su(r:RestR S n h rho k X)(h0:∀i,i<h.size->rho i=k+5->rho' i=k+5):∀a,X.R.1.aD=some a->rho' a.block=k+5:=λa ha=>h0 _ (r.KS.lt ha).2 (r.rr a ha)
theorem RestR.gk(r:RestR S n h rho k X)(c:aY F h h')(b:∀i,i<h.size->F i->rho i≠0)(h0:∀i,i<h.size->rho i=0->rho' i=0)(o:T'.p=X.T.p)(j:∀s,s∈X.T.kept->s∈T'.kept):∀g,g∈X.U.2\/g∈X.R.2->TF n h' rho' T' g:=
  λg d=>(r.gs g d).aP c b h0 o j
theorem RestR.sf(r:RestR S n h rho k X)(c:aY F h h')(b:∀i,i<h.size->F i->rho i≠0/\rho i≠k+6/\rho i≠k+7/\rho i≠k+9/\rho i≠k+10)
    (h0:∀i,i<h.size->rho i=0\/rho i=k+6\/rho i=k+7\/rho i=k+9\/rho i=k+10->rho' i=rho i) (j:T'.p=X.T.p) (d:∀s,s∈X.T.kept->s∈T'.kept):∀o,X.now=some o->TH n h' rho' k T' o:=
  λo g=>(r.nw o g).aP c b h0 j d
end parts
variable{h':aE}{F:Nat->Prop}
theorem cL.vt(r:cL S n h rho k X)(c:aY F h h')(d:∀i,i<h.size->F i->rho i≠k+1):cC n 1 h' ⟨some X.b,10,10⟩ (oN X):=
  c.own r.ob λa ha g=>by cases ha;exact d _ (r.ob.lt rfl).2 g r.rb
theorem cL.marks{ms:fR}{ws:aW}(r:cL S n h rho k X)(c:aY F h h')(d:∀i,i<h.size->F i->rho i=k+2\/rho i=k+3)(hm:sS h' X.m ms)(hw:bR n .i64 h' X.w ws):cL S n h' rho k {X with ms:=ms,ws:=ws} where
  t:=r.tK c λi hi b=>by have:=d i hi b;omega
  rt:=r.rt
  mp:=hm
  rm:=r.rm
  ow:=hw
  Es:=r.Es
  ou:=r.gy c λi hi b=>by have:=d i hi b;omega
  ru:=r.ru
  KS:=r.mm c λi hi b=>by have:=d i hi b;omega
  rr:=r.rr
  gs:=r.gk c (λi hi b=>by have:=d i hi b;omega) (λ_ _ h=>h) rfl λ_ h=>h
  nw:=r.sf c (λi hi b=>by have:=d i hi b;omega) (λ_ _ _=>rfl) rfl λ_ h=>h
  ob:=r.vt c λi hi b=>by have:=d i hi b;omega
  rb:=r.rb
theorem Wk{name at_:Int}(r:cL S n h rho k X)(B:cR .i64 name)(A:cR .i64 at_) :
    wp P (qP S (some X.b) name at_) h λtg vs h'=>tg=0 /\
      ((¬Qa name/\vs=[aH 74]/\Ext h h')\/(Qa name/\¬(0<=at_/\at_<=(gS X.T.enc X.T.cur.ps).length)/\vs=[aH 2]/\Ext h h') \/
       (Qa name/\(0<=at_/\at_<=(gS X.T.enc X.T.cur.ps).length)/\vs=[aH 0]/\aY (λi=>i=X.m) h h'/\∃c,(∀e∈X.ms,e.2.2<c)/\cL S n h' rho k {X with ms:=IL name at_ X.ms c})):=by
  unfold qP;refine aM (X9) λ⟨(E:Bool),_⟩ H o hb=>aG (λd=>aC ⟨rfl, .inl ⟨λp=>?_,rfl,o⟩⟩) λd=>?_
  . rw[dN]at d
    have:=hb.2 p;dsimp only at this d;rw[this]at d;cases d
  . rw[eI]at d
    have p:=hb.1 d;have x:=r.ext o;refine aM (HT x.ob rfl x.t) λ⟨(G:Bool),_⟩ I w u=>aG (λg=>aC ⟨rfl, .inr (.inl ⟨p,λC=>?_,rfl,o.trans w⟩)⟩) λg=>?_
    . rw[dN]at g
      have:=u.2 C;dsimp only at this g;rw[this]at g;cases g
    . rw[eI]at g
      have j:=x.ext w;refine j.rd (b:=.map) (some X.m) rfl (Zy j.mp B A λJ c y D z=>aC ⟨rfl, .inr (.inr ⟨p,u.1 g,rfl,aY.pre (o.trans w) y,c,z,?_⟩)⟩);have:=j.marks y (λi hi e=>by subst e;exact .inl j.rm) D (j.gz y λi hi e=>by subst e;rw[j.rm];omega);exact this
def qz(x:List mE)(X:Bk):Bk:={X with ms:=Bn x X.ms,ws:=kX x X.ws}
theorem OO{x:Xw}(r:cL S n h rho k X)(B:(Sh.list RK).ok h x)(g:∀h',aY (Ad X.m X.w) h h'->(Sh.list RK).ok h' x)(hb:KX x.2)(z:∀e∈X.ms,0<=e.2.1/\e.2.1<=2199023255552)(d:∀v∈X.ws,v<=2199023255552) :
    Ev (Ad X.m X.w) P (lE S (some X.b) x.1) [] h λ_ h'=>cL S n h' rho k (qz x.2 X):=by
  have c:∀a,X.w.aD=some a->a.block≠X.b.block:=λa ha e=>by have t:=r.Es a ha;have A:=r.rb;rw[e]at t;omega
  refine cU _ (λtg vs h' ⟨a1,a2,y,j,o,p⟩=>⟨a1,a2,y,j,?_⟩) (X6 (S:=S) r.ob rfl rfl r.mp r.ow c g hb z d);refine r.marks a2 (λi hi u=>?_) o p;rcases u with rfl|⟨a,ha,rfl⟩
  . exact .inl r.rm
  . exact .inr (r.Es a ha)
end
section
variable{P:Program}{S:cG}{h:aE}{Q:Nat->bE->aE->Prop}{n k:Nat}{rho:Nat->Nat}{X:Bk}
abbrev kv(e:Int×Int×Nat):Int×Int:=(e.1,e.2.1)
abbrev SA(T:TX):TX:={T with kept:=T.cur::T.kept}
def qH(X:Bk)(at_:Int):Prop:=0<=at_/\at_<=(gS X.T.enc X.T.cur.ps).length
theorem RV{at_:Int}{o:Kg}(r:cL S n h rho k X)(d:X.now=some o):wp P (oX S (some X.b) at_) h λtg vs h'=>tg=0/\vs=[aH 70]/\h'=h:=by
 unfold oX;exact r.rd (b:=.ptr) (some o.o) (by simp[oN,d,B.inj]) (aG (λ_=>aC ⟨rfl,rfl,rfl⟩) λc=>by cases c)
theorem Xb{m o:Nat}{l:fR}{a:Addr}{n:Nat}{vs:bE}{K:Nat->bE->aK}(hm:sS h m l)(w:sS h o [])(ab:m≠o)(J:cC n 1 h ⟨some a,10,10⟩ vs)(W:vs[7]?=some (.map (some o)))
  (Y:∀h' d,aY (λi=>i=o) h h'->sS h' o d->(d.map kv).Perm (l.map kv)->wp P (K 2 []) h' Q) :
  wp P (.KP (some m) λit=>.bind (.loop [] () λ_=>.KR (some it) (λ_ _=>.Fl (some it) λx y=>.load (.one .map) (aB (some a) 7) λ(p:Option Nat)=>.QG p x y<|.ret 0 []) (.ret 2 [])) K) h Q:=by
 have C:a.block≠o:=by
  intro e;obtain⟨c,B,_⟩:=w;obtain⟨_,_,_,o4⟩:=J;obtain⟨_,_,_,cs,el,O,_⟩:=o4;rw[<-e,O]at B;cases B
 have H:=hm.lt;have Z:=w.lt;have G:=hm;obtain⟨c,D,ok⟩:=hm;refine Pt (m:=m) (l:=l) (t:=2) (body:=λx y=>.load (.one .map) (aB (some a) 7) λ(p:Option Nat)=>.QG p x y<|.ret 0 []) G (by decide)
  (λtold g=>aY (λi=>i=o) h g/\(∀x∈told,x∈l)/\∃d,sS g o d/\d.map kv=told.map kv)
  (λtold g ⟨u,_,_⟩=>⟨c,l,by rw[u.2.1 m H (by omega)];exact D,D,rfl,λe he _=>he⟩)
  (λtold g U ⟨u,z,d,ml,e⟩ v=>⟨u.trans v λi hi e=>by omega,z,d,ml.oQ v (by omega),e⟩)
  (λg e _=>⟨aY.bH e,by simp,[],w.ext e,rfl⟩) (λtold e g ⟨u,z,d,ml,r⟩ E he I=>?_) λtold g hp ⟨u,z,d,ml,r⟩=>Y g d u ml (by rw[r];exact hp.map kv)
 have og:=u.own J λb hb e=>by cases hb;exact C e
 have A:iX e.1 d=none:=by
  rw[Hf];intro j;have V:d.map (·.1)=told.map (·.1):=by
   have:=congrArg (List.map Prod.fst) r;rw[sL,sL]at this;exact this
  rw[V]at j;obtain⟨y,L,M⟩:=dC.1 j;have:=JR (f:=λe:Int×Int×Nat=>e.1) ok.keys _ (z y L) _ he M;subst this;exact I L
 refine aX (b:=.map) (a.add 7) (some o) rfl (aI.1 og.cells 7 _ W) (Zy ml (ok.fk e he).1 (ok.fk e he).2 λU c2 N m2 _=>aC ⟨rfl,rfl,?_,?_,λx j=>?_,_,m2,?_⟩)
 .exact N.2.1 _ E (by omega)
 .exact u.trans N λi _ hi=>hi
 .rcases dD.1 j with j|j
  .exact z x j
  .simp at j;subst j;exact he
 .simp only[IL,A]
  simp[r]
structure iu(S:cG)(n k:Nat)(X:Bk)(h:aE)(rho:Nat->Nat)(at_:Int)(h':aE)(rho':Nat->Nat)(o:Kg):Prop where
 st:cQ k h rho h' rho'
 c:aY (λi=>i=X.b.block) h h'
 r:cL S n h' rho' k {X with now:=some o,T:=SA X.T}
 bg:o.bg=at_
 sb:o.sb=X.T.cur
 mv:o.mv=(⟨none,0,0⟩,[])
 old:o.old=X.state
 ms:(o.ms.map kv).Perm (X.ms.map kv)
 ws:o.ws=X.ws
 ch:o.ch=false
open Classical in
theorem ax{at_:Int}(r:cL S n h rho k X)(hn:X.now=none)(hl:X.ws.length<=1099511627776) :
  wp P (oX S (some X.b) at_) h λtg vs h'=>tg=0/\((¬qH X at_/\vs=[aH 2]/\Ext h h')\/(qH X at_/\vs=[aH 0]/\∃rho' o,iu S n k X h rho at_ h' rho' o)):=by
 unfold oX;have b3:n<=h.size:=dI (r.ob.lt rfl).1 (rH (r.ob.lt rfl).2);refine r.rd (b:=.ptr) none (by simp[oN,hn,B.inj]) (aG (λA=>by cases A) λ_=>?_);refine aM (HT (at_:=at_) r.ob rfl r.t) λ⟨(b1:Bool),_⟩ u O hb=>aG (λA=>aC ⟨rfl, .inl ⟨λH=>?_,rfl,O⟩⟩) λA=>?_
 .rw[dN]at A
  have:=hb.2 H;dsimp only at this A;rw[this]at A;cases A
 rw[eI]at A;have a3:qH X at_:=hb.1 A;have r1:=r.ext O;refine VP λW e2 z2 m2=>?_;have r2:=r1.ext e2;refine r2.rd (b:=.sl) X.w rfl (aM (PH r2.ow.kZ hl) λ⟨(z:Sl),_⟩ c e3 Z=>?_);have Z:bR W.size .i64 c z X.ws:=Z;dsimp only;refine λelem=>?_;have J:Ext c (c.push (.cells [.pointer none, .pointer none,aH 0,aH 0, .slice none 0 0,aH 0,aH 0, .map (some u.size),dG z, .bool false].toArray elem)):=Ext.push ..;have o4:cC c.size 1 (c.push (.cells [.pointer none, .pointer none,aH 0,aH 0, .slice none 0 0,aH 0,aH 0, .map (some u.size),dG z, .bool false].toArray elem)) ⟨some ⟨c.size,0,none⟩,10,10⟩ [.pointer none, .pointer none,aH 0,aH 0, .slice none 0 0,aH 0,aH 0, .map (some u.size),dG z, .bool false]:=bX rfl (by decide) (by decide);generalize c.push (.cells [.pointer none, .pointer none,aH 0,aH 0, .slice none 0 0,aH 0,aH 0, .map (some u.size),dG z, .bool false].toArray elem)=L at J o4⊢;have r4:=(r2.ext e3).ext J;refine r4.rd (b:=.ptr) (some X.T.p) rfl (r4.rd (b:=bI) X.state rfl (aM (XU r4.t) λ⟨(sp:OA),_⟩ h5 K ba=>?_));obtain⟨sn,rfl,Y⟩:=ba;have Y:Gr L.size h5 sn X.T.p X.T.cur:=Y;dsimp only;have r5:=r4.ext K;refine sC (aI.1 r5.ob.cells 7 _ rfl) ?_;have o5:=(aY.bH (F:=λ_=>False) K).own o4 λ_ _ x=>x;have bo:∀j,aB (aB (some (Addr.mk c.size 0 none)) 0) j=aB (some ⟨c.size,0,none⟩) j:=λj=>by rw[pE,add_zero']
 simp only[bo];refine aL rfl (eW (.pointer (some sn)) o5 (by simp) rfl λh6 o6 u6=>aL rfl (eW (aH at_) o6 (by simp) rfl λh7 o7 u7=>aL rfl (eW (aH X.state) o7 (by simp) rfl λM o8 u8=>?_)));simp only[xS,List.set_cons_succ]at o8;have b6:W.size<=c.size:=e3.1;have b8:=J.1;have b9:=K.1;have bt:Ext L M\/True:=.inr trivial;have E:aY (λi=>i=c.size) h5 M:=((aY.dP (F:=λi=>i=c.size) u6 λa ha _=>by cases ha;rfl).trans (aY.dP (F:=λi=>i=c.size) u7 λa ha _=>by cases ha;rfl) λ_ _ x=>x).trans (aY.dP (F:=λi=>i=c.size) u8 λa ha _=>by cases ha;rfl) λ_ _ x=>x;have eA:Ext h c:=((O.trans e2).trans e3);have U:Ext h M:=by
  have:=(eA.trans J).trans K;exact⟨dI this.1 E.1,λi hi=>by rw[E.2.1 i (pI hi this.1) (by have:=eA.1;omega)];exact this.2.1 i hi,λx H=>E.2.2 x (this.2.2 x H)⟩
 have r8:=r.ext U;have m8:sS M u.size []:=(((m2.ext e3).ext J).ext K).oQ E (by omega);have s8:=E.own Y λa ha e=>by cases ha;have u:L.size<=sn.block:=(Y.lt rfl).1;have W:c.size<L.size:=(o4.lt rfl).2;have e:sn.block=c.size:=e;omega
 have w8:bR W.size .i64 M z X.ws:=E.pW (((aY.bH (F:=λ_=>False) (J.trans K))).pW Z λ_ _ x=>x) λa ha e=>by have:=(Z.own.lt ha).2;omega
 refine r8.rd (b:=.map) (some X.m) rfl (Xb r8.mp m8 (by have:=r.mp.lt;have:=O.1;omega) o8 rfl λh9 l' u9 m9 hp=>bK (bV ?_));have a0:X.b.block<h.size:=(r.ob.lt rfl).2;have b4:=O.1;have cd:=E.1;have b2:c.size<L.size:=(o4.lt rfl).2;have bs:L.size<=sn.block:=(Y.lt rfl).1;have I:∀a,z.aD=some a->W.size<=a.block/\a.block<c.size:=λa ha=>Z.own.lt ha;have G:aY (λi=>i=u.size) M h9:=u9;have bb:=G.own r8.ob λa ha e=>by cases ha;exact absurd (show X.b.block=u.size from e) (by omega)
 refine aL rfl (aL rfl (eW (.pointer (some ⟨c.size,0,none⟩)) bb (by simp[oN]) rfl λV ao bp=>?_));have C:aY (λi=>i=X.b.block) h9 V:=aY.dP bp λa ha _=>by cases ha;rfl
 have aw:Ext h h9:=⟨dI U.1 G.1,λi hi=>by rw[G.2.1 i (pI hi U.1) (by omega)];exact U.2.1 i hi,λx H=>G.2.2 x (U.2.2 x H)⟩;have D:aY (λi=>i=X.b.block) h V:=aY.pre aw C
 let rho':Nat->Nat:=λi=>if i<h.size then rho i else if i=u.size then k+9 else if i=c.size then k+6 else if (∃a,z.aD=some a/\a.block=i) then k+10 else 0
 have hold:∀i,i<h.size->rho' i=rho i:=λi hi=>if_pos hi;have d:∀j i,i<h.size->rho i=j->rho' i=j:=λj i hi e=>by rw[hold i hi];exact e
 have y:∀i,i<h.size->i=X.b.block->rho i=k+1:=λi _ e=>by rw[e];exact r.rb
 have a4:rho' u.size=k+9:=by show(if _ then _ else _)=_;rw[if_neg (by omega),if_pos rfl]
 have a6:rho' c.size=k+6:=by show(if _ then _ else _)=_;rw[if_neg (by omega),if_neg (by omega),if_pos rfl]
 have al:∀a,z.aD=some a->rho' a.block=k+10:=λa ha=>by
  have:=I a ha;show(if _ then _ else _)=_;rw[if_neg (by omega),if_neg (by omega),if_neg (by omega),if_pos ⟨a,ha,rfl⟩]
 have a9:rho' sn.block=0:=by
  show(if _ then _ else _)=_;rw[if_neg (by omega),if_neg (by omega),if_neg (by omega),if_neg];rintro⟨a,ha,e⟩;have:=I a ha;omega
 have mono:∀{m size:Nat} {g:aE} {s:Sl} {vs:bE},n<=m->cC m size g s vs->cC n size g s vs:=λhm ho=>by
  obtain⟨p1,p2,p3,N⟩:=ho;refine⟨p1,p2,p3,?_⟩;split at N
  .exact N
  .exact⟨N.1,N.2.1,dI hm N.2.2.1,N.2.2.2⟩
 let o:Kg:={o:=⟨c.size,0,none⟩,U8:=sn,sb:=X.T.cur,bg:=at_,mv:=(⟨none,0,0⟩,[]),old:=X.state,m:=u.size,ms:=l',w:=z,ws:=X.ws,ch:=false}
 have b0:∀{F:Nat->Prop} {g g':aE},aY F g g'->aY F g g':=λx=>x;have bd:TH n V rho' k (SA X.T) o:={
  ob:=mono (by omega) (C.own (G.own o8 λa ha e=>by cases ha;exact absurd (show c.size=u.size from e) (by omega)) λa ha e=>by cases ha;exact absurd (show c.size=X.b.block from e) (by omega))
  ro:=a6
  sn:=mono (by omega) (C.own (G.own s8 λa ha e=>by cases ha;exact absurd (show sn.block=u.size from e) (by omega)) λa ha e=>by cases ha;exact absurd (show sn.block=X.b.block from e) (by omega))
  ks:=cX ..
  rs:=a9
  mv:=⟨cC.nil _ _ _,λa ha=>(by cases ha),λx H=>(by cases H)⟩
  mp:=m9.oQ C (by omega)
  rm:=a4
  ow:=⟨mono (by omega) (C.own (G.own w8.own λa ha e=>by have:=I a ha;omega) λa ha e=>by have:=I a ha;omega),w8.wf⟩
  Es:=al}
 refine aC ⟨rfl, .inr ⟨a3,rfl,rho',o,⟨⟨D.mono λi hi e=>by rw[y i hi e];omega,λi hi _=>hold i hi,λi hi hj=>?_⟩,D,?_,rfl,rfl,rfl,rfl,hp,rfl,rfl⟩⟩⟩
 .by_cases ab:i<h.size
  .rw[hold i ab];rcases hj with hj|hj
   .omega
   .exact .inr hj
  .show(if _ then _ else _)=0\/_<(if _ then _ else _)/\(if _ then _ else _)<=_
   rw[if_neg ab];split
   .exact .inr (by omega)
   .split
    .exact .inr (by omega)
    .split
     .exact .inr (by omega)
     .exact .inl rfl
 .exact{
   t:=(r.tK D λi hi e=>by rw[y i hi e];omega).aP
   rt:=r.pk (d _)
   mp:=r.gr D λi hi e=>by rw[y i hi e];omega
   rm:=r.mw (d _)
   ow:=r.gz D λi hi e=>by rw[y i hi e];omega
   Es:=r.pw (d _)
   ou:=r.gy D λi hi e=>by rw[y i hi e];omega
   ru:=r.sx (d _)
   KS:=r.mm D λi hi e=>by rw[y i hi e];omega
   rr:=r.su (d _)
   gs:=r.gk D (λi hi e=>by rw[y i hi e];omega) (d _) rfl λs hs=>dZ _ hs
   nw:=λo' a5=>by cases a5;exact bd
   ob:=ao
   rb:=by rw[hold _ a0];exact r.rb}
end
section
variable{P:Program}{S:cG}{h:aE}{Q:Nat->bE->aE->Prop}{n k:Nat}{rho:Nat->Nat}{X:Bk}
structure V8(P:Program)(S:cG):Prop where
 shut:∀(b:OA) (h:aE) (R:aE->Prop),wp P (Et S b) h (λtag _ h'=>tag=0/\R h')->xT P S.yV [.pointer b] h R
theorem Tg{i:FuncId}{args:bE}{K:aK}(c:wp P K h λt vs h'=>xT P i args h' λb=>Q t vs b):wp P (.JB i args K) h Q:=c
theorem UH(C:V8 P S){b:Addr}{vs:bE}{R:aE->Prop}(ob:cC n 1 h ⟨some b,10,10⟩ vs)(c:∀h',cC n 1 h' ⟨some b,10,10⟩ (vs.set 6 (.pointer none))->aY (λi=>i=b.block) h h'->R h'):xT P S.yV [.pointer (some b)] h R:=by
 refine C.shut (some b) h R ?_;unfold Et;have d:vs.length=10:=by have:=ob.1;simpa using this.symm
 exact aL rfl (aL rfl (eW (.pointer none) ob (by omega) rfl λh' o u=>aC ⟨rfl,c h' o (aY.dP u λa ha _=>by cases ha;rfl)⟩))
theorem TQ(r:cL S n h rho k X)(d:X.now=none):wp P (qO S (some X.b)) h λtg vs h'=>tg=0/\vs=[aH 0,aH 71]/\h'=h:=by
 unfold qO;exact r.rd (b:=.ptr) none (by simp[oN,d,B.inj]) (aG (λ_=>aC ⟨rfl,rfl,rfl⟩) λc=>by cases c)
abbrev Yl(X:Bk)(o:Kg)(T':TX):Bk:={X with T:=T',m:=o.m,ms:=o.ms,w:=o.w,ws:=o.ws,now:=none}
open Classical in
theorem jh(C:V8 P S){o:Kg}(r:cL S n h rho k X)(hn:X.now=some o) :
  wp P (qO S (some X.b)) h λtg vs h'=>tg=0/\vs=[aH o.bg,aH 0]/\∃rho' T',cQ k h rho h' rho'/\cL S n h' rho' k (Yl X o T')/\L8 X.T T' h.size/\T'.cur=o.sb/\T'.A=X.T.A:=by
 unfold qO;have ro:=r.nw o hn;have M:X.b.block<h.size:=(r.ob.lt rfl).2;have ao:n<=h.size:=dI (r.ob.lt rfl).1 (rH M);have L:(oN X)[6]?=some (.pointer (some o.o)):=by simp[oN,hn]
 have V:∀j,aB (aB (some o.o) 0) j=aB (some o.o) j:=λj=>by rw[pE,add_zero']
 refine r.rd (b:=.ptr) (some o.o) L (aG (λhc=>by cases hc) λ_=>Tg ?_);refine r.rd (b:=.ptr) (some X.T.p) rfl (r.rd (b:=.ptr) (some o.o) L (aL rfl (aL rfl (aL rfl ?_))));rw[V];refine aX (b:=.ptr) (o.o.add 0) (some o.U8) rfl (aI.1 ro.ob.cells 0 _ rfl) ?_;refine eU (TP r.t ao ro.ks ro.sn) λtg vs g hx=>?_;obtain⟨rfl,rfl,c1,T',t1,nx,ab,hA⟩:=hx;refine⟨rfl,(0,()),rfl,?_⟩;have I:∀i,i<h.size->rF X.T i->rho i=k+8:=λi _ hi=>r.rt i (Jb r.t hi);have N:=r.vt c1 λi hi c=>by rw[I i hi c];omega
 have J:cC n 1 g ⟨some o.o,10,10⟩ (Bu o):=c1.own ro.ob λa ha c=>by cases ha;have G:=I _ (ro.ob.lt rfl).2 c;have z:=ro.ro;rw[z]at G;omega
 have U:∀{b:B} {i:Nat} (x:b.den) {K:b.den->aK} {Q:Nat->bE->aE->Prop},(oN X)[i]?=some (b.inj x)->wp P (K x) g Q->wp P (bD (aJ (some X.b))<|bD (aJ (some X.b))<|.load (.one b) (aB (some X.b) i) K) g Q:=
  @λb i x K Q hv hk=>aL rfl (aL rfl (aX (b:=b) (X.b.add i) x rfl (aI.1 N.cells _ _ hv) hk))
 refine U (b:=.ptr) (some o.o) L (aL rfl (aL rfl (aX (b:=.map) (o.o.add 7) (some o.m) rfl (aI.1 J.cells 7 _ rfl) ?_)));refine U (b:=.ptr) (some o.o) L (aL rfl (aL rfl (aX (b:=.sl) (o.o.add 8) o.w rfl (aI.1 J.cells 8 _ rfl) ?_)));refine aL rfl (aL rfl (eW (.map (some o.m)) N (by simp[oN]) rfl λG a3 u2=>?_));refine aL rfl (aL rfl (eW (dG o.w) a3 (by simp[oN]) rfl λz O u3=>?_));have c3:aY (λi=>i=X.b.block) g z:=(aY.dP (F:=λi=>i=X.b.block) u2 λa ha _=>by cases ha;rfl).trans (aY.dP (F:=λi=>i=X.b.block) u3 λa ha _=>by cases ha;rfl) λ_ _ x=>x;have a5:cC n 1 z ⟨some o.o,10,10⟩ (Bu o):=c3.own J λa ha e=>by cases ha;have G:=ro.ro;have z:=r.rb;have e:o.o.block=X.b.block:=e;rw[e]at G;omega
 refine aL rfl (aL rfl (aX (b:=.ptr) (X.b.add 6) (some o.o) rfl (aI.1 O.cells 6 _ (by simp[oN,hn,B.inj])) (aL rfl (aL rfl (aL rfl ?_)))));rw[V];refine aX (b:=bI) (o.o.add 2) o.bg rfl (aI.1 a5.cells 2 _ rfl) (aC (UH C O λY a4 W=>⟨rfl,rfl,?_⟩));have y:aY (λi=>rF X.T i\/i=X.b.block) h Y:=(c1.mono λi _ hi=>.inl hi).trans (c3.trans W λ_ _ x=>x) λi _ hi=>.inr hi;have D:∀i,i<h.size->(rF X.T i\/i=X.b.block)->rho i=k+8\/rho i=k+1:=λi hi c=>c.elim (λh=>.inl (I i hi h)) λe=>.inr (by rw[e];exact r.rb)
 let rho':Nat->Nat:=λi=>if i<h.size then (if rho i=k+9 then k+2 else if rho i=k+10 then k+3 else if rho i=k+2\/rho i=k+3\/rho i=k+6\/rho i=k+7 then 0 else rho i) else if T'.Z i then k+8 else 0
 have hold:∀i,i<h.size->rho' i=(if rho i=k+9 then k+2 else if rho i=k+10 then k+3 else if rho i=k+2\/rho i=k+3\/rho i=k+6\/rho i=k+7 then 0 else rho i):=λi hi=>if_pos hi;have d:∀j,(j<=k+1\/j=k+4\/j=k+5\/j=k+8\/k+10<j)->∀i,i<h.size->rho i=j->rho' i=j:=λj H i hi e=>by rw[hold i hi,e,if_neg (by omega),if_neg (by omega),if_neg (by omega)]
 have a6:=c3.1;have a9:=W.1;refine⟨rho',T',⟨y.mono λi hi c=>by have:=D i hi c;omega,λi hi ho=>d _ (by omega) i hi rfl,λi hi H=>?_⟩,?_,nx,ab,hA⟩
 .by_cases u:i<h.size
  .rw[hold i u]
   split
   .exact .inr (by omega)
   .split
    .exact .inr (by omega)
    .split
     .exact .inl rfl
     .rcases H with H|H
      .omega
      .exact .inr H
  .show(if _ then _ else _)=0\/_<(if _ then _ else _)/\(if _ then _ else _)<=_
   rw[if_neg u];split
   .exact .inr (by omega)
   .exact .inl rfl
 .have al:aY (λi=>i=X.b.block) g Y:=c3.trans W λ_ _ x=>x
  have a0:¬T'.Z X.b.block:=λE=>by
   rcases nx.zn _ E with g|g
   .have G:=r.rt _ g;have z:=r.rb;omega
   .omega
  exact{
   t:=t1.oQ al λi E e=>a0 (by rw[<-e];exact E)
   rt:=λi E=>by
    by_cases u:i<h.size
    .rcases nx.zn i E with g|g
     .exact d _ (by omega) i u (r.rt i g)
     .omega
    .show(if _ then _ else _)=_
     rw[if_neg u,if_pos E]
   mp:=ro.mp.oQ y λc=>by have:=D _ ro.mp.lt c;have:=ro.rm;omega
   rm:=by show rho' o.m=_;rw[hold _ ro.mp.lt,if_pos ro.rm]
   ow:=y.pW ro.ow λa ha c=>by have:=D _ (ro.ow.own.lt ha).2 c;have:=ro.Es a ha;omega
   Es:=λa ha=>by show rho' a.block=_;rw[hold _ (ro.ow.own.lt ha).2,if_neg (by have:=ro.Es a ha;omega),if_pos (ro.Es a ha)]
   ou:=r.gy y λi hi c=>by have:=D i hi c;omega
   ru:=r.sx (d _ (by omega))
   KS:=r.mm y λi hi c=>by have:=D i hi c;omega
   rr:=r.su (d _ (by omega))
   gs:=r.gk y (λi hi c=>by have:=D i hi c;omega) (d _ (by omega)) nx.p λs hs=>by rw[nx.kept];exact hs
   nw:=λo' aw=>by cases aw
   ob:=by
    have:oN (Yl X o T')=(((oN X).set 4 (.map (some o.m))).set 5 (dG o.w)).set 6 (.pointer none):=by simp[oN,nx.p]
    show cC n 1 Y ⟨some X.b,10,10⟩ (oN (Yl X o T'));rw[this];exact a4
   rb:=d _ (by omega) _ M r.rb}
end
section
variable{P:Program}{S:cG}{h:aE}{Q:Nat->bE->aE->Prop}{n k:Nat}{rho:Nat->Nat}{X:Bk}
structure iz(depth:Int)(T:TX)(X:Bk):Prop where
 T:X.T=T
 depth:X.depth=depth
 U:X.U.2=[]
 R:X.R.2=[]
 ms:X.ms=[]
 ws:X.ws=[]
 now:X.now=none
 Bq:X.state=0/\X.saved=0/\X.last=0
inductive Da(S:cG)(h0 h:aE)(enc limit depth:Int)(l:aW):OA->Int->Prop where
 |deep:¬(1<=depth/\depth<=200)->Da S h0 h enc limit depth l none 1
 |text {g g':aE} {e:Int}:1<=depth/\depth<=200->e≠0->HM S g g' enc limit l none e->Da S h0 h enc limit depth l none e
 | ok (T:TX) (X:Bk):1<=depth/\depth<=200->eE enc->0<=limit/\limit<=65536->l.length<=limit->T.enc=enc->T.limit=limit->T.kept=[]->T.A=[]->gS enc T.cur.ps=gT 0 0 (bC enc l)->dK T.cur.ps=l ->
   iz depth T X->(∀(k:Nat) (rho:Nat->Nat),∃rho',cQ k h0 rho h rho'/\(∀i,i<h0.size->rho' i=rho i)/\cL S h0.size h rho' k X)->Da S h0 h enc limit depth l (some X.b) 0
theorem eM.mono{m:Nat}{T:TX}(t:eM S n h T)(hm:m<=n):eM S m h T:=
 ⟨t.enc,t.Bp,t.ob.mono hm,t.ad.mono hm,t.Z0,t.ph,t.cur,t.kept,t.zp,t.za,λi hi=>⟨dI hm (t.lo i hi).1,(t.lo i hi).2⟩⟩
open Classical in
theorem av(M:jM P S){enc limit depth:Int}{b:Sl}{l:aW}(hb:kB .u8 h b l) :
  aS P (uV S enc b limit depth) [tP, tI] h λ(y:OA×Int×Unit) h'=>Da S h h' enc limit depth l y.1 y.2.1:=by
 unfold uV aS;refine bW (¬(1<=depth/\depth<=200)) (aG (λd=>aC ⟨rfl,Ext.refl _,true,rfl,?_⟩) λd=>aC ⟨rfl,Ext.refl _,_,rfl,?_⟩) λbb G z J=>aG (λd=>aC ⟨rfl,z,(none,1,()),rfl, .deep (J.1 d)⟩) λd=>?_
 .rw[aV]at d;exact⟨λ_=>by omega,λ_=>rfl⟩
 .rw[aZ]at d;rw[dQ];exact⟨λ_=>by omega,λ_=>by omega⟩
 have O:1<=depth/\depth<=200:=by
  by_cases B:1<=depth/\depth<=200
  .exact B
  .have:=J.2 B
   dsimp only at d;rw[this]at d;cases d
 refine aM (jk M (enc:=enc) (limit:=limit) (hb.ext z)) λ⟨(p:OA),(er:Int),_⟩ j D B=>?_;have B:HM S G j enc limit l p er:=B;dsimp only;have bad:∀e:Int,e≠0->HM S G j enc limit l none e->wp P (aR (HF e 0) (.ret 0 [.pointer none,aH e]) .fail) j (λt vs h'=>t=0/\Ext h h'/\∃x:OA×Int×Unit,vs=Ts.inj [tP, tI] x/\Da S h h' enc limit depth l x.1 x.2.1):=λe he C=>
  aG (λ_=>aC ⟨rfl,z.trans D,(none,e,()),rfl, .text O he C⟩) λd=>by rw[lX]at d;exact absurd d he
 have u:∀(e:Int) (K:aK),e≠0->HM S G j enc limit l none e->wp P (aR (HF e 0) (.ret 0 [.pointer none,aH e]) K) j (λt vs h'=>t=0/\Ext h h'/\∃x:OA×Int×Unit,vs=Ts.inj [tP, tI] x/\Da S h h' enc limit depth l x.1 x.2.1):=λe K he C=>
  aG (λ_=>aC ⟨rfl,z.trans D,(none,e,()),rfl, .text O he C⟩) λd=>by rw[lX]at d;exact absurd d he
 cases B with
 |enc a=>exact u _ _ (by decide) (.enc a)
 |arg a b=>exact u _ _ (by decide) (.arg a b)
 |full a b c=>exact u _ _ (by decide) (.full a b c)
 |ok T a b c t en li ke A el HD zn=>
  refine aG (λd=>by cases d) λ_=>VP λr W z3 m3=>?_;refine λelem=>?_;have E:Ext r (r.push (.cells [.pointer (some T.p),aH depth, .slice none 0 0, .slice none 0 0, .map (some j.size), .slice none 0 0, .pointer none,aH 0,aH 0,aH 0].toArray elem)):=Ext.push ..;have o4:cC r.size 1 (r.push (.cells [.pointer (some T.p),aH depth, .slice none 0 0, .slice none 0 0, .map (some j.size), .slice none 0 0, .pointer none,aH 0,aH 0,aH 0].toArray elem)) ⟨some ⟨r.size,0,none⟩,10,10⟩ [.pointer (some T.p),aH depth, .slice none 0 0, .slice none 0 0, .map (some j.size), .slice none 0 0, .pointer none,aH 0,aH 0,aH 0]:=bX rfl (by decide) (by decide);generalize r.push (.cells [.pointer (some T.p),aH depth, .slice none 0 0, .slice none 0 0, .map (some j.size), .slice none 0 0, .pointer none,aH 0,aH 0,aH 0].toArray elem)=h4 at E o4⊢;have ao:=z.1;have aw:=D.1;have Y:Ext h h4:=((z.trans D).trans W).trans E
  let X:Bk:={b:=⟨r.size,0,none⟩,T:=T,depth:=depth,U:=(⟨none,0,0⟩,[]),R:=(⟨none,0,0⟩,[]),m:=j.size,ms:=[],w:=⟨none,0,0⟩,ws:=[],now:=none,state:=0,saved:=0,last:=0}
  refine aC ⟨rfl,Y,(some X.b,0,()),rfl, .ok T X O a b c en li ke A el HD ⟨rfl,rfl,rfl,rfl,rfl,rfl,rfl,rfl,rfl,rfl⟩ λk rho=>?_⟩
  let rho':Nat->Nat:=λi=>if i<h.size then rho i else if T.Z i then k+8 else if i=j.size then k+2 else if i=r.size then k+1 else 0
  have N:∀i,T.Z i->G.size<=i/\i<j.size:=λi hi=>t.lo i hi;have ab:¬T.Z j.size:=λV=>by have:=N _ V;omega
  have al:¬T.Z r.size:=λV=>by have:=N _ V;omega
  have r2:rho' j.size=k+2:=by show(if _ then _ else _)=_;rw[if_neg (by omega),if_neg ab,if_pos rfl]
  have r3:rho' r.size=k+1:=by show(if _ then _ else _)=_;rw[if_neg (by omega),if_neg al,if_neg (by omega),if_pos rfl]
  refine⟨rho',⟨aY.bH Y,λi hi _=>if_pos hi,λi hi I=>?_⟩,λi hi=>if_pos hi,?_⟩
  .by_cases L:i<h.size
   .have:rho' i=rho i:=if_pos L
    rw[this];rcases I with I|I
    .omega
    .exact .inr I
   .show(if _ then _ else _)=0\/_<(if _ then _ else _)/\(if _ then _ else _)<=_
    rw[if_neg L];split
    .exact .inr (by omega)
    .split
     .exact .inr (by omega)
     .split
      .exact .inr (by omega)
      .exact .inl rfl
  .exact{
    t:=eM.mono ((t.ext W).ext E) (by omega)
    rt:=λi hi=>by have:=N i hi;show(if _ then _ else _)=_;rw[if_neg (by omega),if_pos hi]
    mp:=m3.ext E
    rm:=r2
    ow:=bR.nil _ _ _
    Es:=λa ha=>by cases ha
    ou:=cC.nil _ _ _
    ru:=λa ha=>by cases ha
    KS:=cC.nil _ _ _
    rr:=λa ha=>by cases ha
    gs:=λg H=>by rcases H with H|H<;>cases H
    nw:=λo C=>by cases C
    ob:=cC.mono o4 (by omega)
    rb:=r3}
end
section
variable{P:Program}{S:cG}{h:aE}{Q:Nat->bE->aE->Prop}{n k:Nat}{rho:Nat->Nat}{X:Bk}
open Classical in
theorem bh{s:Sl}{l:aW}(r:cL S n h rho k X)(z:kB .i64 h s l)(V:l.length<=1099511627776) :
  wp P (uQ S (some X.b) s) h λtg vs h'=>tg=0/\((¬(∀v∈l,qH X v)/\vs=[aH 2]/\Ext h h')\/((∀v∈l,qH X v)/\vs=[aH 0]/\aY (λi=>i=X.b.block) h h'/\∃rho' C,cQ k h rho h' rho'/\cL S n h' rho' k {X with w:=C,ws:=l})):=by
 unfold uQ;have hlen:=z.len;have I:X.b.block<h.size:=(r.ob.lt rfl).2;have al:n<=h.size:=dI (r.ob.lt rfl).1 (rH I);have W:aQ s.len=(l.length:Int):=by rw[aN,hlen]
 rw[W];refine bO (λ(q:Int×Unit) h'=>Ext h h'/\∃i:Nat,q.1=i/\i<=l.length/\∀v∈l.take i,qH X v) (λq _=>((l.length:Int)-q.1).toNat)
  (λt vs h'=>Ext h h'/\((t=2/\vs=[]/\∀v∈l,qH X v)\/(t=1/\vs=[aH 2]/\¬∀v∈l,qH X v))) ⟨Ext.refl _,0,rfl,cS _,by simp⟩ ?_ ?_
 .rintro⟨(i':Int),u⟩ L ⟨o,i,hi,ab,g⟩
  dsimp only at hi⊢;subst hi;refine aG (λK=>?_) λK=>?_
  .rw[aV]at K
   have p:i<l.length:=by omega
   refine qM (z.ext o) (by omega) (by omega) λ_=>?_;have U:l.getD ((i:Int).toNat) 0=l[i]:=by rw[cN];simp[List.getD,cM p]
   rw[U];have O:=r.ext o;refine aM (HT (at_:=l[i]) O.ob rfl O.t) λ⟨(b1:Bool),_⟩ J E hb=>aG (λy=>aC ⟨λB=>absurd B (by decide),λ_=>⟨o.trans E, .inr ⟨rfl,rfl,λB=>?_⟩⟩⟩) λy=>?_
   .rw[dN]at y
    have:=hb.2 (B _ (Cp p));dsimp only at this y;rw[this]at y;cases y
   .rw[eI]at y
    rw[bG (by omega) (by omega)];refine aC ⟨λ_=>⟨((i:Int)+1,()),rfl,⟨o.trans E,i+1,by simp,by omega,λv A=>?_⟩,by dsimp only;omega⟩,λB=>absurd rfl B⟩;rw[eG,cM p]at A;rcases dD.1 A with A|A
    .exact g v A
    .simp at A;subst A;exact hb.1 y
  .rw[aZ]at K
   have:i=l.length:=by omega
   subst this;rw[fA]at g;exact aC ⟨λB=>absurd B (by decide),λ_=>⟨o, .inl ⟨rfl,rfl,g⟩⟩⟩
 .rintro t vs L ⟨o,⟨rfl,rfl,g⟩|⟨rfl,rfl,N⟩⟩
  .refine bK (bV (aM (PH (z.ext o) V) λ⟨(C:Sl),_⟩ J E D=>?_))
   have D:bR L.size .i64 J C l:=D;dsimp only;have H:=o.trans E;have Z:=r.ext H;refine aL rfl (aL rfl (eW (dG C) Z.ob (by simp[oN]) rfl λM Y u3=>?_));have c3:aY (λi=>i=X.b.block) J M:=aY.dP u3 λa ha _=>by cases ha;rfl
   have x:aY (λi=>i=X.b.block) h M:=aY.pre H c3;have ao:=o.1
   let rho':Nat->Nat:=λi=>if i<h.size then rho i else if (∃a,C.aD=some a/\a.block=i) then k+3 else 0
   have c:∀j i,i<h.size->rho i=j->rho' i=j:=λj i hi e=>by show(if _ then _ else _)=_;rw[if_pos hi];exact e
   have d:∀i,i<h.size->i=X.b.block->rho i=k+1:=λi _ e=>by rw[e];exact r.rb
   refine aC ⟨rfl, .inr ⟨g,rfl,x,rho',C,⟨x.mono λi hi e=>by rw[d i hi e];omega,λi hi _=>c _ i hi rfl,λi hi G=>?_⟩,?_⟩⟩
   .by_cases p:i<h.size
    .rw[c _ i p rfl];rcases G with G|G
     .omega
     .exact .inr G
    .show(if _ then _ else _)=0\/_<(if _ then _ else _)/\(if _ then _ else _)<=_
     rw[if_neg p];split
     .exact .inr (by omega)
     .exact .inl rfl
   .exact{
     t:=r.tK x λi hi e=>by rw[d i hi e];omega
     rt:=r.pk (c _)
     mp:=r.gr x λi hi e=>by rw[d i hi e];omega
     rm:=r.mw (c _)
     ow:=(c3.pW D λa ha e=>by have:=(D.own.lt ha).1;omega).mono (by omega)
     Es:=λa ha=>by have:=(D.own.lt ha).1;show(if _ then _ else _)=_;rw[if_neg (by omega),if_pos ⟨a,ha,rfl⟩]
     ou:=r.gy x λi hi e=>by rw[d i hi e];omega
     ru:=r.sx (c _)
     KS:=r.mm x λi hi e=>by rw[d i hi e];omega
     rr:=r.su (c _)
     gs:=r.gk x (λi hi e=>by rw[d i hi e];omega) (c _) rfl λs z=>z
     nw:=r.sf x (λi hi e=>by rw[d i hi e];omega) (λi hi _=>c _ i hi rfl) rfl λs z=>z
     ob:=Y
     rb:=c _ _ I r.rb}
  .exact nT (by decide) (bK (gZ (aC ⟨rfl, .inl ⟨N,rfl,o⟩⟩)))
end
section
def dH(e:gY):mE:=(e.1,e.2.1,(e.2.2.1.2.length:Int),())
def RB(len:Int):Int->List mE->Prop
 |_,[]=>True
 |at_,e::es=>at_<=e.1/\e.1<=e.2.1/\e.2.1<=len/\0<=e.2.2.1/\RB len e.2.1 es
theorem Ns{len:Int}:∀{es:List gY} {at_:Int},uE len at_ es->RB len at_ (es.map dH)
 |[],_,_=>trivial
 |e::es,at_,⟨a,b,c,d⟩=>⟨a,b,c,by show(0:Int)<=(e.2.2.1.2.length:Int);omega,Ns d⟩
def AA(l:List mE):Int:=(l.map λe=>e.2.2.1-(e.2.1-e.1)).sum
theorem AI(e:mE)(l:List mE):AA (e::l)=(e.2.2.1-(e.2.1-e.1))+AA l:=by simp[AA]
theorem F8{len:Int}:∀{l:List mE} {at_:Int},RB len at_ l->at_<=len->at_<=len+AA l
 |[],at_,_,h=>by simp[AA];exact h
 |e::l,at_,⟨a,b,c,d,f⟩,h=>by
  have:=F8 f c;rw[AI];omega
theorem RB.mb{len:Int}(j:len<=2199023255552):∀{l:List mE} {at_:Int},RB len at_ l->0<=at_->(∀e∈l,e.2.2.1<=2199023255552)->∀e∈l,0<=e.1/\e.1<=e.2.1/\e.2.1<=2199023255552/\0<=e.2.2.1/\e.2.2.1<=2199023255552
 |[],_,_,_,_=>λe he=>by cases he
 |x::l,at_,⟨a,b,c,d,f⟩,h0,g=>λe he=>by
  rcases eJ.1 he with rfl|he
  .exact⟨by omega,b,by omega,d,g _ (cX ..)⟩
  .exact RB.mb j f (by omega) (λy o=>g y (dZ _ o)) e he
theorem OY{len:Int}:∀{l:List mE} {at_ m:Int},RB len at_ l->m<at_->qL m l=(m,true)
 |[],_,_,_,_=>rfl
 |e::l,at_,m,⟨a,b,c,d,f⟩,h=>by
  have g:=OY (m:=m) f (by omega);show Lu e (qL m l)=_;rw[g];unfold Lu;rw[if_pos (show m<e.1 by omega)]
theorem MJ{len:Int}:∀{l:List mE} {at_ m:Int},RB len at_ l->at_<=m->m<=len->at_<=(qL m l).1/\(qL m l).1<=len+AA l
 |[],at_,m,_,h0,g=>by simp[qL,AA];omega
 |e::l,at_,m,⟨a,b,c,d,f⟩,h0,g=>by
  have p:=F8 f c;rw[AI];have j:qL m (e::l)=Lu e (qL m l):=rfl;rw[j];by_cases hm:m<e.2.1
  .rw[OY f hm]
   unfold Lu;dsimp only;split
   .dsimp only;omega
   .rw[if_neg (by omega)]
    dsimp only;omega
  .have o:=MJ (m:=m) f (by omega) g
   unfold Lu;rw[if_neg (by omega),if_pos o.1];dsimp only;omega
theorem Vw{len:Int}:∀{l:List mE} {at_ sh:Int},RB len at_ l->RB (len+sh+AA l) (at_+sh) (pS sh l)
 |[],_,_,_=>trivial
 |e::l,at_,sh,⟨a,b,c,d,f⟩=>by
  have g:=Vw (sh:=sh+(e.2.2.1-(e.2.1-e.1))) f;have p:=F8 f c;rw[AI];have j:len+sh+(e.2.2.1-(e.2.1-e.1)+AA l)=len+(sh+(e.2.2.1-(e.2.1-e.1)))+AA l:=by omega
  have o:e.2.1+(sh+(e.2.2.1-(e.2.1-e.1)))=e.1+sh+e.2.2.1:=by omega
  rw[j];rw[o]at g;refine⟨?_,?_,?_,?_,g⟩
  .show at_+sh<=e.1+sh;omega
  .show e.1+sh<=e.1+sh+e.2.2.1;omega
  .show e.1+sh+e.2.2.1<=_;omega
  .show 0<=e.2.1-e.1;omega
theorem NI:∀{l:List mE} {sh:Int},AA (pS sh l) = - AA l
 |[],_=>rfl
 |e::l,sh=>by
  have b:=NI (l:=l) (sh:=sh+(e.2.2.1-(e.2.1-e.1)));show AA ((e.1+sh,e.1+sh+e.2.2.1,e.2.1-e.1,())::pS _ l)=_;rw[AI,AI,b];dsimp only;omega
end
section
theorem Mh{E:List El}:∀{es:List gY} {at_:Int},uE E.length at_ es->0<=at_->((iI E es).length:Int)=E.length+AA (es.map dH)
 |[],_,_,_=>by simp[iI,AA]
 |e::es,at_,⟨a,b,c,d⟩,h0=>by
  have j:=Mh (E:=E) d (by omega);have lo:=F8 (Ns d) c;rw[pU,fK,AI];have g:(DA (iI E es) e).length=min e.1.toNat (iI E es).length+e.2.2.1.2.length+((iI E es).length-e.2.1.toNat):=by simp[DA];omega
  rw[g];simp only[dH];omega
end
section
end
section
variable{P:Program}{S:cG}{h:aE}{Q:Nat->bE->aE->Prop}{n k:Nat}{rho:Nat->Nat}{X:Bk}
def oR(e:gY):Bool:=decide (e.1<e.2.1) || decide (0<e.2.2.1.2.length)
theorem ep{b:Addr}{vs:bE}{o:Kg}{x:Gp}{K:Sl->aK}(ob:cC n 1 h ⟨some b,10,10⟩ vs)(c:vs[6]?=some (.pointer (some o.o)))(oo:cC n 1 h ⟨some o.o,10,10⟩ (Bu o))(al:o.o.block≠b.block)
  (w:∀h',aY (λi=>i=o.o.block) h h'->(Sh.list jD).ok h' x) (hlen:x.2.length<=131072)
  (z:∀h' r,aY (λi=>i=o.o.block) h h'->Jz h.size h' r (x.2.map dH)->cC n 1 h' ⟨some o.o,10,10⟩ (Bu {o with ch:=o.ch || x.2.any oR})->(∀a,r.aD=some a->a.block=h.size)->wp P (K r) h' Q) :
  wp P (.mk 24 [aH 0,aH 0,aH 0] (aQ x.1.len) (aQ x.1.len) λ(J:Sl)=>.bind (.loop [tI] ((0:Int),()) λ(r:Int×Unit)=>aR (fE r.1 (aQ x.1.len))
   (.bind (bD (bN (aJ x.1.aD) (eV r.1 x.1.len))<|.load (.agg [.int .i64, .int .i64, .sl]) (aB x.1.aD (bB (bP r.1) 3)) λ(q:Int×Int×Sl×Unit)=>
    .alloc [aH 0,aH 0, .slice none 0 0] λa=>.store (some a) [aH q.1,aH q.2.1,dG q.2.2.1]<|
    .load (tI) (aB (some a) 0) λ(n1:Int)=>.load (tI) (aB (some a) 1) λ(n2:Int)=>.load (tS) (aB (some a) 2) λ(I:Sl)=>
    bD (bN (aJ J.aD) (eV r.1 J.len))<|.store (aB J.aD (bB (bP r.1) 3)) [aH n1,aH n2,aH (aQ I.len)]<|
    .bind (.load (tI) (aB (some a) 0) λ(n3:Int)=>.load (tI) (aB (some a) 1) λ(n4:Int)=>aR (fE n3 n4) (.ret 0 [.bool true])<|
     .load (tS) (aB (some a) 2) λ(l3:Sl)=>.ret 0 [.bool (rY (aQ l3.len) 0)]) λk1 a3=>aR (jC k1 0) (.cast [tB] a3 λ(r2:Bool×Unit)=>aR r2.1
      (bD (aJ (some b))<|bD (aJ (some b))<|.load (tP) (aB (some b) 6) λ(p:OA)=>bD (aJ p)<|bD (aJ p)<|.store (aB p 9) [.bool true]<|.ret 0 [])<|.ret 0 []) .fail)
    λk2 a4=>aR (jC k2 0) (.cast [] a4 λ_=>.ret 0 [aH (aT .i64 r.1 1)]) .fail)<|.ret 2 []) λk3 a5=>aR (jC k3 2) (.cast [] a5 λ_=>K J) .fail) h Q:=by
 have aw:=(w h (aY.refl _ _)).len;have hn:aQ x.1.len=(x.2.length:Int):=by rw[aN,aw]
 rw[hn];refine ia hlen λh1 r e1 z1 rb o1=>?_;have ao:o.o.block<h.size:=(oo.lt rfl).2;refine bO (λ(s:Int×Unit) h'=>aY (λi=>i=o.o.block) h h'/\h.size<h'.size/\∃i:Nat,s.1=i/\i<=x.2.length/\Jz h.size h' r ((x.2.take i).map dH++List.replicate (x.2.length-i) (0,0,0,()))/\cC n 1 h' ⟨some o.o,10,10⟩ (Bu {o with ch:=o.ch || (x.2.take i).any oR}))
  (λs _=>((x.2.length:Int)-s.1).toNat)
  (λt vs h'=>t=2/\vs=[]/\aY (λi=>i=o.o.block) h h'/\Jz h.size h' r (x.2.map dH)/\cC n 1 h' ⟨some o.o,10,10⟩ (Bu {o with ch:=o.ch || x.2.any oR}))
  ⟨aY.bH e1,by omega,0,rfl,cS _,by simpa using o1,by simpa using (aY.bH (F:=λ_=>False) e1).own oo λ_ _ x=>x⟩ ?_ ?_
 .rintro⟨(i':Int),u⟩ A ⟨c2,z2,i,hi,a6,o2,D⟩
  dsimp only at hi⊢;subst hi;refine aG (λY=>?_) λY=>?_
  .rw[aV]at Y
   have O:i<x.2.length:=by omega
   obtain⟨e,he⟩:∃e,x.2[i]?=some e:=⟨x.2[i]'O,cM O⟩;have g:=w A c2;have hle:=(g.el he).2.2.1.len;have M:cR .i64 e.1/\cR .i64 e.2.1:=⟨(g.el he).1,(g.el he).2.1⟩;have C:x.2.take (i+1)=x.2.take i++[e]:=by rw[eG,he];rfl
   have fin:∀c,aY (λi=>i=o.o.block) h c->h.size<c.size->Jz h.size c r ((x.2.take (i+1)).map dH++List.replicate (x.2.length-(i+1)) (0,0,0,()))->cC n 1 c ⟨some o.o,10,10⟩ (Bu {o with ch:=o.ch || (x.2.take (i+1)).any oR}) ->
     wp P (aR (jC 0 0) (.cast [] [] λ_=>.ret 0 [aH (aT .i64 (i:Int) 1)]) .fail) c (λtag vs h'=>
      (tag=0->∃s':Int×Unit,vs=Ts.inj [tI] s'/\(aY (λi=>i=o.o.block) h h'/\h.size<h'.size/\∃i:Nat,s'.1=i/\i<=x.2.length/\Jz h.size h' r ((x.2.take i).map dH++List.replicate (x.2.length-i) (0,0,0,()))/\cC n 1 h' ⟨some o.o,10,10⟩ (Bu {o with ch:=o.ch || (x.2.take i).any oR}))/\((x.2.length:Int)-s'.1).toNat<((x.2.length:Int)-(i:Int)).toNat) /\
      (tag≠0->tag=2/\vs=[]/\aY (λi=>i=o.o.block) h h'/\Jz h.size h' r (x.2.map dH)/\cC n 1 h' ⟨some o.o,10,10⟩ (Bu {o with ch:=o.ch || x.2.any oR}))):=by
    intro c c6 z6 m6 w6;refine bK (bV ?_);rw[bG (by omega) (by omega)];exact aC ⟨λ_=>⟨((i:Int)+1,()),rfl,⟨c6,z6,i+1,by simp,by omega,m6,w6⟩,by dsimp only;omega⟩,λw=>absurd rfl w⟩
   refine xN (DD g he λa h3 E ha L=>?_);have l0:∀{K:Int->aK} {Q:Nat->bE->aE->Prop} {h'},cC A.size 1 h' ⟨some a,3,3⟩ [aH e.1,aH e.2.1,dG e.2.2.1.1]->wp P (K e.1) h' Q->wp P (.load (tI) (aB (some a) 0) K) h' Q:=λq z=>aX (b:=bI) _ e.1 rfl (aI.1 q.cells 0 _ rfl) z;have l1:∀{K:Int->aK} {Q:Nat->bE->aE->Prop} {h'},cC A.size 1 h' ⟨some a,3,3⟩ [aH e.1,aH e.2.1,dG e.2.2.1.1]->wp P (K e.2.1) h' Q->wp P (.load (tI) (aB (some a) 1) K) h' Q:=λq z=>aX (b:=bI) _ e.2.1 rfl (aI.1 q.cells 1 _ rfl) z;have I:∀{K:Sl->aK} {Q:Nat->bE->aE->Prop} {h'},cC A.size 1 h' ⟨some a,3,3⟩ [aH e.1,aH e.2.1,dG e.2.2.1.1]->wp P (K e.2.2.1.1) h' Q->wp P (.load (tS) (aB (some a) 2) K) h' Q:=λq z=>aX (b:=.sl) _ e.2.2.1.1 rfl (aI.1 q.cells 2 _ rfl) z;have hq:aQ e.2.2.1.1.len=(e.2.2.1.2.length:Int):=by rw[aN,hle]
   have a9:e.2.2.1.2.length<2^63:=by have h1:=(g.el he).2.2.1.2.1;have A:=(g.el he).2.2.1.2.2.1;omega
   refine l0 L (l1 L (I L ?_));rw[hq];have N:((x.2.take i).map dH).length=i:=by rw[cD,dJ];omega
   have Z:((x.2.take i).map dH++List.replicate (x.2.length-i) ((0,0,0,()):mE)).set i (dH e)=(x.2.take (i+1)).map dH++List.replicate (x.2.length-(i+1)) (0,0,0,()):=by
    rw[Bl (h:=by omega),N,tZ,show x.2.length-i=(x.2.length-(i+1))+1 by omega,Jn,xS,C,dL,eC];rfl
   have c3:aY (λi=>i=o.o.block) h h3:=c2.ext E;have w3:=(aY.bH (F:=λ_=>False) E).own D λ_ _ x=>x;refine ZA (dH e) (o2.ext E) (by rw[bM,N,Jt];omega) ⟨M.1,M.2,by show cR .i64 (e.2.2.1.2.length:Int);rw[eO];omega⟩ λW m4 u4 z4=>?_;rw[Z]at m4;have V:aY (λi=>i=h.size) h3 W:=aY.dP u4 λy d _=>rb y d;have ba:=E.1;have o4:cC A.size 1 W ⟨some a,3,3⟩ [aH e.1,aH e.2.1,dG e.2.2.1.1]:=V.own L λy d=>by cases d;exact Nat.ne_of_gt (pI z2 ha)
   have w4:=V.own w3 λy d=>by cases d;exact Nat.ne_of_lt ao
   have c4:aY (λi=>i=o.o.block) h W:=c3.trans V λj hj e=>by omega
   refine bW (oR e=true) (l0 o4 (l1 o4 (aG (λH=>aC ⟨rfl,Ext.refl _,true,rfl,?_⟩) λH=>I o4 (aC ⟨rfl,Ext.refl _,_,rfl,?_⟩)))) λbb h5 G hb=>?_
   .rw[aV]at H;simp[oR,H]
   .rw[aZ]at H
    rw[hq,dQ];simp[oR];omega
   have m5:=m4.ext G;have w5:=(aY.bH (F:=λ_=>False) G).own w4 λ_ _ x=>x;have U:=c4.ext G;have bd:=G.1;dsimp only;refine aG (λht=>?_) λhf=>aC (fin h5 U (by omega) m5 ?_)
   .have a0:=U.own ob λy d e=>by cases d;exact al e.symm
    refine aL rfl (aL rfl (aX (b:=.ptr) (b.add 6) (some o.o) rfl (aI.1 a0.cells 6 _ c) (aL rfl (aL rfl (eW (.bool true) w5 (by simp[Bu]) rfl λc w6 u6=>?_)))));have B:aY (λi=>i=o.o.block) h5 c:=aY.dP u6 λy d _=>by cases d;rfl
    have bo:=B.1;refine aC (fin c (U.trans B λ_ _ x=>x) (by omega) (m5.oQ B λy d e=>by have:=rb y d;omega) ?_);have:Bu {o with ch:=o.ch || (x.2.take (i+1)).any oR}=(Bu {o with ch:=o.ch || (x.2.take i).any oR}).set 9 (.bool true):=by
     rw[C,LW];simp[Bu,hb.1 ht]
    rw[this];exact w6
   .have ab:oR e=false:=by
     cases w:oR e with
     |false=>rfl
     |true=>rw[hb.2 w]at hf;cases hf
    have:Bu {o with ch:=o.ch || (x.2.take (i+1)).any oR}=Bu {o with ch:=o.ch || (x.2.take i).any oR}:=by
     rw[C,LW];simp[ab]
    rw[this];exact w5
  .rw[aZ]at Y
   have:i=x.2.length:=by omega
   subst this;rw[fA,tZ,List.replicate_zero,jX]at o2;rw[fA]at D;exact aC ⟨λw=>absurd w (by decide),λ_=>⟨rfl,rfl,c2,o2,D⟩⟩
 .rintro t vs h' ⟨rfl,rfl,c2,o2,D⟩
  exact bK (bV (z h' r c2 o2 D rb))
end
section
variable{P:Program}{S:cG}{h:aE}{Q:Nat->bE->aE->Prop}
end
section
variable{P:Program}{S:cG}{h:aE}{Q:Nat->bE->aE->Prop}
end
section
variable{P:Program}{S:cG}{h:aE}{Q:Nat->bE->aE->Prop}
structure we(S:cG)(h h':aE)(enc depth:Int)(l:aW)(X:Bk):Prop where
 new:iz depth X.T X
 en:X.T.enc=enc
 li:X.T.limit=60000
 kept:X.T.kept=[]
 A:X.T.A=[]
 el:gS enc X.T.cur.ps=gT 0 0 (bC enc l)
 bytes:dK X.T.cur.ps=l
 r:∃n,h.size<=n/\∀(k:Nat) (rho:Nat->Nat),∃rho',cQ k h rho h' rho'/\(∀i,i<h.size->rho' i=rho i)/\cL S n h' rho' k X
end
section
variable{P:Program}{S:cG}{h:aE}{Q:Nat->bE->aE->Prop}{n k:Nat}{rho:Nat->Nat}{X:Bk}
open Classical in
theorem cL.text{h1:aE}{T':TX}(r:cL S n h rho k X)(c:aY (rF X.T) h h1)(t:eM S n h1 T')(nx:L8 X.T T' h.size) :
  ∃rho',cQ k h rho h1 rho'/\(∀i,i<h.size->rho' i=rho i)/\cL S n h1 rho' k {X with T:=T'}:=by
 have o:∀i,i<h.size->rF X.T i->rho i=k+8:=λi _ hi=>r.rt i (Jb r.t hi)
 let rho':Nat->Nat:=λi=>if i<h.size then rho i else if T'.Z i then k+8 else 0
 have hold:∀i,i<h.size->rho' i=rho i:=λi hi=>if_pos hi;have d:∀j i,i<h.size->rho i=j->rho' i=j:=λj i hi e=>by rw[hold i hi];exact e
 refine⟨rho',⟨c.mono λi hi g=>by rw[o i hi g];omega,λi hi _=>hold i hi,λi hi w=>?_⟩,hold,?_⟩
 .by_cases u:i<h.size
  .rw[hold i u];rcases w with w|w
   .omega
   .exact .inr w
  .show(if _ then _ else _)=0\/_<(if _ then _ else _)/\(if _ then _ else _)<=_
   rw[if_neg u];split
   .exact .inr (by omega)
   .exact .inl rfl
 .exact{
   t:=t
   rt:=λi y=>by
    by_cases u:i<h.size
    .rcases nx.zn i y with h1|h1
     .exact d _ i u (r.rt i h1)
     .omega
    .show(if _ then _ else _)=_
     rw[if_neg u,if_pos y]
   mp:=r.gr c λi hi g=>by rw[o i hi g];omega
   rm:=r.mw (d _)
   ow:=r.gz c λi hi g=>by rw[o i hi g];omega
   Es:=r.pw (d _)
   ou:=r.gy c λi hi g=>by rw[o i hi g];omega
   ru:=r.sx (d _)
   KS:=r.mm c λi hi g=>by rw[o i hi g];omega
   rr:=r.su (d _)
   gs:=r.gk c (λi hi g=>by rw[o i hi g];omega) (d _) nx.p λs x=>by rw[nx.kept];exact x
   nw:=r.sf c (λi hi g=>by rw[o i hi g];omega) (λi hi _=>hold i hi) nx.p λs x=>by rw[nx.kept];exact x
   ob:=by
    have:=r.vt c λi hi g=>by rw[o i hi g];omega
    have e:oN {X with T:=T'}=oN X:=by simp[oN,nx.p]
    show cC n 1 h1 ⟨some X.b,10,10⟩ (oN {X with T:=T'});rw[e];exact this
   rb:=d _ _ (r.ob.lt rfl).2 r.rb}
abbrev uh(o:Kg)(q:Sl)(m:Xw)(ch:Bool):Kg:={o with mv:=(q,o.mv.2++[m]),ch:=ch}
abbrev xk(X:Bk)(o:Kg)(T':TX)(q:Sl)(m:Xw)(ch:Bool):Bk:={X with T:=T',ms:=Bn m.2 X.ms,ws:=kX m.2 X.ws,now:=some (uh o q m ch)}
structure uq(S:cG)(n k:Nat)(X:Bk)(o:Kg)(es:List gY)(h:aE)(rho:Nat->Nat)(h':aE)(rho':Nat->Nat)(e:Int)(X':Bk):Prop where
 st:cQ k h rho h' rho'
 r:cL S n h' rho' k X'
 ref:KZ X.T.enc X.T.limit (cK X.T.enc X.T.cur.ps) es e
 nx:L8 X.T X'.T h.size
 gS:gS X.T.enc X'.T.cur.ps=if e=0 then iI (gS X.T.enc X.T.cur.ps) es else gS X.T.enc X.T.cur.ps
 len:X'.T.A.length<=X.T.A.length+4*(aU es).length
 no:e≠0->X'={X with T:=X'.T}
 yes:e=0->∃q l,X'=xk X o X'.T q (l,es.map dH) (o.ch || es.any oR)
theorem m_{len:Int}{es:List gY}(b:len<=2199023255552)(c:uE len 0 es)(hm:es.length<=70000)(o:(aU es).length<=200000000000):KX (es.map dH):=by
 refine⟨by rw[cD];omega,RB.mb b (Ns c) (nJ _) λe he=>?_⟩;obtain⟨x,d,rfl⟩:=dC.1 he;have:x.2.2.1.2.length<=(aU es).length:=by
  obtain⟨i,hi⟩:=List.mem_iff_getElem?.1 d;have g:=Nv hi;have j:=IW es i;omega
 show(x.2.2.1.2.length:Int)<=_;omega
theorem IT{n m size:Nat}{h:aE}{s:Sl}{vs:bE}(hm:n<=m)(b:cC m size h s vs):cC n size h s vs:=cC.mono b hm
theorem N5{x:Sl}(r:cL S n h rho k X)(d:X.now=none):wp P (jN S (some X.b) x) h λtg vs h'=>tg=0/\vs=[aH 71]/\h'=h:=by
 unfold jN;exact r.rd (b:=.ptr) none (by simp[oN,d,B.inj]) (aG (λ_=>aC ⟨rfl,rfl,rfl⟩) λc=>by cases c)
open Classical in
theorem We(M:jM P S){o:Kg}{x:Gp}(r:cL S n h rho k X)(hn:X.now=some o)(ba:∀h',aY (λi=>k<rho i/\rho i<=k+10) h h'->(Sh.list jD).ok h' x)
  (hz:∀e,e∈x.2->e.2.2.1.2≠[]->∀a,e.2.2.1.1.aD=some a->rho a.block<=k\/k+10<rho a.block)
  (hA:X.T.A.length+4*(aU x.2).length<=400000000000) (b9:(dK X.T.cur.ps).length<=X.T.limit) (hlen:(gS X.T.enc X.T.cur.ps).length<=65536)
  (b2:∀e∈X.ms,0<=e.2.1/\e.2.1<=2199023255552) (cf:∀v∈X.ws,v<=2199023255552) (dr:o.mv.2.length<=1099511627776) :
  wp P (jN S (some X.b) x.1) h λtg vs h'=>tg=0/\∃e rho' X',vs=[aH e]/\uq S n k X o x.2 h rho h' rho' e X':=by
 unfold jN;have b3:n<=h.size:=dI (r.ob.lt rfl).1 (rH (r.ob.lt rfl).2);have Z:(oN X)[6]?=some (.pointer (some o.o)):=by simp[oN,hn]
 have cd:∀i,i<h.size->rF X.T i->rho i=k+8:=λi _ hi=>r.rt i (Jb r.t hi);refine r.rd (b:=.ptr) (some o.o) Z (aG (λV=>by cases V) λ_=>r.rd (b:=.ptr) (some X.T.p) rfl ?_);refine eU (XP M r.t b3 (λh' c=>ba h' (c.mono λi hi C=>by rw[cd i hi C];omega)) (λe he W a ha cg=>by have w:=hz e he W a ha;have z:=r.rt _ cg;omega) hA b9) λtg vs w hx=>?_;obtain⟨rfl,c1,e,T',rfl,R⟩:=hx;refine⟨rfl,(e,()),rfl,?_⟩;obtain⟨D,a4,b0,E⟩:=r.text c1 R.t R.nx;refine aG (λV=>?_) λV=>?_
 .rw[lB]at V
  exact aC ⟨rfl,e,D,{X with T:=T'},rfl,a4,E,R.ref,R.nx,R.gS,R.len,λ_=>rfl,λh0=>absurd h0 V⟩
 rw[lX]at V;dsimp only at V;subst V;have g:=E.nw o hn;have al:uE (gS X.T.enc X.T.cur.ps).length 0 x.2/\x.2.length<=70000:=by
  have hl:(cK X.T.enc X.T.cur.ps).length=(gS X.T.enc X.T.cur.ps).length:=(yE ..).symm;cases R.ref with
  |ok a b c d=>rw[hl]at b;exact⟨b,a⟩
 have a9:KX (x.2.map dH):=m_ (by omega) al.1 al.2 (by omega);have a5:∀i,i<h.size->(k<D i/\D i<=k+10)->k<rho i/\rho i<=k+10:=λi hi hr=>by rw[b0 i hi]at hr;exact hr
 have bt:∀h',aY (λi=>k<D i/\D i<=k+10) w h'->(Sh.list jD).ok h' x:=λh' c=>ba h' (a4.c.trans c a5);have b6:o.o.block<w.size:=(g.ob.lt rfl).2;have W:o.o.block≠X.b.block:=λe=>by have w:=g.ro;have z:=E.rb;rw[e]at w;have z:D X.b.block=k+1:=z;omega
 refine ep E.ob (by simp[oN,hn]) g.ob W (λh' c=>bt h' (c.mono λi hi e=>by subst e;rw[g.ro];omega)) (by omega) λz l c2 m2 bd ao=>?_;have aw:cC n 1 z ⟨some X.b,10,10⟩ (oN X):=by
  have e:oN {X with T:=T'}=oN X:=by simp[oN,R.nx.p]
  have:=c2.own E.ob λa ha e=>by cases ha;exact W e.symm
  rw[e]at this;exact this
 have bs:∀{h':aE} {b:B} {i:Nat} (y:b.den) {K:b.den->aK} {Q:Nat->bE->aE->Prop},cC n 1 h' ⟨some X.b,10,10⟩ (oN X)->(oN X)[i]?=some (b.inj y)->wp P (K y) h' Q->wp P (bD (aJ (some X.b))<|bD (aJ (some X.b))<|.load (.one b) (aB (some X.b) i) K) h' Q:=
  @λh' b i y K Q ob hv hk=>aL rfl (aL rfl (aX (b:=b) (X.b.add i) y rfl (aI.1 ob.cells _ _ hv) hk))
 have c8:∀j,aB (aB (some o.o) 0) j=aB (some o.o) j:=λj=>by rw[pE,add_zero']
 refine bs (b:=.ptr) (some o.o) aw Z (bs (b:=.ptr) (some o.o) aw Z (aL rfl (aL rfl (aL rfl ?_))));simp only[c8];refine aX (b:=.sl) (o.o.add 4) o.mv.1 rfl (aI.1 bd.cells 4 _ rfl) ?_;refine λelem=>?_;have e3:Ext z (z.push (.cells [dG l].toArray elem)):=Ext.push ..;have bp:Rd 1 (z.push (.cells [dG l].toArray elem)) ⟨some ⟨z.size,0,none⟩,1,1⟩ [dG l]:=mX rfl;generalize z.push (.cells [dG l].toArray elem)=h3 at e3 bp⊢;have X3:∀{n size:Nat} {s:Sl} {vs:bE},cC n size z s vs->cC n size h3 s vs:=λho=>(aY.bH (F:=λ_=>False) e3).own ho λ_ _ x=>x;have a0:=X3 aw;have bo:=X3 bd;refine sC (aI.1 bo.cells 4 _ rfl) (sC (aI.1 a0.cells 6 _ Z) (sC (aI.1 a0.cells 6 _ Z) ?_));have a3:cC n 1 z o.mv.1 (o.mv.2.map λx=>dG x.1):=c2.own g.mv.own λa ha e=>by have w:=g.mv.role a ha;have z:=g.ro;rw[e,z]at w;omega
 have de:o.mv.1.len=o.mv.2.length:=by have:=a3.1;simpa using this
 have ds:=c1.1;have dx:=c2.1;have ec:=e3.1;refine iS (X3 a3) (by omega) bp (by intro v hv;rw[dE.1 hv];rfl) rfl (by dsimp only;omega) (by dsimp only;omega) λq h4 o4 l4 u4 b4 _=>?_;have c4:aY (λi=>∃a,o.mv.1.aD=some a/\a.block=i) h3 h4:=aY.dP u4 λa ha _=>⟨a,ha,rfl⟩;have L:∀a,o.mv.1.aD=some a->a.block<w.size/\D a.block=k+7:=λa ha=>⟨(g.mv.own.lt ha).2,g.mv.role a ha⟩;have bb:=c4.own a0 λa ha ⟨y,J,e⟩=>by cases ha;have w:=(L y J).2;have z:=E.rb;rw[e]at w;have z:D X.b.block=k+1:=z;omega
 have ct:=c4.own bo λa ha ⟨y,J,e⟩=>by cases ha;have w:=(L y J).2;have z:=g.ro;rw[e]at w;omega
 refine sC (aI.1 bb.cells 6 _ Z) (aL rfl (aL rfl (aL rfl ?_)));refine eW (dG q) ct (by simp[Bu]) rfl λO cx u5=>?_;have c5:aY (λi=>i=o.o.block) h4 O:=aY.dP u5 λa ha _=>by cases ha;rfl
 have eg:=c4.1;have eh:=c5.1
 let F:Nat->Prop:=λi=>i=o.o.block\/∃a,o.mv.1.aD=some a/\a.block=i
 have H:aY F w O:=(((c2.mono (G:=F) λi _ x=>.inl x).ext e3).trans (c4.mono (G:=F) λi _ x=>.inr x) λ_ _ x=>x).trans (c5.mono (G:=F) λi _ x=>.inl x) λ_ _ x=>x;have N:∀i,i<w.size->F i->D i=k+6\/D i=k+7:=λi hi C=>by
  rcases C with rfl|⟨a,ha,rfl⟩
  .exact .inl g.ro
  .exact .inr (L a ha).2
 let I:Nat->Nat:=λi=>if i<w.size then D i else if (∃a,q.aD=some a/\a.block=i) then k+7 else 0
 have hold:∀i,i<w.size->I i=D i:=λi hi=>if_pos hi;have u:∀j i,i<w.size->D i=j->I i=j:=λj i hi e=>by rw[hold i hi];exact e
 have b8:∀a,q.aD=some a->I a.block=k+7:=λa ha=>by
  rcases b4 a ha with hb|hb
  .exact u _ _ (L a hb).1 (L a hb).2
  .show(if _ then _ else _)=_
   rw[if_neg (by omega),if_pos ⟨a,ha,rfl⟩]
 have a6:∀a,l.aD=some a->I a.block=0:=λa ha=>by
  have hb:=ao a ha;have df:w.size<z.size:=by rw[<-hb];exact(m2.own.lt ha).2
  show(if _ then _ else _)=0;rw[if_neg (by omega),if_neg];rintro⟨y,J,e⟩;rcases b4 y J with h|h
  .have:=(L y h).1;omega
  .omega
 have c9:cQ k w D O I:=⟨H.mono λi hi C=>by have:=N i hi C;omega,λi hi _=>hold i hi,λi hi U=>by
  by_cases ab:i<w.size
  .rw[hold i ab];rcases U with U|U
   .omega
   .exact .inr U
  .show(if _ then _ else _)=0\/_<(if _ then _ else _)/\(if _ then _ else _)<=_
   rw[if_neg ab];split
   .exact .inr (by omega)
   .exact .inl rfl⟩
 have m5:Jz w.size O l (x.2.map dH):=by
  refine((m2.ext e3).oQ c4 λa ha ⟨y,J,e⟩=>?_).oQ c5 λa ha e=>?_
  .have:=ao a ha;have:=(L y J).1;omega
  .have:=ao a ha;omega
 have cr:Jz n O l (x.2.map dH):=⟨IT (by omega) m5.own,m5.fit⟩
 let Y:Kg:=uh o q (l,x.2.map dH) (o.ch || x.2.any oR)
 have c7:TH n O I k T' Y:={
  ob:=by
   have e:Bu Y=(Bu {o with ch:=o.ch || x.2.any oR}).set 4 (dG q):=by simp[Bu,Y,uh]
   rw[e];exact cx
  ro:=u _ _ b6 g.ro
  sn:=H.own g.sn λa ha C=>by cases ha;have w:=N _ (g.sn.lt rfl).2 C;have z:=g.rs;omega
  ks:=g.ks
  rs:=u _ _ (g.sn.lt rfl).2 g.rs
  mv:={
   own:=by
    have:=c5.own o4 λa ha e=>by
     rcases b4 a ha with hb|hb
     .have w:=(L a hb).2;have z:=g.ro;rw[e,z]at w;omega
     .omega
    show cC n 1 O q ((o.mv.2++[(l,x.2.map dH)]).map λx=>dG x.1);rw[dL];exact this
   role:=b8
   each:=λy J=>by
    rcases dD.1 J with J|J
    .obtain⟨y1,y2,y3⟩:=g.mv.each y J
     exact⟨y1.oQ H λa ha C=>by have w:=N _ (y1.own.lt ha).2 C;have z:=y2 a ha;omega,λa ha=>u _ _ (y1.own.lt ha).2 (y2 a ha),y3⟩
    .rw[dE.1 J]
     exact⟨cr,a6,a9⟩}
  mp:=g.mp.oQ H λC=>by have w:=N _ g.mp.lt C;have z:=g.rm;omega
  rm:=u _ _ g.mp.lt g.rm
  ow:=H.pW g.ow λa ha C=>by have w:=N _ (g.ow.own.lt ha).2 C;have z:=g.Es a ha;omega
  Es:=λa ha=>u _ _ (g.ow.own.lt ha).2 (g.Es a ha)}
 have r5:cL S n O I k {X with T:=T',now:=some Y}:={
  t:=E.tK H λi hi C=>by have:=N i hi C;omega
  rt:=E.pk (u _)
  mp:=E.gr H λi hi C=>by have:=N i hi C;omega
  rm:=E.mw (u _)
  ow:=E.gz H λi hi C=>by have:=N i hi C;omega
  Es:=E.pw (u _)
  ou:=E.gy H λi hi C=>by have:=N i hi C;omega
  ru:=E.sx (u _)
  KS:=E.mm H λi hi C=>by have:=N i hi C;omega
  rr:=E.su (u _)
  gs:=E.gk H (λi hi C=>by have:=N i hi C;omega) (u _) rfl λs hs=>hs
  nw:=λo1 ho=>by cases ho;exact c7
  ob:=by
   have e:oN {X with T:=T',now:=some Y}=oN X:=by simp[oN,hn,R.nx.p,Y,uh]
   show cC n 1 O ⟨some X.b,10,10⟩ (oN {X with T:=T',now:=some Y});rw[e];exact c5.own bb λa ha e=>by cases ha;exact W e.symm
  rb:=u _ _ (E.ob.lt rfl).2 E.rb}
 refine eU (OO (X:={X with T:=T',now:=some Y}) (x:=(l,x.2.map dH)) r5 m5.ok (λh' c=>(m5.oQ c λa ha C=>?_).ok) a9 b2 cf) λtg vs h6 hx=>?_
 .have w:=a6 a ha
  rcases C with e|⟨y,J,e⟩
  .have z:=r5.rm;rw[e]at w;rw[w]at z;omega
  .have z:=r5.Es y J;rw[e,w]at z;omega
 obtain⟨rfl,b1,y,rfl,r6⟩:=hx;refine⟨rfl,(),rfl,aC ⟨rfl,0,I,_,rfl,?_,r6,R.ref,R.nx,R.gS,R.len,λh0=>absurd rfl h0,λ_=>⟨q,l,rfl⟩⟩⟩;refine(a4.trans c9).trans ⟨b1.mono λi hi C=>?_,λ_ _ _=>rfl,λi hi U=>?_⟩
 .rcases C with rfl|⟨a,ha,rfl⟩
  .have:=r5.rm;rw[this];omega
  .have:=r5.Es a ha;rw[this];omega
 .by_cases ab:i<O.size
  .rcases U with U|U
   .omega
   .exact .inr U
  .left
   show(if _ then _ else _)=0;rw[if_neg (by omega),if_neg];rintro⟨a,ha,e⟩;have:=(o4.lt ha).2;omega
end
section
variable{P:Program}{S:cG}{h:aE}{Q:Nat->bE->aE->Prop}{n k:Nat}{rho:Nat->Nat}{X:Bk}
variable{i:Nat}
def zr(h:aE)(rho:Nat->Nat):Nat->Nat:=λi=>if i<h.size then rho i else 0
theorem sM(hi:i<h.size):zr h rho i=rho i:=if_pos hi
theorem qA(hi:h.size<=i):zr h rho i=0:=if_neg (by omega)
theorem cQ.mV{h':aE}(e:Ext h h'):cQ k h rho h' (zr h rho):=⟨aY.bH e,λi hi _=>sM hi,λi hi b=>by
 by_cases c:i<h.size
 .rw[sM c];rcases b with b|b
  .omega
  .exact .inr b
 .exact .inl (qA (by omega))⟩
theorem cL.zr{h':aE}(r:cL S n h rho k X)(e:Ext h h'):cL S n h' (zr h rho) k X:=
 r.other (aY.bH (F:=λ_=>False) e) (λ_ _ x=>x.elim) λi hi _=>sM hi
theorem Wf{at_:Int}(r:cL S n h rho k X)(d:X.now=none):wp P (tR S (some X.b) at_) h λtg vs h'=>tg=0/\vs=[aH 71]/\h'=h:=by
 unfold tR;exact r.rd (b:=.ptr) none (by simp[oN,d,B.inj]) (aG (λ_=>aC ⟨rfl,rfl,rfl⟩) λc=>by cases c)
def S5(X:Bk)(g:HC):List HC:=if X.depth<(X.U.2.length:Int)+1 then (X.U.2++[g]).drop 1 else X.U.2++[g]
abbrev cn(X:Bk)(g:HC)(q:Sl):Bk:={X with T:=SA X.T,U:=(q,S5 X g),R:=(⟨none,0,0⟩,[]),now:=none,state:=X.last+1,last:=X.last+1}
structure q_(X:Bk)(o:Kg)(at_:Int)(g:HC):Prop where
 sb:g.sb=o.sb
 sh:g.sh=X.T.cur
 bg:g.bg=o.bg
 en:g.en=at_
 mv:g.mv=o.mv
 old:g.old=o.old
 fresh:g.fresh=X.last+1
structure uu(X:Bk)(o:Kg)(at_:Int)(X':Bk):Prop where
 no:o.ch=false->X'={X with now:=none}
 yes:o.ch=true->∃g q,q_ X o at_ g/\X'=cn X g q
theorem eo{o:Kg}{bs:List B}(x:Bs.den bs){K:Bs.den bs->aK}(g:cC n 1 h ⟨some o.o,10,10⟩ (Bu o))(d:Bs.inj bs x=(Bu o).take 7)(c:wp P (K x) h Q):wp P (.load (.agg bs) (aB (some o.o) 0) K) h Q:=by
 refine⟨o.o.add 0,rfl,x,aI.2 λj v b=>?_,c⟩;rw[add_zero'];have b:(Bs.inj bs x)[j]?=some v:=b;rw[d,Hy]at b;split at b
 .exact aI.1 g.cells j v b
 .cases b
open Classical in
theorem qg(C:V8 P S){o:Kg}{at_:Int}(r:cL S n h rho k X)(hn:X.now=some o)(k4:0<=X.last)(k5:X.last<=4611686018427387904)(hU:X.U.2.length<=1099511627776) :
  wp P (tR S (some X.b) at_) h λtg vs h'=>tg=0/\((¬qH X at_/\vs=[aH 2]/\Ext h h')\/(qH X at_/\vs=[aH 0]/\∃rho' X',cQ k h rho h' rho'/\cL S n h' rho' k X'/\uu X o at_ X')):=by
 unfold tR;have ro:=r.nw o hn;have g5:X.b.block<h.size:=(r.ob.lt rfl).2;have k6:n<=h.size:=dI (r.ob.lt rfl).1 (rH g5);have c6:(oN X)[6]?=some (.pointer (some o.o)):=by simp[oN,hn]
 have g7:o.o.block≠X.b.block:=λe=>by have w:=ro.ro;have d:=r.rb;rw[e]at w;omega
 refine r.rd (b:=.ptr) (some o.o) c6 (aG (λM=>by cases M) λ_=>?_);refine aM (HT (at_:=at_) r.ob rfl r.t) λ⟨(b1:Bool),_⟩ w e1 hb=>aG (λM=>aC ⟨rfl, .inl ⟨λY=>?_,rfl,e1⟩⟩) λM=>?_
 .rw[dN]at M
  have:=hb.2 Y;dsimp only at this M;rw[this]at M;cases M
 rw[eI]at M;have df:qH X at_:=hb.1 M;have k7:=e1.1;have c5:=cQ.mV (k:=k) (rho:=rho) e1;have dx:∀i,w.size<=i->Hist.zr h rho i=0:=λi hi=>qA (by omega);have z:=r.zr e1;generalize Hist.zr h rho=D at c5 dx z;clear r ro;have ro:=z.nw o hn;have b3:=z.rb;have e2:X.b.block<w.size:=(z.ob.lt rfl).2;refine Tg (z.rd (b:=.ptr) (some o.o) c6 (aL rfl (aL rfl (aX (b:=.bool) (o.o.add 9) o.ch rfl (aI.1 ro.ob.cells 9 _ rfl) ?_))));refine aG (λM=>?_) λM=>?_
 .rw[dN]at M
  refine aC (UH C z.ob λd b2 c2=>⟨rfl, .inr ⟨df,rfl,D,{X with now:=none},?_,?_,⟨λ_=>rfl,λY=>by rw[M]at Y;cases Y⟩⟩⟩)
  .exact c5.trans (cQ.of c2 (λi hi e=>by rw[e,b3];omega) λi g6 k3=>dx i g6)
  .exact{
    t:=z.tK c2 λi hi e=>by rw[e];omega
    rt:=z.rt
    mp:=z.gr c2 λi hi e=>by rw[e];omega
    rm:=z.rm
    ow:=z.gz c2 λi hi e=>by rw[e];omega
    Es:=z.Es
    ou:=z.gy c2 λi hi e=>by rw[e];omega
    ru:=z.ru
    KS:=z.mm c2 λi hi e=>by rw[e];omega
    rr:=z.rr
    gs:=z.gk c2 (λi hi e=>by rw[e];omega) (λ_ _ h=>h) rfl λs hs=>hs
    nw:=λo' cf=>by cases cf
    ob:=by
     have e:oN {X with now:=none}=(oN X).set 6 (.pointer none):=by simp[oN]
     show cC n 1 d ⟨some X.b,10,10⟩ (oN {X with now:=none});rw[e];exact b2
    rb:=b3}
 rw[eI]at M;refine z.rd (b:=bI) X.last rfl (aL rfl (aL rfl ?_));rw[bG (by omega) (by omega)];refine eW (aH (X.last+1)) z.ob (by simp[oN]) rfl λd b2 u2=>?_;have c2:aY (λi=>i=X.b.block) w d:=aY.dP u2 λa ha _=>by cases ha;rfl
 have j1:=c2.own ro.ob λa ha e=>by cases ha;exact g7 e
 have W:∀{h':aE} {vs:bE} {b:B} {i:Nat} (y:b.den) {K:b.den->aK} {Q:Nat->bE->aE->Prop},cC n 1 h' ⟨some X.b,10,10⟩ vs->vs[i]?=some (b.inj y)->wp P (K y) h' Q->wp P (bD (aJ (some X.b))<|bD (aJ (some X.b))<|.load (.one b) (aB (some X.b) i) K) h' Q:=
  @λh' vs b i y K Q ob hv hk=>aL rfl (aL rfl (aX (b:=b) (X.b.add i) y rfl (aI.1 ob.cells _ _ hv) hk))
 have g9:=c2.1;refine W (b:=.ptr) (some o.o) b2 (by simp[oN,hn,B.inj]) (aL rfl (aL rfl (eo (some o.U8,none,o.bg,0,o.mv.1,o.old,0,()) j1 rfl ?_)));dsimp only;refine λelem=>?_;have e3:Ext d (d.push (.cells [.pointer none, .pointer none,aH 0,aH 0, .slice none 0 0,aH 0,aH 0].toArray elem)):=Ext.push ..;have ct:cC d.size 1 (d.push (.cells [.pointer none, .pointer none,aH 0,aH 0, .slice none 0 0,aH 0,aH 0].toArray elem)) ⟨some ⟨d.size,0,none⟩,7,7⟩ [.pointer none, .pointer none,aH 0,aH 0, .slice none 0 0,aH 0,aH 0]:=bX rfl (by decide) (by decide);generalize d.push (.cells [.pointer none, .pointer none,aH 0,aH 0, .slice none 0 0,aH 0,aH 0].toArray elem)=h3 at e3 ct⊢;have k8:d.size<h3.size:=(ct.lt rfl).2;refine DE [.pointer (some o.U8), .pointer none,aH o.bg,aH 0,dG o.mv.1,aH o.old,aH 0] ct rfl (by intro v hv;simp only[eJ,lU,or_false]at hv;rcases hv with rfl|rfl|rfl|rfl|rfl|rfl|rfl<;>rfl) λh4 jl u4 z4=>?_
 let F:Nat->Prop:=λi=>i=X.b.block\/∃a,X.U.1.aD=some a/\a.block=i
 have c9:aY (λi=>i=X.b.block) w h4:=(c2.ext e3).GS u4 λx Y bt=>by cases Y;exact absurd bt (by dsimp only;omega)
 have er:aY (λi=>i=d.size) d h4:=(aY.bH e3).GS u4 λx Y _=>by cases Y;rfl
 have cr:=er.own b2 λa ha e=>by cases ha;omega
 have t4:eM S n h4 X.T:=z.tK c9 λi hi e=>by rw[e];omega
 refine W (b:=.ptr) (some X.T.p) cr rfl (W (b:=bI) (X.last+1) cr rfl ?_);refine aM (XU t4) λ⟨(sp:OA),_⟩ h5 e5 hl=>?_;obtain⟨sn,rfl,b4⟩:=hl;have b4:Gr h4.size h5 sn X.T.p X.T.cur:=b4;dsimp only;have X5:∀{m size:Nat} {s:Sl} {vs:bE},cC m size h4 s vs->cC m size h5 s vs:=λho=>(aY.bH (F:=λ_=>False) e5).own ho λ_ _ x=>x;have ec:=X5 cr;have k9:=e5.1;refine sC (aI.1 ec.cells 9 _ rfl) ?_;refine eW (.pointer (some sn)) (X5 jl) (by simp) rfl λh6 js u6=>eW (aH at_) js (by simp) rfl λh7 j0 u7=>eW (aH (X.last+1)) j0 (by simp) rfl λh8 eh u8=>?_;simp only[xS,List.set_cons_succ]at eh;have bd:aY (λi=>i=d.size) h5 h8:=((aY.dP (F:=λi=>i=d.size) u6 λa ha _=>by cases ha;rfl).trans (aY.dP (F:=λi=>i=d.size) u7 λa ha _=>by cases ha;rfl) λ_ _ x=>x).trans (aY.dP (F:=λi=>i=d.size) u8 λa ha _=>by cases ha;rfl) λ_ _ x=>x;have ld:=bd.1;have lh:h4.size<=sn.block/\sn.block<h5.size:=b4.lt rfl;have j3:=bd.own b4 λa ha e=>by cases ha;omega
 have eg:=bd.own ec λa ha e=>by cases ha;omega
 have gw:aY (λi=>i=X.b.block) w h8:=(c9.ext e5).trans bd λi hi e=>by omega
 refine W (b:=bI) (X.last+1) eg rfl (aL rfl (aL rfl (eW (aH (X.last+1)) eg (by simp[oN]) rfl λh9 ih u9=>aL rfl (aL rfl (eW (.slice none 0 0) ih (by simp[oN]) rfl λO cg j4=>?_)))));have cb:∀{g g':aE} {m c:Nat},jE ⟨some X.b,m,c⟩ g g'->aY (λi=>i=X.b.block) g g':=λu=>aY.dP u λa ha _=>by cases ha;rfl
 have ab:aY (λi=>i=X.b.block) h8 O:=(cb u9).trans (cb j4) λ_ _ x=>x;have kk:=ab.1;have ei:aY (λi=>i=X.b.block) w O:=gw.trans ab λ_ _ x=>x;have fj:=ab.own eh λa ha e=>by cases ha;have e:d.size=X.b.block:=e;omega
 have gf:=ab.own j3 λa ha e=>by cases ha;have e:sn.block=X.b.block:=e;omega
 refine W (b:=.sl) X.U.1 cg (by simp[oN,B.inj]) ?_;refine λelem=>?_;have bo:Ext O (O.push (.cells [.pointer (some ⟨d.size,0,none⟩)].toArray elem)):=Ext.push ..;have c4:Rd 1 (O.push (.cells [.pointer (some ⟨d.size,0,none⟩)].toArray elem)) ⟨some ⟨O.size,0,none⟩,1,1⟩ [.pointer (some ⟨d.size,0,none⟩)]:=mX rfl;generalize O.push (.cells [.pointer (some ⟨d.size,0,none⟩)].toArray elem)=bs at bo c4⊢;have kp:=bo.1;have b8:=ei.ext bo;have cx:cC n 1 bs X.U.1 (oI X.U.2):=z.gy b8 λi hi e=>by rw[e];omega
 have hp:X.U.1.len=X.U.2.length:=by have:=cx.1;simpa[oI] using this
 have a4:∀a,X.U.1.aD=some a->D a.block=k+4/\a.block<w.size:=λa ha=>⟨z.ru a ha,(z.ou.lt ha).2⟩;refine iS cx (by omega) c4 (by intro v hv;rw[dE.1 hv];rfl) rfl (by dsimp only;omega) (by dsimp only;omega) λq g2 fv hz j9 c7 _=>?_;have al:aY (λi=>∃a,X.U.1.aD=some a/\a.block=i) bs g2:=aY.dP j9 λa ha _=>⟨a,ha,rfl⟩;have kt:=al.1;have b6:∀{m size:Nat} {s:Sl} {vs:bE},cC m size O s vs->cC m size bs s vs:=λho=>(aY.bH (F:=λ_=>False) bo).own ho λ_ _ x=>x;have e7:=al.own (b6 cg) λa ha ⟨y,hy,e⟩=>by cases ha;have w:=(a4 y hy).1;rw[e]at w;omega
 have fl:=al.own (b6 fj) λa ha ⟨y,hy,e⟩=>by cases ha;have w:=(a4 y hy).2;have e:y.block=d.size:=e;omega
 have gg:=al.own (b6 gf) λa ha ⟨y,hy,e⟩=>by cases ha;have w:=(a4 y hy).2;omega
 have dr:∀a,q.aD=some a->(D a.block=k+4/\a.block<w.size)\/bs.size<=a.block:=λa ha=>(c7 a ha).imp (a4 a) id;have I:∀a,q.aD=some a->a.block≠X.b.block/\a.block≠d.size/\a.block≠sn.block:=λa ha=>by
  rcases dr a ha with⟨w,d⟩|w
  .refine⟨λe=>?_,by omega,by omega⟩
   rw[e]at w;omega
  .omega
 refine aL rfl (aL rfl (eW (dG q) e7 (by simp[oN]) rfl λa0 N kd=>?_));have ao:=cb kd;have ku:=ao.1;have fy:=ao.own fv λa ha e=>(I a ha).1 e;have fm:=ao.own fl λa ha e=>by cases ha;have e:d.size=X.b.block:=e;omega
 have gm:=ao.own gg λa ha e=>by cases ha;have e:sn.block=X.b.block:=e;omega
 have g1:aY F w a0:=((b8.mono (G:=F) λi _ x=>.inl x).trans (al.mono (G:=F) λi _ x=>.inr x) λ_ _ x=>x).trans (ao.mono (G:=F) λi _ x=>.inl x) λ_ _ x=>x
 let g:HC:={pt:=⟨d.size,0,none⟩,U8:=o.U8,qf:=sn,sb:=o.sb,sh:=X.T.cur,bg:=o.bg,en:=at_,mv:=o.mv,old:=o.old,fresh:=X.last+1}
 have a9:cC n 1 a0 q (oI (X.U.2++[g])):=by
  have:oI (X.U.2++[g])=oI X.U.2++[.pointer (some ⟨d.size,0,none⟩)]:=by simp[oI,g]
  rw[this];exact fy
 let V:Sl->bE:=λH=>((((((oN X).set 9 (aH (X.last+1))).set 7 (aH (X.last+1))).set 3 (.slice none 0 0)).set 2 (dG H)))
 have N:cC n 1 a0 ⟨some X.b,10,10⟩ (V q):=N;refine eN (λtg vs h'=>tg=0/\vs=[]/\∃H,cC n 1 h' H (oI (S5 X g))/\H.aD=q.aD/\cC n 1 h' ⟨some X.b,10,10⟩ (V H)/\aY (λi=>i=X.b.block\/∃a,q.aD=some a/\a.block=i) a0 h') ?_ ?_
 .refine W (b:=.sl) q N (by simp[V,oN,B.inj]) (W (b:=bI) X.depth N (by simp[V,oN,B.inj]) ?_)
  have ds:q.len=X.U.2.length+1:=by rw[hz,hp]
  refine aG (λhd=>?_) λhd=>?_
  .rw[dQ,aN,ds]at hd
   have a6:S5 X g=(X.U.2++[g]).drop 1:=if_pos (by omega);refine W (b:=.sl) q N (by simp[V,oN,B.inj]) ?_;obtain⟨g0,bp,de⟩:∃g0 bp,X.U.2++[g]=g0::bp:=by
    cases hh:X.U.2 with
    |nil=>exact⟨g,[],rfl⟩
    |cons a l=>exact⟨a,l++[g],rfl⟩
   rw[de]at a9;refine Tw (XQ (v:=.pointer (some g0.pt)) (vs:=oI bp) a9 (by intro u hu;obtain⟨y,_,rfl⟩:=dC.1 hu;rfl)) λ⟨(H:Sl),_⟩ g3 c8 Y=>?_;obtain⟨ba,Z⟩:=Y;have Z:H.aD=q.aD:=Z;have ba:cC n 1 g3 H (oI bp):=ba;dsimp only;have e8:=c8.own N λa ha ⟨y,hy,e⟩=>by cases ha;exact(I y hy).1 e
   refine aL rfl (aL rfl (eW (dG H) e8 (by simp[V,oN]) rfl λg4 bb ke=>?_));have aw:=cb ke;refine aC ⟨rfl,rfl,H,?_,Z,?_,(c8.mono λi _ x=>.inr x).trans aw λi _ x=>.inl x⟩
   .rw[a6,de]
    exact aw.own ba λa ha e=>(I a (by rw[<-Z];exact ha)).1 e
   .have:V H=(V q).set 2 (dG H):=by simp[V,oN]
    rw[this];exact bb
  .rw[gC,aN,ds]at hd
   have a6:S5 X g=X.U.2++[g]:=if_neg (by omega);exact aC ⟨rfl,rfl,q,by rw[a6];exact a9,rfl,N,aY.refl _ _⟩
 rintro tg vs g4 ⟨rfl,rfl,H,e4,b0,bb,aw⟩;refine bK (bV (aC (UH C bb λa3 e9 b9=>⟨rfl, .inr ⟨df,rfl,?_⟩⟩)));have kz:=aw.1;have k0:=b9.1
 let G:Nat->Prop:=λi=>i=X.b.block\/∃a,q.aD=some a/\a.block=i
 have a5:aY G a0 a3:=(aw.mono (G:=G) λ_ _ x=>x).trans (b9.mono (G:=G) λi _ e=>.inl e) λ_ _ x=>x;have cT:aY F w a3:=g1.trans a5 λi hi hg=>by
  rcases hg with rfl|⟨a,ha,rfl⟩
  .exact .inl rfl
  .rcases c7 a ha with h|h
   .exact .inr ⟨a,h,rfl⟩
   .omega
 have hF:∀i,i<w.size->F i->D i=k+1\/D i=k+4:=λi hi J=>by
  rcases J with rfl|⟨a,ha,rfl⟩
  .exact .inl b3
  .exact .inr (a4 a ha).1
 have ft:=a5.own fm λa ha hg=>by
  cases ha;rcases hg with e|⟨y,hy,e⟩
  .have e:d.size=X.b.block:=e;omega
  .exact(I y hy).2.1 e
 have gv:=a5.own gm λa ha hg=>by
  cases ha;rcases hg with e|⟨y,hy,e⟩
  .omega
  .exact(I y hy).2.2 e
 have e6:=b9.own e4 λa ha e=>(I a (by rw[<-b0];exact ha)).1 e
 let E:Nat->Nat:=λi=>if i<w.size then (if D i=k+7 then 0 else D i) else if (∃a,q.aD=some a/\a.block=i) then k+4 else 0
 have hold:∀i,i<w.size->E i=if D i=k+7 then 0 else D i:=λi hi=>if_pos hi
 have A:∀j,j≠k+7->∀i,i<w.size->D i=j->E i=j:=λj hj i hi e=>by rw[hold i hi,e,if_neg hj]
 have cd:∀i,w.size<=i->(∀a,q.aD=some a->a.block≠i)->E i=0:=λi hi hq=>by
  show(if _ then _ else _)=0;rw[if_neg (by omega),if_neg];rintro⟨a,ha,e⟩;exact hq a ha e
 have g8:∀a,q.aD=some a->E a.block=k+4:=λa ha=>by
  rcases dr a ha with⟨w,d⟩|w
  .exact A _ (by omega) _ d w
  .show(if _ then _ else _)=_
   rw[if_neg (by omega),if_pos ⟨a,ha,rfl⟩]
 have r0:E d.size=0:=cd _ g9 λa ha e=>(I a ha).2.1 e;have j2:E sn.block=0:=cd _ (by omega) λa ha e=>(I a ha).2.2 e;have gR:TF n a3 E (SA X.T) g:={
  ob:=IT (by omega) ft
  s1:=cT.own ro.sn λa ha J=>by cases ha;have w:=hF _ (ro.sn.lt rfl).2 J;have d:=ro.rs;omega
  s2:=IT (by omega) gv
  k1:=dZ _ ro.ks
  k2:=cX ..
  mv:=ro.mv.aP cT (λi hi J=>⟨by have:=hF i hi J;omega,λa ha e=>by have w:=ro.mv.role a ha;have:=hF i hi J;rw[e]at w;omega⟩) (A 0 (by omega)) λa ha=>by
   rw[hold _ (ro.mv.own.lt ha).2,if_pos (ro.mv.role a ha)]
  r0:=⟨r0,A 0 (by omega) _ (ro.sn.lt rfl).2 ro.rs,j2⟩}
 refine⟨E,cn X g H,c5.trans ⟨cT.mono λi hi J=>by have:=hF i hi J;omega,λi hi ho=>A _ (by omega) i hi rfl,λi hi hj=>?_⟩,?_,⟨λY=>absurd (M.symm.trans Y) (by decide),λ_=>⟨g,H,⟨rfl,rfl,rfl,rfl,rfl,rfl,rfl⟩,rfl⟩⟩⟩
 .by_cases bt:i<w.size
  .rw[hold i bt]
   split
   .exact .inl rfl
   .rcases hj with hj|hj
    .omega
    .exact .inr hj
  .show(if _ then _ else _)=0\/_<(if _ then _ else _)/\(if _ then _ else _)<=_
   rw[if_neg bt];split
   .exact .inr (by omega)
   .exact .inl rfl
 .have ey:∀g',g'∈X.U.2\/g'∈X.R.2->TF n a3 E (SA X.T) g':=z.gk cT (λi hi J=>by have:=hF i hi J;omega) (A 0 (by omega)) rfl λs hs=>dZ _ hs
  exact{
   t:=(z.tK cT λi hi J=>by have:=hF i hi J;omega).aP
   rt:=z.pk (A _ (by omega))
   mp:=z.gr cT λi hi J=>by have:=hF i hi J;omega
   rm:=z.mw (A _ (by omega))
   ow:=z.gz cT λi hi J=>by have:=hF i hi J;omega
   Es:=z.pw (A _ (by omega))
   ou:=e6
   ru:=λa ha=>g8 a (by rw[<-b0];exact ha)
   KS:=cC.nil _ _ _
   rr:=λa ha=>by cases ha
   gs:=λg' L=>by
    rcases L with L|L
    .have L:g'∈S5 X g:=L
     have hm:g'∈X.U.2++[g]:=by
      unfold S5 at L;split at L
      .exact Bi L
      .exact L
     rcases dD.1 hm with hm|hm
     .exact ey g' (.inl hm)
     .rw[dE.1 hm];exact gR
    .cases L
   nw:=λo' cf=>by cases cf
   ob:=by
    have:oN (cn X g H)=(V H).set 6 (.pointer none):=by simp[oN,V]
    show cC n 1 a3 ⟨some X.b,10,10⟩ (oN (cn X g H));rw[this];exact e9
   rb:=A _ (by omega) _ e2 b3}
end
end Go.Sw.Hist
