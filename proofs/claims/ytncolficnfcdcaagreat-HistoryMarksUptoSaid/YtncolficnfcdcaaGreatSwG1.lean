
/- Steps. -/
import Derived.Test.YtncolficnfcdcaaGreatSwG0
import Derived.Test.YtncolficnfcdcaaGreatSwU6
set_option linter.unusedVariables false
set_option linter.unusedSimpArgs false
set_option maxRecDepth 100000
set_option maxHeartbeats 1000000
namespace Go.Sw.Piece
open Go.Sw.Any Go.Sw.Codec
open Go.Sw.Tree (iv fP jR jX mW oR kM rL kK dQ lB)
section
variable{P:Program}{S:cH}{h:aG}{Q:Nat->bG->aG->Prop}
variable{q:Pc}{i:Nat}
def FB(enc:Int)(q:Pc)(n:Nat):Pc:=(FA enc q.1 q.2 n,q.2.take (dM ((bH enc q.2).take n)))
def FW(enc:Int)(q:Pc)(n:Nat):Pc:=(He enc q.1 q.2 n,q.2.drop (dM ((bH enc q.2).take n)))
theorem Xp{enc:Int}(hb:cC q.2){n:Nat}(b:n<=(bH enc q.2).length):zK enc (FB enc q n)=(zK enc q).take n:=by
 unfold zK FB;dsimp only;rw[Gu hb n b,Pw];rfl
theorem Xq{enc:Int}(hb:cC q.2){n:Nat}(b:n<=(bH enc q.2).length):zK enc (FW enc q n)=(zK enc q).drop n:=by
 unfold zK FW;dsimp only;rw[(pO hb n b).2,J5];show iH (Kt q.1.2.1 _) 0 _=_;rw[Nf]
theorem Jh{ts:List (Int×Int)}(h:TI ts)(b:0<ts.length):0<dM ts:=by
 cases ts with
 |nil=>simp at b
 |cons t ts=>have:=h t (eO ..);rw[nA];omega
theorem AZ.aD{T:TX}{q:Pc}(r:AZ h T q):∃a,q.1.1.aD=some a:=by
 obtain⟨a,e,_⟩:=r.lO.rd.at (i:=0) r.ne;exact⟨a,e⟩
theorem AZ.head{T:TX}(r:AZ h T q){n:Nat}(h0:0<n)(d:n<=(bH T.enc q.2).length):AZ h T (FB T.enc q n):=by
 have hb:=r.bytes;have j:=oN (enc:=T.enc) hb;have x:=(pO (enc:=T.enc) hb n d).1.le hb;have z:=Jh (j.take n) (by rw[dJ];omega);have g:=Gu (enc:=T.enc) hb n d;have hlen:=r.lO.len;have w:=r.lO.cap;have y:=r.lO.max;have A:=r.tag;have C:=r.len;unfold FB FA;generalize B:dM ((bH T.enc q.2).take n)=k at *;have c:(q.2.take k).length=k:=by rw[dJ];omega
 refine⟨r.lO.take x (bM _) (by omega),by dsimp only;omega,?_,?_,by dsimp only;omega,λa ha=>?_⟩
 .dsimp only;rw[g];rfl
 .dsimp only;rw[c]
  show -1<=q.1.2.1/\q.1.2.1+(k:Int)<=65536;omega
 .obtain⟨o,p,t⟩:=r.MN a ha
  refine⟨o,p,λb hb DN=>?_⟩;obtain⟨u,b5⟩:=t b hb DN;exact⟨u,by dsimp only;omega⟩
theorem AZ.tail{T:TX}{q:Pc}(r:AZ h T q){n:Nat}(I:n<(bH T.enc q.2).length):AZ h T (FW T.enc q n):=by
 have hb:=r.bytes;have t:=oN (enc:=T.enc) hb;have A:=(pO (enc:=T.enc) hb n (by omega)).1.le hb;have p:=(pO (enc:=T.enc) hb n (by omega)).2;have C:=Gt (enc:=T.enc) hb;have o:=jO ((bH T.enc q.2).take n) ((bH T.enc q.2).drop n);rw[eY]at o;have D:=Jh (t.drop n) (by rw[cV];omega);have hlen:=r.lO.len;have z:=r.lO.cap;have B:=r.lO.max;have E:=r.tag;have H:=r.len;unfold FW He;generalize G:dM ((bH T.enc q.2).take n)=k at *;have j:(q.2.drop k).length=q.2.length-k:=cV;obtain⟨d,c⟩:=r.aD;have g:bK q.1.1.aD q.1.1.cap k 1=some (d.add k):=by unfold bK;rw[if_neg (by omega),c];simp
 refine⟨r.lO.tail (i:=k) A,by dsimp only;omega,?_,?_,by dsimp only;omega,λa ha=>?_⟩
 .dsimp only;rw[p];rfl
 .dsimp only;rw[j]
  show -1<=Kt q.1.2.1 k/\Kt q.1.2.1 k+((q.2.length-k:Nat):Int)<=65536;unfold Kt;split<;>omega
 .have ha:bK q.1.1.aD q.1.1.cap k 1=some a:=ha
  rw[g]at ha;cases ha;obtain⟨u,w,x⟩:=r.MN d c;rw[iS];refine⟨u,w,λb hb DN=>?_⟩;obtain⟨y,b5⟩:=x b hb DN;refine⟨MJ y _,?_⟩;rw[VL];show d.off+k+(q.2.drop k).length<=_;omega
theorem pJ(enc:Int)(a b:List Pc):iG enc (a++b)=iG enc a++iG enc b:=by simp[iG]
theorem IT(enc:Int)(q:Pc):iG enc [q]=zK enc q:=by simp[iG]
theorem Px{enc:Int}{ps:List Pc}(c:ps[i]?=some q):iG enc ps=iG enc (ps.take i)++zK enc q++iG enc (ps.drop (i+1)):=by
 have b:=(cR.1 c).1;have he:=(cR.1 c).2;have d:ps=ps.take i++[q]++ps.drop (i+1):=by
  rw[<-he,dW];show ps=ps.take i++(ps[i]::ps.drop (i+1));rw[<-gY b,eY]
 conv=>lhs;rw[d]
 rw[pJ,pJ,IT]
theorem Fv(enc:Int)(q:Pc):(zK enc q).length=(bH enc q.2).length:=Fu ..
theorem S1{enc:Int}{ps:List Pc}{at_:Int}{n:Nat}(f:Sq enc ps at_ i n)(h0:0<=at_):(iG enc ps).take at_.toNat=iG enc (ps.take i)++(match ps[i]? with|some q=>(zK enc q).take n|none=>[]) /\
  (iG enc ps).drop at_.toNat=(match ps[i]? with|some q=>(zK enc q).drop n|none=>[])++iG enc (ps.drop (i+1))/\(∀q,ps[i]?=some q->n<=(bH enc q.2).length):=by
 obtain⟨f1,f2,f3,f4⟩:=f;have d:at_.toNat=(iG enc (ps.take i)).length+n:=by rw[yU];omega
 cases c:ps[i]? with
 |none=>
  by_cases h:0<at_
  .obtain⟨q,b,_⟩:=f4 h;rw[c]at b;cases b
  .obtain⟨rfl,rfl⟩:=f3 (by omega)
   have:ps=[]:=by
    cases ps with
    |nil=>rfl
    |cons q ps=>simp at c
   subst this;exact⟨by simp[iG],by simp[iG],λq c=>(by cases c)⟩
 |some q=>
  have g:n<=(zK enc q).length:=by
   rw[Fv];by_cases h:0<at_
   .obtain⟨p,b,_,o⟩:=f4 h;rw[c]at b;cases b;exact o
   .obtain⟨_,rfl⟩:=f3 (by omega);exact cN _
  have j:=Px (enc:=enc) c;refine⟨?_,?_,λp b=>by cases b;rw[<-Fv];exact g⟩
  .rw[j,d,dW,JP,iW (by omega),BE,Ap g]
  .rw[j,d,dW,R3,uL (by omega),BE,R4 g,GA]
theorem Xv{enc:Int}{ps:List Pc}{a b:Int}{n j m:Nat}(f:Sq enc ps a i n)(g:Sq enc ps b j m)(h0:0<=a)(DN:a<=b):i<=j:=by
 obtain⟨f1,f2,f3,f4⟩:=f;obtain⟨t,u,w,d⟩:=g;by_cases ha:0<a
 .obtain⟨q,x,z,A⟩:=f4 ha
  obtain⟨r,hr,m0,y⟩:=d (by omega);by_cases c:i<=j
  .exact c
  .have o:=HT (enc:=enc) hr
   have p:(cQ enc (ps.take (j+1))).length<=(cQ enc (ps.take i)).length:=by
    have:ps.take (j+1)=(ps.take i).take (j+1):=by rw[JR,F4 (by omega)]
    rw[this];exact Hf _ _
   rw[o,bP]at p;omega
 .have:=(f3 (by omega)).1;omega
theorem Nc(tag:Int):∀(ts:List (Int×Int)) (o:Nat),(iH tag o ts).map (·.1)=ts.map (·.1)
 |[],_=>rfl
 |t::ts,o=>by simp only[iH,fS,Nc tag ts]
theorem Gs{enc:Int}(he:eL enc):∀{ps:List Pc},(∀q,q∈ps->cC q.2)->cQ enc ps=((iG enc ps).map (·.1)).map (tk enc)/\dR ps=((iG enc ps).map (·.1)).flatMap (cZ enc)/\∀a,a∈(iG enc ps).map (·.1)->0<bW enc a
 |[],_=>⟨rfl,rfl,λa ha=>(by cases ha)⟩
 |q::ps,hb=>by
  have b:=WG he (hb q (eO ..));obtain⟨i1,i2,i3⟩:=Gs he (ps:=ps) λx g=>hb x (eK _ g);have e:iG enc (q::ps)=zK enc q++iG enc ps:=by simp[iG]
  have c:(zK enc q).map (·.1)=(bH enc q.2).map (·.1):=by unfold zK;rw[Nc]
  have d:bH enc q.2=((bH enc q.2).map (·.1)).map (tk enc):=by
   rw[sX]
   conv=>lhs;rw[<-List.map_id (bH enc q.2)]
   refine JS λt ht=>?_;show t=(t.1,bW enc t.1);rw[<-(b.1 t ht).2]
  rw[e,dP,dP,gX,c];refine⟨?_,?_,λa ha=>?_⟩
  .rw[<-d,<-i1];simp[cQ]
  .rw[<-i2,List.flatMap_map,b.2];simp[dR]
  .rcases dH.1 ha with ha|ha
   .obtain⟨t,ht,rfl⟩:=dA.1 ha
    exact(b.1 t ht).1
   .exact i3 a ha
theorem Ze{enc:Int}(h:q.1.2.1 = -1):zK enc q=(bH enc q.2).map λt=>(t.1, -1):=by
 unfold zK;rw[h];have:∀(b:List (Int×Int)) (o:Nat),iH (-1) o b=b.map λt=>(t.1, -1):=by
  intro b
  induction b with
  |nil=>intro o;rfl
  |cons t b c=>intro o;simp only[iH,fS,c];rw[if_pos (by decide)]
 exact this _ _
theorem V5{enc:Int}:∀{qs:List Pc},(∀q,q∈qs->q.1.2.1 = -1)->iG enc qs=(cQ enc qs).map λt=>(t.1, -1)
 |[],_=>rfl
 |q::qs,h=>by
  have:=V5 (enc:=enc) (qs:=qs) λx b=>h x (eK _ b);unfold iG cQ at this⊢;rw[gB,gB,dP,this,Ze (h q (eO ..))]
structure MC(T T':TX)(m:Nat):Prop where
 p:T'.p=T.p
 enc:T'.enc=T.enc
 limit:T'.limit=T.limit
 kept:T'.kept=T.kept
 zm:∀i,T.Z i->T'.Z i
 zn:∀i,T'.Z i->T.Z i\/m<=i
 adc:∀b,T'.ad.aD=some b->T.ad.aD=some b\/m<=b.block
theorem MC.refl(T:TX)(m:Nat):MC T T m:=⟨rfl,rfl,rfl,rfl,λ_ h=>h,λ_ h=>.inl h,λ_ h=>.inl h⟩
theorem MC.trans{T T' c:TX}{m d:Nat}(a:MC T T' m)(b:MC T' c d)(hm:m<=d):MC T c m:=
 ⟨b.p.trans a.p,b.enc.trans a.enc,b.limit.trans a.limit,b.kept.trans a.kept,λi hi=>b.zm i (a.zm i hi),λi hi=>(b.zn i hi).elim (a.zn i) λh=>.inr (dI hm h),
  λx g=>(b.adc x g).elim (a.adc x) λh=>.inr (dI hm h)⟩
theorem MC.yw{T T':TX}{m:Nat}(a:MC T T' m)(hi:rS T' i):rS T i\/m<=i:=by
 rcases hi with rfl|⟨b,hb,rfl⟩
 .rw[a.p];exact .inl (.inl rfl)
 .exact(a.adc b hb).imp (λh=>.inr ⟨b,h,rfl⟩) id
end
section
variable{P:Program}{S:cH}{h:aG}{Q:Nat->bG->aG->Prop}
theorem eG{m:aK}{tys:List Ty}{K:Ts.den tys->aK}{R:Nat->bG->aG->Prop}(g:wp P m h R)(b:∀t vs h',R t vs h'->t=0/\∃x,vs=Ts.inj tys x/\wp P (K x) h' Q):wp P (.call m tys K) h Q:=cM m b g
theorem Wh{n:Nat}{Z:Nat->Prop}{s:Sl}{l:List Part}(o:zJ n h s l)(hw:∀x,x∈l->VS (WI x) (Jv x)):Pm (part S Z) h s l:=⟨o.rd,o.2.1,o.2.2.1,hw⟩
theorem Ri{T:TX}:∀{ps:List Pc},(∀q,q∈ps->AZ h T q)->ps.length<=(dR ps).length
 |[],_=>bM _
 |q::ps,b=>by
  have c:=Ri (ps:=ps) λx d=>b x (eK _ d);have g:=(b q (eO ..)).ne;unfold dR at c⊢;rw[gB,bP,fK];omega
theorem tM(a b:List Pc):dR (a++b)=dR a++dR b:=by simp[dR]
theorem Po{ps qs:List Pc}(b:qs.Sublist ps):(dR qs).length<=(dR ps).length:=by
 induction b with
 |slnil=>exact bM _
 |cons q b c=>unfold dR at c⊢;rw[gB,bP];omega
 |cons_cons q b c=>unfold dR at c⊢;rw[gB,gB,bP,bP];omega
theorem PY{n:Nat}{T:TX}{d:aG}{m:Nat}{root:OA}{o:Bt Part}{ps':List Pc}(t:eP S n h T)(hm:∀i,T.Z i->i<m)(G:n<=m/\m<=h.size)
  (nd:Nd (part S λi=>T.Z i\/m<=i) h root o) (ls:o.list=ps'.map (·.1)) (Cx:∀q,q∈ps'->AZ h T q) (small:(dR ps').length<=1099511627776)
  (o2:cA n 1 d ⟨some T.p,4,4⟩ [aH T.enc,aH T.limit, .pointer root,dN T.ad]) (r:jU ⟨some T.p,4,4⟩ h d) :
  eP S n d {T with cur:=⟨root,o,ps'⟩,Z:=λi=>(T.Z i\/m<=i)/\i<d.size}:=by
 have I:T.p.block<h.size:=(t.lo _ t.zp).2;have z:(⟨T.p.block,0,none⟩:Addr)=T.p:=by
  obtain⟨_,_,_,E⟩:=t.ob;obtain⟨e0,C,_⟩:=E;show(⟨T.p.block,0,none⟩:Addr)=⟨T.p.block,T.p.off,T.p.spot⟩;rw[e0,C]
 have A:∀b,(⟨some T.p,4,4⟩:Sl).aD=some b->∃k x,Sw.cell h ⟨b.block,0,none⟩=some (.int k x):=λb hb=>by
  cases hb;have c:=t.c0;rw[add_zero']at c;rw[z];exact⟨_,_,c⟩
 have H:=r.1;have B:∀{q},AZ h T q->AZ d {T with cur:=⟨root,o,ps'⟩,Z:=λi=>(T.Z i\/m<=i)/\i<d.size} q:=λ{q} g=>
  ⟨g.lO.blocks λa ha D=>r.2.1 _ D λb hb=>by cases hb;exact λe=>(g.MN a ha).2.1 e.symm,g.ne,g.is,g.tag,g.len,λa ha=>⟨⟨.inl (g.MN a ha).1,by have:=(t.lo _ (g.MN a ha).1).2;omega⟩,(g.MN a ha).2⟩⟩
 have st:∀{s},Lv S h T s->Lv S d {T with cur:=⟨root,o,ps'⟩,Z:=λi=>(T.Z i\/m<=i)/\i<d.size} s:=λ{s} j=>⟨yA (j.nd.Vx r A) λi hi y=>⟨.inl y,hi⟩,j.ls,λq w=>B (j.Cx q w),j.small⟩;refine⟨t.enc,t.Bq,o2,t.ad.Hg r λa b ha hb=>by cases hb;exact λe=>t.dz a ha e.symm,t.dz,t.uz,⟨yA (nd.Vx r A) λi hi y=>⟨y,hi⟩,ls,λq w=>B (Cx q w),small⟩,λs j=>st (t.kept s j),⟨.inl t.zp,show T.p.block<d.size by omega⟩,λb hb=>⟨.inl (t.za b hb),by have:=(t.lo _ (t.za b hb)).2;omega⟩,λi hi=>?_⟩;obtain⟨hi|hi,u⟩:=hi
 .exact⟨(t.lo i hi).1,u⟩
 .exact⟨by omega,u⟩
def mU(enc:Int)(ps:List Pc)(i n:Nat):List Pc:=match ps[i]? with|some q=>if 0<n then [FB enc q n] else []|none=>[]
def lS(enc:Int)(ps:List Pc)(j m:Nat):List Pc:=match ps[j]? with|some q=>if m<(bH enc q.2).length then [FW enc q m] else []|none=>[]
theorem Xi(M:kB P S){n:Nat}{T:TX}{from_ to:Int}{put:Sl}{l:bB}(t:eP S n h T)(hn:n<=h.size)(hp:kW .i64 h put l)(N:∀a,a∈l->0<bW T.enc a)(hA:T.A.length+4*l.length<=1099511627776)
  (hz:l≠[]->∀a,put.aD=some a->¬T.Z a.block) (h0:0<=from_) (h1:from_<=to) (h2:to<=(iG T.enc T.cur.ps).length) (fv:(dR T.cur.ps).length+4*l.length<=500000000000) :
  wp P (vE S (some T.p) from_ to put) h λtg vs h'=>tg=0/\vs=[]/\aV (rS T) h h'/\∃T',eP S n h' T'/\MC T T' h.size/\T'.A=T.A++l.flatMap (cZ T.enc) /\
   iG T.enc T'.cur.ps=(iG T.enc T.cur.ps).take from_.toNat++l.map (λa=>(a, -1))++(iG T.enc T.cur.ps).drop to.toNat:=by
 unfold vE;have g4:(cQ T.enc T.cur.ps).length=(iG T.enc T.cur.ps).length:=(yU ..).symm;have gf:=Ri t.cur.Cx;have gg:=HJ N;refine aM (Qi t h0 (by omega)) λ⟨(i':Int),(n':Int),_⟩ ha ea ⟨i,ni,hi,bt,fi⟩=>aM (Qi (t.ext ea) (by omega) (by omega)) λ⟨(j':Int),(m':Int),_⟩ hb eb ⟨j,o,hj,bo,fj⟩=>?_;have hi:i'=i:=hi;have bt:n'=ni:=bt;have hj:j'=j:=hj;have bo:m'=o:=bo;subst hi;subst bt;subst hj;subst bo;dsimp only;have gw:=Xv fi fj h0 h1;obtain⟨eT,_,V⟩:=S1 fi h0;obtain⟨_,eD,bp⟩:=S1 fj (by omega:0<=to);have aw:=ea.trans eb;have G:=t.ext aw;have O:∀Z,(part S Z).Ok P:=λZ=>Ch S Z;have g0:=fi.1;have g1:=fj.1;have a9:=t.cur.bytes;have ft:∀q,q∈mU T.enc T.cur.ps i ni->AZ h T q:=λq c=>by
  unfold mU at c;cases w:T.cur.ps[i]? with
  |none=>rw[w]at c;cases c
  |some x=>
   rw[w]at c;dsimp only at c;split at c
   .rw[dE.1 c];exact(t.cur.Cx x (eM w)).head (by omega) (V x w)
   .cases c
 refine dB (λtg vs h'=>tg=0/\Ext hb h'/\∃s,vs=[dN s]/\zJ hb.size h' s ((mU T.enc T.cur.ps i ni).map (·.1))) ?_ ?_
 .cases c:T.cur.ps[i]? with
  |none=>
   have al:mU T.enc T.cur.ps i ni=[]:=by unfold mU;rw[c]
   refine uK G (aM (R:=λ(y:Part×Bool×Unit) _=>y.1=zP/\y.2.1=false) (Uz (O T.Z) G.cur.nd (rV (G.cur.room G.Bq.2)) (by omega) (.inr ?_)) λ⟨(y:Part),(ok:Bool),_⟩ h5 K ⟨Y,u⟩=>?_)
   .have h1:T.cur.t.list.length<=i:=by rw[t.cur.ls,cE];exact WS.1 c
    show((List.length T.cur.t.list:Nat):Int)<=_;omega
   .have u:ok=false:=u
    subst u;dsimp only;refine gN (bs:=PB) zP (by decide) λh6 e6 o6=>mX (bs:=PB) y o6 (xD _) λL o7 u7=>?_;have z:Ext hb L:=jU.jQ (K.trans e6) u7 (by intro x d;cases d;exact K.size);refine bZ False (lW (aC ⟨rfl,Ext.refl _,false,rfl,Iff.intro (λh=>by cases h) False.elim⟩)) λbb h8 e8 a0=>aE (λd=>(a0.1 d).elim) λ_=>aC ⟨rfl,z.trans e8,⟨none,0,0⟩,rfl,?_⟩;rw[al];exact cA.nil _ _ _
  |some q=>
   have d:T.cur.t.list[((i:Int)).toNat]?=some q.1:=by rw[cS,t.cur.ls,gP,c];rfl
   refine uK G (aM (R:=λ(y:Part×Bool×Unit) _=>y.1=q.1/\y.2.1=true) (oi (O T.Z) G.cur.nd G.cur.wf (rV (G.cur.room G.Bq.2)) (by omega) d) λ⟨(y:Part),(ok:Bool),_⟩ h5 K ⟨Y,u⟩=>?_);have u:ok=true:=u;have Y:y=q.1:=Y;subst u;subst Y;dsimp only;refine gN (bs:=PB) zP (by decide) λh6 e6 o6=>mX (bs:=PB) q.1 o6 (xD _) λL o7 u7=>?_;have z:Ext hb L:=jU.jQ (K.trans e6) u7 (by intro x d;cases d;exact K.size);have t7:=G.ext z;have a3:=eM c;refine bZ (0<ni) (mV (aC ⟨rfl,Ext.refl _,_,rfl,by rw[dL];omega⟩)) λbb h8 e8 a0=>aE (λd=>?_) λd=>?_
   .have ct:=a0.1 d
    have al:mU T.enc T.cur.ps i ni=[FB T.enc q ni]:=by unfold mU;rw[c];dsimp only;rw[if_pos ct]
    have t8:=t7.ext e8;have pc:=t8.cur.Cx q a3;refine dB (λtg vs h'=>tg=0/\Ext h8 h'/\∃A:Addr,vs=[.pointer (some A)]/\EL h8.size h' A (FA T.enc q.1 q.2 ni)) ?_ ?_
    .refine UI M (fin:=λA B=>.ret 0 [.pointer (some A)]) t8 (x:=q.1) (bs:=q.2) pc (o7.ext e8) (by omega) (by have:=V q c;omega) λh9 A B e9 oA oB=>aC ⟨rfl,e9,A,rfl,?_⟩
     rw[cS]at oA;exact oA
    .rintro tg vs h9 ⟨rfl,e9,A,rfl,oA⟩
     refine bE (Cn (tys:=[tP]) (some A,()) rfl ?_);dsimp only;refine hS (bs:=PB) oA ?_;have C:=(z.trans e8).trans e9;refine Mb (n:=hb.size) (old:=[]) (new:=Bs.inj PB (FA T.enc q.1 q.2 ni)) (cA.nil _ _ _) C.size rfl (xD _) rfl (by decide) (by decide) λr a6 a5 c5 b8 d10=>aC ⟨rfl,?_,r,rfl,?_⟩
     .exact jU.jQ C b8 (by intro x d;cases d)
     .rw[al]
      show cA hb.size 7 a6 r (cP [FA T.enc q.1 q.2 ni]);rw[Qf];simpa using a5
   .have al:mU T.enc T.cur.ps i ni=[]:=by unfold mU;rw[c];dsimp only;rw[if_neg λk=>by rw[a0.2 k]at d;cases d]
    refine aC ⟨rfl,z.trans e8,⟨none,0,0⟩,rfl,?_⟩;rw[al];exact cA.nil _ _ _
 rintro tg vs hc ⟨rfl,ec,s,rfl,os⟩;refine bE (Cn (tys:=[tS]) (s,()) rfl ?_);dsimp only;have D:=aw.trans ec;have tc:=t.ext D;have ej:n<=hc.size:=dI hn D.size;refine eG (gk M tc ej (hp.ext D) N hA hz) λtg vs h' d=>?_;obtain⟨rfl,cd,g,rfl,F⟩:=d;refine⟨rfl,(g.ps,()),rfl,?_⟩;dsimp only;have td:=F.t;have cT:aV (rS T) h h':=aV.pre D cd;have e1:∀{x:Addr},hb.size<=x.block->¬rS T x.block:=λ{x} d hw=>by have:=(G.lo _ (JB G hw)).2;omega
 have fm:zJ hb.size h' s ((mU T.enc T.cur.ps i ni).map (·.1)):=cd.own os λx d hw=>e1 (os.lt d).1 hw;have fy:(mU T.enc T.cur.ps i ni).length<=1:=by unfold mU;split;split<;>simp;simp
 have e2:=zJ.len os;rw[cE]at e2;have de:=zJ.len F.op;rw[cE]at de;have g3:g.qs.length<=4*l.length:=by
  have h1:=Ri λq c=>(F.Cx q c).1;rw[F.put]at h1;omega
 refine Gz fm (dI ec.size cd.1) F.op.rd (VQ _) rfl (by show(s.len+g.ps.len)*64<=_;omega) (by omega) λr1 he a1 b1 u1 d1=>?_;rw[<-Gd,<-dP]at a1;have ce:aV (λi=>∃b,s.aD=some b/\b.block=i) h' he:=aV.dK u1 λx d _=>⟨x,d,rfl⟩;have b6:∀b,s.aD=some b->¬g.Z b.block:=λb hb hz=>by
  have h1:=(os.lt hb);rcases F.zn _ hz with d|d
  .have:=(G.lo _ d).2;omega
  .omega
 have H:eP S n he (T.at_ g):=td.oY ce λi hi ⟨b,hb,e⟩=>b6 b hb (e ▸ hi);have cx:∀q,q∈g.qs->AZ he (T.at_ g) q:=λq c=>(F.Cx q c).1.oY ce λi hi ⟨b,hb,e⟩=>b6 b hb (e ▸ hi);have E:∀b,r1.aD=some b->¬g.Z b.block/\hb.size<=b.block:=λb hb=>by
  refine⟨λhz=>?_,(a1.lt hb).1⟩;rcases d1 b hb with d|d
  .exact b6 b d hz
  .have:=(td.lo _ hz).2;omega
 refine dB (λtg vs h'=>tg=0/\aV (λi=>∃b,r1.aD=some b/\b.block=i) he h'/\∃r2,vs=[dN r2]/\zJ hb.size h' r2 ((mU T.enc T.cur.ps i ni++g.qs++lS T.enc T.cur.ps j o).map (·.1))/\∀b,r2.aD=some b->¬g.Z b.block) ?_ ?_
 .cases c:T.cur.ps[j]? with
  |none=>
   have ao:lS T.enc T.cur.ps j o=[]:=by unfold lS;rw[c]
   refine uK (T:=T.at_ g) H (aM (R:=λ(y:Part×Bool×Unit) _=>y.1=zP/\y.2.1=false) (Uz (O g.Z) H.cur.nd (rV (H.cur.room H.Bq.2)) (by omega) (.inr ?_)) λ⟨(y:Part),(ok:Bool),_⟩ h5 K ⟨Y,u⟩=>?_)
   .have h1:T.cur.t.list.length<=j:=by rw[t.cur.ls,cE];exact WS.1 c
    show((List.length T.cur.t.list:Nat):Int)<=_;omega
   .have u:ok=false:=u
    subst u;dsimp only;refine gN (bs:=PB) zP (by decide) λh6 e6 o6=>mX (bs:=PB) y o6 (xD _) λL o7 u7=>?_;have z:Ext he L:=jU.jQ (K.trans e6) u7 (by intro x d;cases d;exact K.size);refine lW (aC ⟨rfl,aV.bD z,r1,rfl,?_,λb hb=>(E b hb).1⟩);rw[ao,kQ];exact a1.ext z
  |some q=>
   have d:T.cur.t.list[((j:Int)).toNat]?=some q.1:=by rw[cS,t.cur.ls,gP,c];rfl
   refine uK (T:=T.at_ g) H (aM (R:=λ(y:Part×Bool×Unit) _=>y.1=q.1/\y.2.1=true) (oi (O g.Z) H.cur.nd H.cur.wf (rV (H.cur.room H.Bq.2)) (by omega) d) λ⟨(y:Part),(ok:Bool),_⟩ h5 K ⟨Y,u⟩=>?_);have u:ok=true:=u;have Y:y=q.1:=Y;subst u;subst Y;dsimp only;refine gN (bs:=PB) zP (by decide) λh6 e6 o6=>mX (bs:=PB) q.1 o6 (xD _) λL o7 u7=>mV ?_;have z:Ext he L:=jU.jQ (K.trans e6) u7 (by intro x d;cases d;exact K.size);have t7:=H.ext z;have a3:=eM c;have pc:=t7.cur.Cx q a3;have g2:=bp q c;refine dB (λtg vs h'=>tg=0/\Ext L h'/\∃B:Addr,vs=[.pointer (some B)]/\EL L.size h' B (He T.enc q.1 q.2 o)) ?_ ?_
   .refine UI M (T:=T.at_ g) (fin:=λA B=>.ret 0 [.pointer (some B)]) t7 (x:=q.1) (bs:=q.2) pc o7 (by omega) (show((o:Nat):Int)<=((bH T.enc q.2).length:Nat) by omega) λh9 A B e9 oA oB=>aC ⟨rfl,e9,B,rfl,?_⟩
    rw[cS]at oB;exact oB
   .rintro tg vs h9 ⟨rfl,e9,B,rfl,oB⟩
    refine bE (Cn (tys:=[tP]) (some B,()) rfl ?_);dsimp only;have C:=z.trans e9;have fl:=oN (enc:=T.enc) (a9 q a3);have b9:Sw.cell h9 ((B.add 2).add 0)=some (aH ((bH T.enc q.2).drop o).length):=by
     rw[add_zero'];have:=aI.1 oB.cells 2 _ rfl;rw[this];show some (Value.int .i64 (qX ((bH T.enc q.2).drop o)).1)=_;rw[(D9 (fl.drop o)).1]
    refine aL rfl (aL rfl (bC (b:=bI) ((B.add 2).add 0) _ rfl b9 (aE (λd=>?_) λd=>?_)))
    .rw[dL,cV]at d
     have ao:lS T.enc T.cur.ps j o=[FW T.enc q o]:=by unfold lS;rw[c];dsimp only;rw[if_pos (by omega)]
     refine hS (bs:=PB) oB ?_;have b0:=zJ.len a1;rw[cE,bP]at b0;refine Mb (n:=hb.size) (new:=Bs.inj PB (He T.enc q.1 q.2 o)) (a1.ext C) (dI (dI ec.size cd.1) (dI ce.1 C.size)) rfl (xD _) rfl (by show(r1.len+1)*64<=_;omega) (by omega) λr2 a6 a5 c5 b8 d10=>aC ⟨rfl,?_,r2,rfl,?_,λb hb=>?_⟩
     .exact(aV.bD C).trans (aV.dK b8 λx d _=>⟨x,d,rfl⟩) λi _ x=>x
     .rw[ao,dP]
      show cA hb.size 7 a6 r2 (cP (_++[He T.enc q.1 q.2 o]));rw[Gd,Qf];exact a5
     .rcases d10 b hb with d|d
      .exact(E b d).1
      .intro hz;have:=(H.lo _ hz).2;have:=C.size;omega
    .rw[gD,cV]at d
     have ao:lS T.enc T.cur.ps j o=[]:=by unfold lS;rw[c];dsimp only;rw[if_neg (by omega)]
     refine aC ⟨rfl,aV.bD C,r1,rfl,?_,λb hb=>(E b hb).1⟩;rw[ao,kQ];exact a1.ext C
 rintro tg vs N ⟨rfl,cf,r2,rfl,a2,z2⟩;refine bE (Cn (tys:=[tS]) (r2,()) rfl ?_);dsimp only;have tf:eP S n N (T.at_ g):=H.oY cf λi hi ⟨b,hb,e⟩=>(E b hb).1 (e ▸ hi);have c4:∀q,q∈g.qs->AZ N (T.at_ g) q:=λq c=>(cx q c).oY cf λi hi ⟨b,hb,e⟩=>(E b hb).1 (e ▸ hi);have b3:∀q,q∈lS T.enc T.cur.ps j o->AZ N (T.at_ g) q:=λq c=>by
  unfold lS at c;cases w:T.cur.ps[j]? with
  |none=>rw[w]at c;cases c
  |some x=>
   rw[w]at c;dsimp only at c;split at c
   .rename_i bd
    rw[dE.1 c];exact AZ.tail (T:=T.at_ g) (tf.cur.Cx x (eM w)) bd
   .cases c
 have ba:∀q,q∈mU T.enc T.cur.ps i ni->AZ N (T.at_ g) q:=λq c=>by
  unfold mU at c;cases w:T.cur.ps[i]? with
  |none=>rw[w]at c;cases c
  |some x=>
   rw[w]at c;dsimp only at c;split at c
   .rename_i bd
    rw[dE.1 c];exact AZ.head (T:=T.at_ g) (tf.cur.Cx x (eM w)) bd (V x w)
   .cases c
 have U:∀q,q∈mU T.enc T.cur.ps i ni++g.qs++lS T.enc T.cur.ps j o->AZ N (T.at_ g) q:=λq c=>by
  rcases dH.1 c with c|c
  .rcases dH.1 c with c|c
   .exact ba q c
   .exact c4 q c
  .exact b3 q c
 have cg:T.cur.t.list.length=T.cur.ps.length:=by rw[t.cur.ls,cE]
 refine uK (T:=T.at_ g) tf (uK (T:=T.at_ g) tf (aM (R:=λ(x:Int×Unit) _=>x.1=((T.cur.t.list.length:Nat):Int)) (Any.Hj (I:=part S g.Z) tf.cur.nd) λ⟨(sz:Int),_⟩ hg eg a4=>?_));have a4:sz=_:=a4;rw[cg]at a4;subst a4;dsimp only;have tg:=tf.ext eg;refine sR tg.c2 ?_;rw[aX (by omega) (by omega),lB];have hJ:min ((j:Int)+1) (T.cur.ps.length:Int)=((min (j+1) T.cur.ps.length:Nat):Int):=by omega
 rw[hJ]
 let J:Nat->Prop:=λi=>g.Z i\/hg.size<=i
 have c9:oJ (part S J) hg:=λi hi=>.inr hi;have e7:Nd (part S J) hg T.cur.root T.cur.t:=yA tg.cur.nd λi _ hi=>.inl hi;have e3:∀x,x∈(mU T.enc T.cur.ps i ni++g.qs++lS T.enc T.cur.ps j o).map (·.1)->VS (WI x) (Jv x):=λx d=>by
  obtain⟨q,c,rfl⟩:=dA.1 d;exact(U q c).wt.2
 have e4:Pm (part S J) hg r2 ((mU T.enc T.cur.ps i ni++g.qs++lS T.enc T.cur.ps j o).map (·.1)):=Wh (a2.ext eg) e3;have c6:=nu U;have dx:(dR (mU T.enc T.cur.ps i ni++g.qs++lS T.enc T.cur.ps j o)).length<=131072+4*l.length:=by
  have h1:(dR (mU T.enc T.cur.ps i ni)).length<=65536:=by
   unfold mU;split
   .rename_i q c
    split
    .have:=(t.cur.Cx q (eM c)).len
     show(dR [FB T.enc q ni]).length<=_;unfold dR FB;simp only[gB,List.flatMap_nil,kQ,dJ];omega
    .simp[dR]
   .simp[dR]
  have h2:(dR (lS T.enc T.cur.ps j o)).length<=65536:=by
   unfold lS;split
   .rename_i q c
    split
    .have:=(t.cur.Cx q (eM c)).len
     show(dR [FW T.enc q o]).length<=_;unfold dR FW;simp only[gB,List.flatMap_nil,kQ,cV];omega
    .simp[dR]
   .simp[dR]
  rw[tM,tM,bP,bP,F.put];omega
 have ei:=(FX (enc:=T.enc) λq c=>(U q c).bytes).1;have cr:=(t.cur.Yo t.Bq.2).2;have c7:(part S J).W T.cur.t.list+(part S J).W ((mU T.enc T.cur.ps i ni++g.qs++lS T.enc T.cur.ps j o).map (·.1))<=4398046511104:=by
  have h1:(part S J).W T.cur.t.list<=1099511627776:=cr;have h2:(part S J).W ((mU T.enc T.cur.ps i ni++g.qs++lS T.enc T.cur.ps j o).map (·.1))=(cQ T.enc (mU T.enc T.cur.ps i ni++g.qs++lS T.enc T.cur.ps j o)).length:=c6;rw[h2];refine dI (Nat.add_le_add h1 (dI ei dx)) ?_;omega
 have b2:=W4 (O J) (i:=(i:Int)) (j:=((min (j+1) T.cur.ps.length:Nat):Int)) e7 e4 tg.cur.wf (by omega) (by omega) (by show _<=((T.cur.t.list.length:Nat):Int);omega) c7 c9;rw[<-XD S J]at b2;refine aM (R:=λ(y:TR×Int×Unit) h'=>y.2.1=0/\∃t':Bt Part,Nd (part S J) h' y.1.1 t'/\t'.list=T.cur.t.list.take ((i:Int)).toNat++(mU T.enc T.cur.ps i ni++g.qs++lS T.enc T.cur.ps j o).map (·.1)++T.cur.t.list.drop (((min (j+1) T.cur.ps.length:Nat):Int)).toNat) (aS.mono b2 λy h' e ⟨h1,t',h2,h3,_⟩=>⟨h1,t',h2,h3⟩) λ⟨⟨(ab:OA),_⟩,(er:Int),_⟩ hh eh ⟨_,t',b4,df⟩=>?_;have b4:Nd (part S J) hh ab t':=b4;dsimp only;have th:=tg.ext eh;refine aL rfl (aL rfl (fA (.pointer ab) (show cA n 1 hh ⟨some T.p,4,4⟩ [aH T.enc,aH T.limit, .pointer T.cur.root,dN g.ad] from th.ob) (by simp) rfl λhk ok uk=>aC ⟨rfl,rfl,?_,?_⟩))
 .have c1:aV (rS T) h N:=(cT.trans ce λi hi ⟨b,hb,e⟩=>by have:=(os.lt hb).1;have:=aw.size;omega).trans cf λi hi ⟨b,hb,e⟩=>by have:=(E b hb).2;have:=aw.size;omega
  exact(c1.ext (eg.trans eh)).trans (pP uk) λi _ e=>.inl e
 .have ok:cA n 1 hk ⟨some T.p,4,4⟩ [aH T.enc,aH T.limit, .pointer ab,dN g.ad]:=ok
  have c8:T.cur.ps.drop (min (j+1) T.cur.ps.length)=T.cur.ps.drop (j+1):=by
   by_cases d:j+1<=T.cur.ps.length
   .rw[F4 d]
   .rw[Nat.min_eq_right (by omega),F5,uL (by omega)]
  have ds:t'.list=(T.cur.ps.take i++(mU T.enc T.cur.ps i ni++g.qs++lS T.enc T.cur.ps j o)++T.cur.ps.drop (j+1)).map (·.1):=by
   rw[df,t.cur.ls,cS,cS,<-Ef,<-Mk,c8];simp only[dP]
  have gm:=Po (List.take_sublist i T.cur.ps);have gv:=Po (List.drop_sublist (j+1) T.cur.ps);have hs:=PY (T:=T.at_ g) (ps':=T.cur.ps.take i++(mU T.enc T.cur.ps i ni++g.qs++lS T.enc T.cur.ps j o)++T.cur.ps.drop (j+1)) th (m:=hg.size) (λi hi=>(tg.lo i hi).2) ⟨by have:=D.size;have:=cd.1;have:=ce.1;have:=cf.1;have:=eg.size;omega,eh.size⟩ b4 ds
   (λq c=>by
    rcases dH.1 c with c|c
    .rcases dH.1 c with c|c
     .exact th.cur.Cx q (rU c)
     .exact(U q c).oY (aV.bD (F:=λ_=>False) (eg.trans eh)) λ_ _ x=>x
    .exact th.cur.Cx q (BD c))
   (by rw[tM,tM,bP,bP];omega) ok uk
  refine⟨_,hs,⟨rfl,rfl,rfl,rfl,λi hi=>⟨.inl (F.zm i hi),?_⟩,λi hi=>?_,λb hb=>?_⟩,F.all,?_⟩
  .have h1:=(t.lo i hi).2;have:=D.size;have:=cd.1;have:=ce.1;have:=cf.1;have:=eg.size;have:=eh.size;have:=uk.1;omega
  .rcases hi.1 with d|d
   .exact(F.zn i d).imp id λh=>by have:=D.size;omega
   .right;have:=D.size;have:=cd.1;have:=ce.1;have:=cf.1;have:=eg.size;omega
  .exact(F.adc b hb).imp id λh=>by have:=D.size;omega
  .show iG T.enc (T.cur.ps.take i++(mU T.enc T.cur.ps i ni++g.qs++lS T.enc T.cur.ps j o)++T.cur.ps.drop (j+1))=_
   have ey:iG T.enc g.qs=l.map λa=>(a, -1):=by
    rw[V5 λq c=>(F.Cx q c).2,F.ur,sX];rfl
   have dr:iG T.enc (mU T.enc T.cur.ps i ni)=(match T.cur.ps[i]? with|some q=>(zK T.enc q).take ni|none=>[]):=by
    unfold mU;cases c:T.cur.ps[i]? with
    |none=>rfl
    |some q=>
     dsimp only;by_cases d:0<ni
     .rw[if_pos d,IT,Xp (a9 q (eM c)) (V q c)]
     .rw[if_neg d,show ni=0 by omega];simp[iG]
   have b0:iG T.enc (lS T.enc T.cur.ps j o)=(match T.cur.ps[j]? with|some q=>(zK T.enc q).drop o|none=>[]):=by
    unfold lS;cases c:T.cur.ps[j]? with
    |none=>rfl
    |some q=>
     dsimp only;by_cases d:o<(bH T.enc q.2).length
     .rw[if_pos d,IT,Xq (a9 q (eM c)) (bp q c)]
     .rw[if_neg d,uL (by rw[Fv];omega)];simp[iG]
   rw[pJ,pJ,pJ,pJ,ey,dr,b0,eT,eD];simp only[dW]
   all_goals rfl
end
section
variable{P:Program}{S:cH}{h:aG}{Q:Nat->bG->aG->Prop}
variable{e:iM}
abbrev El:=Int×Int
def DW(E:List El)(e:iM):List El:=E.take e.1.toNat++e.2.2.1.2.map (λa=>(a, -1))++E.drop e.2.1.toNat
def iY(E:List El)(es:List iM):List El:=es.foldr (λe E=>DW E e) E
theorem qE(E:List El)(e:iM)(es:List iM):iY E (e::es)=DW (iY E es) e:=rfl
def lE(enc:Int)(E:List El):Nat:=((E.map (·.1)).flatMap (cZ enc)).length
theorem lU(enc:Int)(a b:List El):lE enc (a++b)=lE enc a+lE enc b:=by simp[lE]
theorem Ba{T:TX}{s:St}(r:Lv S h T s)(he:eL T.enc):lE T.enc (iG T.enc s.ps)=(dR s.ps).length:=by
 unfold lE;rw[<-(Gs he r.bytes).2.1]
theorem YC{enc:Int}{E:List El}(g:jV enc e.2.2.1.2)(h0:0<=e.1)(h1:e.1<=e.2.1):lE enc (DW E e)<=lE enc E+4*e.2.2.1.2.length:=by
 unfold DW;have c:=lU enc (E.take e.1.toNat) (E.drop e.1.toNat);rw[eY]at c;have d:=lU enc ((E.drop e.1.toNat).take (e.2.1.toNat-e.1.toNat)) ((E.drop e.1.toNat).drop (e.2.1.toNat-e.1.toNat));rw[eY,Eh,show e.1.toNat+(e.2.1.toNat-e.1.toNat)=e.2.1.toNat by omega]at d;have j:lE enc (e.2.2.1.2.map λa=>((a, -1):El))<=4*e.2.2.1.2.length:=by
  have:=(HJ g).2;unfold lE;rw[sX];have b:(List.map ((λx:El=>x.1)∘λa=>((a, -1):El)) e.2.2.1.2)=e.2.2.1.2:=by
   conv=>rhs;rw[<-List.map_id e.2.2.1.2]
   rfl
  rw[b];exact this
 rw[lU,lU];omega
theorem N5{es:List iM}{i:Nat}(hi:es[i]?=some e):(aW (es.drop i)).length=e.2.2.1.2.length+(aW (es.drop (i+1))).length:=by
 have b:=(cR.1 hi).1;have he:=(cR.1 hi).2;rw[gY b,he];simp[aW]
theorem Jm(es:List iM)(i:Nat):(aW (es.drop i)).length<=(aW es).length:=by
 have:aW es=aW (es.take i)++aW (es.drop i):=by unfold aW;rw[<-gX,eY]
 rw[this,bP];omega
structure eu(S:cH)(n:Nat)(T:TX)(h0 h:aG)(es:List iM)(r:Int)(T':TX):Prop where
 ref:Lu T.enc T.limit (cQ T.enc T.cur.ps) es r
 t:eP S n h T'
 nx:MC T T' h0.size
 iG:iG T.enc T'.cur.ps=if r=0 then iY (iG T.enc T.cur.ps) es else iG T.enc T.cur.ps
 len:T'.A.length<=T.A.length+4*(aW es).length
theorem YI(M:kB P S){n:Nat}{T:TX}{x:GP}(t:eP S n h T)(hn:n<=h.size)(Y:∀h',aV (rS T) h h'->(Sh.list jT).ok h' x)(hz:∀e,e∈x.2->e.2.2.1.2≠[]->∀a,e.2.2.1.1.aD=some a->¬T.Z a.block)
  (hA:T.A.length+4*(aW x.2).length<=400000000000) (b3:(dR T.cur.ps).length<=T.limit) :
  wp P (yK S (some T.p) x.1) h λtg vs h'=>tg=0/\aV (rS T) h h'/\∃r T',vs=[aH r]/\eu S n T h h' x.2 r T':=by
 unfold yK;have ho:=Y h (aV.refl _ _);have b8:=ho.len;have cr:=ho.2.1;have c6:=ho.2.2.1;refine aM (Y1 M t ho (by omega) b3) λ⟨(r:Int),_⟩ h1 e1 hr=>?_;have hr:Lu T.enc T.limit (cQ T.enc T.cur.ps) x.2 r:=hr;dsimp only;refine aE (λB=>?_) λB=>?_
 .rw[kH]at B
  exact aC ⟨rfl,aV.bD e1,r,T,rfl,hr,t.ext e1,MC.refl _ _,by rw[if_neg B],by omega⟩
 rw[lQ]at B;subst B;obtain⟨cg,ab,a6,_⟩:x.2.length<=70000/\uP (cQ T.enc T.cur.ps).length 0 x.2/\jV T.enc (aW x.2)/\True:=by
  cases hr with
  |ok a b c d=>exact⟨a,b,c,trivial⟩
 have hlen:(cQ T.enc T.cur.ps).length=(iG T.enc T.cur.ps).length:=(yU ..).symm;have c7:=Ba t.cur t.enc;have ct:=t.Bq;have al:bJ .i64 (aQ x.1.len) 1=(x.2.length:Int)-1:=by rw[aN,b8,bY (by omega) (by omega)]
 rw[al];refine dQ (G:=Nat×TX) (λg (s:Int×Unit) h'=>s.1=(g.1:Int)-1/\g.1<=x.2.length/\aV (rS T) h h'/\eP S n h' g.2/\MC T g.2 h.size/\iG T.enc g.2.cur.ps=iY (iG T.enc T.cur.ps) (x.2.drop g.1) /\
   dG 0 (x.2.take g.1)<=(iG T.enc g.2.cur.ps).length/\(dR g.2.cur.ps).length<=(dR T.cur.ps).length+4*(aW (x.2.drop g.1)).length/\g.2.A.length<=T.A.length+4*(aW (x.2.drop g.1)).length) (λg=>g.1)
  (λtg vs h'=>tg=2/\vs=[]/\aV (rS T) h h'/\∃T',eP S n h' T'/\MC T T' h.size/\iG T.enc T'.cur.ps=iY (iG T.enc T.cur.ps) x.2/\T'.A.length<=T.A.length+4*(aW x.2).length)
  (x.2.length,T) ⟨rfl,bM _,aV.bD e1,t.ext e1,MC.refl _ _,by rw[F5];rfl,?_,Ek _ _,Ek _ _⟩ ?_ ?_
 .rw[fF,<-hlen]
  have:∀(es:List iM) (a L:Int),a<=L->uP L a es->dG a es<=L:=by
   intro es
   induction es with
   |nil=>intro a L h _;exact h
   |cons e es ih=>intro a L h ⟨_,_,I,h4⟩;exact ih _ _ I h4
  exact this _ _ _ (by omega) ab
 .rintro⟨k,o⟩ ⟨(s:Int),u⟩ h2 ⟨hs,J,c2,t2,nx,V,a0,bs,O⟩
  dsimp only at hs J t2 nx V a0 bs O⊢;subst hs;refine aE (λB=>?_) λB=>?_
  .rw[dD]at B
   obtain⟨i,rfl⟩:∃i,k=i+1:=⟨k-1,by omega⟩;have hi:((i+1:Nat):Int)-1=(i:Int):=by omega
   rw[hi];obtain⟨e,j⟩:∃e,x.2[i]?=some e:=⟨x.2[i]'(by omega),cL (by omega)⟩;have aw:=eM j;have a4:=ab.at j;have cx:=Dd (ab.take i);have b4:x.2.take (i+1)=x.2.take i++[e]:=by rw[eN,j];rfl
   rw[b4,zQ]at a0;have bt:x.2.drop i=e::x.2.drop (i+1):=by
    have b1:=(cR.1 j).1;have he:=(cR.1 j).2;rw[gY b1,he]
   have df:=N5 j;have de:=Jm x.2 i;have W:jV T.enc e.2.2.1.2:=λa ha=>a6 a (by unfold aW;exact GB.2 ⟨e,aw,ha⟩);have C:iY (iG T.enc T.cur.ps) (x.2.drop i)=DW (iG T.enc o.cur.ps) e:=by rw[bt,qE,<-V]
   have a9:dG 0 (x.2.take i)<=(DW (iG T.enc o.cur.ps) e).length:=by
    unfold DW;rw[bP,bP,dJ];omega
   refine dB (λtg vs h'=>tg=0/\vs=[]/\aV (rS T) h h'/\∃z,eP S n h' z/\MC T z h.size/\iG T.enc z.cur.ps=iY (iG T.enc T.cur.ps) (x.2.drop i)/\(dR z.cur.ps).length<=(dR T.cur.ps).length+4*(aW (x.2.drop i)).length/\z.A.length<=T.A.length+4*(aW (x.2.drop i)).length) ?_ ?_
   .refine DZ (Y h2 c2) j λa I e3 _ o3=>?_
    have l0:∀{K:Int->aK} {Q:Nat->bG->aG->Prop} {h'},Ext I h'->wp P (K e.1) h' Q->wp P (.load (tI) (aB (some a) 0) K) h' Q:=λq J=>bC (b:=bI) _ e.1 rfl (aI.1 (o3.ext q).cells 0 _ rfl) J;have l1:∀{K:Int->aK} {Q:Nat->bG->aG->Prop} {h'},Ext I h'->wp P (K e.2.1) h' Q->wp P (.load (tI) (aB (some a) 1) K) h' Q:=λq J=>bC (b:=bI) _ e.2.1 rfl (aI.1 (o3.ext q).cells 1 _ rfl) J;have l2:∀{K:Sl->aK} {Q:Nat->bG->aG->Prop} {h'},Ext I h'->wp P (K e.2.2.1.1) h' Q->wp P (.load (tS) (aB (some a) 2) K) h' Q:=λq J=>bC (b:=.sl) _ e.2.2.1.1 rfl (aI.1 (o3.ext q).cells 2 _ rfl) J;have N:∀{h'},aV (rS T) h h'->kW .i64 h' e.2.2.1.1 e.2.2.1.2:=λc=>Sh.lO ((Y _ c).el j).2.2.1;have c8:=(N c2).len;have c3:=c2.ext e3;have E3:=Ext.refl I;refine bZ (e.1<e.2.1\/0<e.2.2.1.2.length) ?_ λbb h4 H hb=>aE (λD=>?_) λD=>?_
    .refine l0 E3 (l1 E3 (aE (λD=>aC ⟨rfl,Ext.refl _,true,rfl,?_⟩) λD=>l2 E3 (aC ⟨rfl,Ext.refl _,_,rfl,?_⟩)))
     .rw[aU]at D;exact Iff.intro (λ_=>.inl D) λ_=>rfl
     .rw[aY]at D;rw[dL,aN];omega
    .have c4:=c3.ext H
     have t4:=(t2.ext e3).ext H;have b2:o.p=T.p:=nx.p;have w:o.enc=T.enc:=nx.enc;refine l0 H (l1 H (l2 H ?_));rw[<-b2];refine eG (Xi M (T:=o) t4 (dI hn c4.1) (N c4) (by rw[w];exact W) (by omega) (λa3 b hb cd=>?_) (by omega) a4.2.1 (by rw[w];omega) (by omega)) λtg vs h5 b6=>?_
     .have h0:b.block<h.size:=by
       have b0:=N (aV.refl _ _);obtain⟨y,l',b9⟩:∃y l',e.2.2.1.2=y::l':=by
        cases hh:e.2.2.1.2 with
        |nil=>exact absurd hh a3
        |cons y l'=>exact⟨y,l',rfl⟩
       obtain⟨b',eb,cb⟩:=b0.rd.at (i:=0) (by rw[b9];simp);rw[hb]at eb;cases eb;have:=BY cb;rw[iS]at this;exact this
      rcases nx.zn _ cd with hy|hy
      .exact hz e aw a3 b hb hy
      .omega
     .obtain⟨rfl,rfl,c5,z,t5,a5,bo,U⟩:=b6
      refine⟨rfl,(),rfl,aC ⟨rfl,rfl,?_,z,t5,nx.trans a5 c4.1,?_,?_,?_⟩⟩
      .exact c4.trans c5 λi hi hw=>(nx.yw hw).elim id λh=>by omega
      .rw[C];rw[w]at U;exact U
      .have h6:=Ba t5.cur t5.enc
       have h7:=Ba t2.cur t2.enc;rw[a5.enc,w]at h6;rw[w]at h7 U;rw[<-h6,U];have h8:=YC (E:=iG T.enc o.cur.ps) W (by omega) a4.2.1;unfold DW at h8;rw[h7]at h8;omega
      .rw[bo,bP]
       have:=(HJ W).2;rw[w];omega
    .have c9:¬(e.1<e.2.1\/0<e.2.2.1.2.length):=λk=>by rw[hb.2 k]at D;cases D
     have ba:e.2.2.1.2=[]:=Aq (by omega);refine aC ⟨rfl,rfl,c3.ext H,o,(t2.ext e3).ext H,nx,?_,by omega,by omega⟩;rw[C];unfold DW;rw[ba,show e.2.1=e.1 by omega];simp
   .rintro tg vs I ⟨rfl,rfl,c3,z,t3,cf,ao,bp,bd⟩
    refine bE (bO ?_);rw[bY (by omega) (by omega)];exact aC ⟨λ_=>⟨(i,z),((i:Int)-1,()),rfl,⟨rfl,by dsimp only;omega,c3,t3,cf,ao,by dsimp only;rw[ao,C];exact a9,bp,bd⟩,by dsimp only;omega⟩,λh=>absurd rfl h⟩
  .rw[eR]at B
   have:k=0:=by omega
   subst this;exact aC ⟨λh=>absurd h (by decide),λ_=>⟨rfl,rfl,c2,o,t2,nx,V,O⟩⟩
 .rintro tg vs h2 ⟨rfl,rfl,c2,o,t2,nx,V,O⟩
  exact bE (bO (aC ⟨rfl,c2,0,o,rfl,hr,t2,nx,by rw[if_pos rfl];exact V,O⟩))
end
section
variable{P:Program}{S:cH}{h:aG}{Q:Nat->bG->aG->Prop}
variable{i:Int}
structure Clb(P:Program)(S:cH):Prop where
 it:∀(y:Value) (a b:OA),dw P (.func (.func S.jI) #[] #[.pointer a, .pointer b]) [y] (At S y a b)
 wk:∀(p:OA) (i:Int) (a b:OA),dw P (.func (.func S.mM) #[] #[.pointer a, .pointer b]) [.pointer p,iv i] (wZ S p i a b)
structure Cl0(P:Program)(S:cH):Prop extends Clb P S where
 atoms:∀(a t:Int) (p:OA),dw P (.func (.func S.wH) #[] #[.pointer p]) [iv a,iv t] (ES S a t p)
structure zx(P:Program)(S:cH):Prop extends Cl0 P S where
 tags:∀(a t:Int) (p:OA),dw P (.func (.func S.tO) #[] #[.pointer p]) [iv a,iv t] (Co S a t p)
structure Ym(P:Program)(S:cH):Prop extends Clb P S where
 tags:∀(a t:Int) (p:OA),dw P (.func (.func S.tO) #[] #[.pointer p]) [iv a,iv t] (Co S a t p)
instance:Coe (zx P S) (Cl0 P S):=⟨zx.toCl0⟩
instance:Coe (Cl0 P S) (Clb P S):=⟨Cl0.toClb⟩
instance:Coe (Ym P S) (Clb P S):=⟨Ym.toClb⟩
theorem Clb.yu(C:Clb P S)(Z:Nat->Prop):my P (part S Z):=⟨λy a b=>C.it y a b,λp i a b=>C.wk p i a b⟩
structure zz(h:aG)(root:OA)(i:Int)(a b:Addr):Prop where
 ca:Sw.cell h a=some (.pointer root)
 cb:Sw.cell h b=some (iv i)
theorem YM{p:OA}:aS P (qK S (p,()) i) [.one .any] h λ(y:Value×Unit) h'=>∃a b,y.1 = .func (.func S.jI) #[] #[.pointer (some a), .pointer (some b)]/\zz h' p i a b/\h.size<=a.block/\h.size<=b.block:=by
 unfold qK aS;refine jR p λc g o1=>λel=>?_;have d:Ext c (c.push (.cells [iv i].toArray el)):=Ext.push ..;have j:cA c.size 1 (c.push (.cells [iv i].toArray el)) ⟨some ⟨c.size,0,none⟩,1,1⟩ [iv i]:=bR rfl (by decide) (by decide);generalize(c.push (.cells [iv i].toArray el))=o at d j⊢;exact aC ⟨rfl,g.trans d,(_,()),rfl,_,_,rfl,⟨kK (o1.ext d),kK j⟩,bM _,g.size⟩
theorem Yl(C:Clb P S){n:Nat}{T:TX}{a b:Addr}{body:OA×Unit->aK}{K:Nat->aK}(t:eP S n h T)(hi:cX .i64 i)(it:zz h T.cur.root i a b)(J:Nat->aG->Prop)(F:Nat->aG->Prop)
  (y:∀k a b,J k a->aV (own h.size 4) a b->J k b) (sF:∀k a b,F k a->aV (own h.size 4) a b->F k b)
  (hr:∀k q d c,(T.cur.ps.drop i.toNat)[k]?=some q->J k d->h.size+4<=d.size->EL (h.size+4) d c q.1->wp P (body (some c,())) d λtag _ g=>iI (λi=>own h.size 4 i\/((T.Z i\/i=a.block\/i=b.block)/\i<h.size)) d g/\(tag=0->J (k+1) g)/\(tag≠0->F tag g))
  (j0:J 0 h)
  (Y:∀j o,h.size+2<=o.size->(j=0/\J (T.cur.ps.drop i.toNat).length o\/j≠0/\F j o)->wp P (K j) o λt vs D=>iI (own h.size 1) o D/\∀E,aV (own h.size 1) D E->E.size=D.size->Q t vs E) :
  wp P (.range (.func (.func S.jI) #[] #[.pointer (some a), .pointer (some b)]) [.agg PB] [tP] (λ(r:Part×Unit)=>
   .alloc (Bs.inj PB zP) λ(c:Addr)=>.store (some c) (Bs.inj PB r.1)<|.ret 0 [.pointer (some c)]) body K) h Q:=by
 let Z:Nat->Prop:=λi=>T.Z i\/i=a.block\/i=b.block
 have nd:Nd (part S Z) h T.cur.root T.cur.t:=yA t.cur.nd λ_ _ h=>.inl h;have U:=U3 (Ch S Z (P:=P)) (C.yu Z) nd (rV (t.cur.room t.Bq.2)) hi it.ca it.cb (.inr (.inl rfl)) (.inr (.inr rfl));refine du (A:=AL (part S Z) (T.cur.t.list.drop i.toNat)) (N:=(T.cur.t.list.drop i.toNat).length) (Z:=Z) (m:=2) (h0:=h) U (iI.refl _ _) J F y sF (λk hp d args ⟨r,_,e⟩=>⟨(r,()),e⟩) ?_ j0 ?_
 .rintro k hp d ⟨x,u⟩ ab j al c ao a0 ⟨r,M,L⟩
  have G:Bs.inj PB x=Bs.inj PB r:=by
   have d:=congrArg (λl=>l.head?) L;simp only[Ts.inj,List.head?_cons,gO]at d;have g:(Value.agg (Bs.inj PB x).toArray)=Value.agg (Bs.inj PB r).toArray:=d;injection g with g;exact List.toArray_inj g
  dsimp only;rw[G];have p:∃q,(T.cur.ps.drop i.toNat)[k]?=some q/\r=q.1:=by
   have d:(T.cur.t.list.drop i.toNat)[k]?=some r:=M;rw[t.cur.ls,<-Mk,gP]at d;cases p:(T.cur.ps.drop i.toNat)[k]? with
   |none=>rw[p]at d;cases d
   |some q=>rw[p]at d;exact⟨q,rfl,(dU d).symm⟩
  obtain⟨q,p,rfl⟩:=p;refine gN (bs:=PB) zP (by decide) λg H o2=>mX (bs:=PB) q.1 o2 (xD _) λW o3 V=>aC ⟨rfl,(some ⟨d.size,0,none⟩,()),rfl,?_,λI c3 aw=>?_⟩
  .exact iI.bD (jU.jQ H V (by intro z w;cases w;exact bM _))
  .have B:Ext d W:=jU.jQ H V (by intro z w;cases w;exact bM _)
   refine hr k q I _ p ?_ (by have:=B.size;omega) ((c3.own o3 λz w hw=>by cases w;have:=hw.2;dsimp only at this;omega).mono (by omega));exact y _ _ _ (y _ _ _ (y _ _ _ j c) (aV.bD B)) c3
 .intro j o O a3 G
  refine Y j o O ?_;have:(T.cur.t.list.drop i.toNat).length=(T.cur.ps.drop i.toNat).length:=by rw[t.cur.ls,cV,cV,cE]
  rw[<-this];exact G
theorem ar{n:Nat}{k:IntKind}{s x:Sl}{pre mid post l:bB}{i:Nat}{K:Nat->aK}(o:bU n k h s (pre++mid++post))(u:kW k h x l)(W:l.length=mid.length)(h0:0<l.length)(hi:i=pre.length)
  (N:∀h',bU n k h' s (pre++l++post)->jU s h h'->h'.size=h.size->wp P (K l.length) h' Q):wp P (.copy 1 ⟨bK s.aD s.cap i 1,cY s.len i,cY s.cap i⟩ x K) h Q:=by
 subst hi;have L:=u.len;have J:=o.len;simp only[bP]at J;obtain⟨o1,o2,O,p⟩:=o.own;cases hb:s.aD with
 |none=>rw[hb]at p;simp only at p;omega
 |some a=>
  rw[hb]at p;obtain⟨b,off,spot⟩:=a;obtain⟨e0,C,D,cs,elem,E,G,H⟩:=p;simp only at e0 C D E;subst e0;subst C;have t:bK (some (⟨b,0,none⟩:Addr)) s.cap pre.length 1=some ⟨b,pre.length,none⟩:=by
   unfold bK;rw[if_neg (by omega)];simp[pI]
  rw[t];have g:min x.len (cY s.len pre.length)=l.length:=by unfold cY;omega
  obtain⟨w,B,c1,c2,c3,A,V,M⟩:=mH (vs:=l.map (.int k)) (i:=0) (off:=pre.length) E (by intro y c;obtain⟨z,_,rfl⟩:=dA.1 c;rfl) (by rw[cE];simp at G;omega);refine⟨l.map (.int k),?_,?_⟩
  .rw[g]
   have:=u.rd.Hs;rw[L]at this;exact this
  .dsimp only
   rw[g];refine⟨w,N _ ⟨⟨by simp at o1⊢;omega,o2,O,?_⟩,?_⟩ ⟨by unfold nY;omega,λj d I=>M j λe=>(I _ hb) e.symm,λa e=>by unfold nY;rw[jH];exact e⟩ (by unfold nY;omega)⟩
   .rw[hb]
    refine⟨rfl,rfl,D,B,elem,c1,by rw[c2,G],λj v d=>?_⟩;rw[dP,dP]at d;by_cases r:j<pre.length
    .rw[dW,mL (by rw[cE];exact r)]at d
     rw[A j (by omega)];exact H j v (by rw[dP,dP,dW,mL (by rw[cE];exact r)];exact d)
    .by_cases U:j<pre.length+l.length
     .rw[mL (by simp;omega),jZ (by simp;omega),cE]at d
      have:=c3 (j-pre.length) v d;rw[show pre.length+0+(j-pre.length)=j by omega]at this;exact this
     .rw[jZ (by simp;omega)]at d
      rw[A j (by simp;omega)];refine H j v ?_;rw[dP,dP,jZ (by simp;omega)];simp only[bP,cE]at d⊢;rw[show j-(pre.length+mid.length)=j-(pre.length+l.length) by omega];exact d
   .intro y c
    rcases dH.1 c with c|c
    .rcases dH.1 c with c|c
     .exact o.wf y (oV _ (oV _ c))
     .exact u.wf y c
    .exact o.wf y (qI _ c)
end
section
variable{P:Program}{S:cH}{h:aG}{Q:Nat->bG->aG->Prop}
variable{a:Addr}
theorem bf{k:IntKind}{bytes n:Nat}{K:Sl->aK}(h1:n<2^63)(b:bytes*n<=2^48)(c:∀h' r,Ext h h'->bU h.size k h' r (List.replicate n 0)->wp P (K r) h' Q):wp P (.mk bytes [.int k 0] (n:Int) (n:Int) K) h Q:=by
 refine⟨⟨by omega,kR _,by omega,by exact_mod_cast b⟩,λelem=>c _ _ (Ext.push ..) ⟨⟨by simp,by simp,by dsimp only;omega,?_⟩,λx d=>by rw[(R8.1 d).2];exact qF k⟩⟩;refine⟨rfl,rfl,bM _,_,elem,Ee,?_,λi v hi=>?_⟩
 .rw[P6];simp
 .rw[P6]
  rw[List.map_replicate]at hi;rw[RU];simpa using hi
theorem Oc(v:Value){K:Addr->aK}(b:∀h',Ext h h'->cA h.size 1 h' ⟨some ⟨h.size,0,none⟩,1,1⟩ [v]->h'.size=h.size+1->wp P (K ⟨h.size,0,none⟩) h' Q):wp P (.alloc [v] K) h Q:=
 λel=>b _ (Ext.push ..) (bR rfl (by decide) (by decide)) (by simp)
abbrev Pk(n:Nat)(h:aG)(a:Addr)(v:Value):Prop:=cA n 1 h ⟨some a,1,1⟩ [v]
theorem Dm{n:Nat}{b:B}{x:b.den}{K:b.den->aK}(o:Pk n h a (b.inj x))(c:wp P (K x) h Q):wp P (.load (.one b) (some a) K) h Q:=bC a x rfl (kK o) c
theorem Jq{n:Nat}{v:Value}(w:Value){K:aK}(o:Pk n h a v)(hw:flat w=true)(b:∀h',Pk n h' a w->jU ⟨some a,1,1⟩ h h'->wp P K h' Q):wp P (.store (some a) [w] K) h Q:=
 fP [w] o rfl (by intro u hu;rw[dE.1 hu];exact hw) b
theorem T5(z w:Value){K:Addr->aK}(hw:flat w=true)(d:∀h',Ext h h'->Pk h.size h' ⟨h.size,0,none⟩ w->wp P (K ⟨h.size,0,none⟩) h' Q):wp P (.alloc [z] λa=>.store (some a) [w] (K a)) h Q:=
 Oc z λo b o1 _=>Jq w o1 hw λc o2 j=>d c (jU.jQ b j (by intro x g;cases g;exact bM _)) o2
theorem gZ.oY{n:Nat}{F:Nat->Prop}{a b c:aG}(k:gZ n a b)(d:aV F b c)(j:n<=b.size)(g:∀i,F i->n<=i):gZ n a c:=gZ.trans k (d.aP j λi hi x=>by have:=g i x;omega)
end
section
variable{P:Program}{S:cH}{h:aG}{Q:Nat->bG->aG->Prop}
variable{l:bB}{q:Part}
theorem S0(tag:Int):∀(ts:List (Int×Int)) (o w:Nat) (t:Int×Int),ts[w]?=some t->(iH tag o ts)[w]?=some (t.1,if tag<0 then -1 else tag+((o+dM (ts.take w):Nat):Int))
 |[],o,w,t,h=>by simp at h
 |x::ts,o,0,t,h=>by simp at h;subst h;simp[iH,dM]
 |x::ts,o,w+1,t,h=>by
  have:=S0 tag ts (o+x.2.toNat) w t (by simpa using h);simp only[iH,R5,JO,nA];rw[this,BC]
structure yb(P:Program)(see:Value)(f:El->Int)(cc:Addr):Prop where
 flat:flat see=true
 go:∀(h:aG) (m:Nat) (e:El) (s:Sl) (l:bB) (Q:Nat->bG->aG->Prop) (K:Unit->aK),m<=h.size->Pk m h cc (dN s)->bU m .i64 h s l->cX .i64 e.1->cX .i64 e.2->l.length<=1099511627776->(∀x,s.aD=some x->x.block≠cc.block) ->
  (∀h' s',Pk m h' cc (dN s')->bU m .i64 h' s' (l++[f e])->aV (λi=>i=cc.block\/∃x,s.aD=some x/\x.block=i) h h'->(∀x,s'.aD=some x->s.aD=some x\/h.size<=x.block)->wp P (K ()) h' Q)->wp P (.kC see [iv e.1,iv e.2] [] K) h Q
theorem T8{m:Nat}{cc:Addr}{s:Sl}{v:Int}{K:aK}(hm:m<=h.size)(oc:Pk m h cc (dN s))(ol:bU m .i64 h s l)(w:cX .i64 v)(E:l.length<=1099511627776)(d:∀x,s.aD=some x->x.block≠cc.block)
  (u:∀h' g,Pk m h' cc (dN g)->bU m .i64 h' g (l++[v])->aV (λi=>i=cc.block\/∃x,s.aD=some x/\x.block=i) h h'->(∀x,g.aD=some x->s.aD=some x\/h.size<=x.block)->wp P K h' Q) :
  wp P (.load (tS) (some cc) λ(A:Sl)=>.alloc [iv v] λ(a2:Addr)=>.append 1 8 [iv 0] A ⟨some a2,1,1⟩ λ(B:Sl)=>.store (some cc) [dN B] K) h Q:=by
 refine Dm (b:=.sl) (x:=s) oc (HP ol hm w (by omega) (by omega) λr p k1 o1 C j=>?_);have c1:aV (λi=>∃x,s.aD=some x/\x.block=i) h p:=aV.dK C λx c _=>⟨x,c,rfl⟩;have D:cc.block<h.size:=(oc.lt rfl).2;refine Jq (dN r) (c1.own oc λx c ⟨y,z,e⟩=>by cases c;exact d y z e) rfl λt o2 o=>u t r o2 (o1.Hg o λa b ha hb=>?_) ?_ j
 .cases hb
  rcases j a ha with c|c
  .exact(d a c).symm
  .omega
 .exact(c1.mono λi _ e=>.inr e).trans ((pP o).mono λi _ e=>.inl e) λi _ x=>x
theorem XX(C:Cl0 P S)(cc:Addr):yb P (.func (.func S.wH) #[] #[.pointer (some cc)]) (·.1) cc:=
 ⟨rfl,λh m e s l Q K hm oc ol j t p g o=>Ky (C.atoms _ _ _) (T8 hm oc ol j p g λh' r a b c d=>aC ⟨rfl,(),rfl,o h' r a b c d⟩)⟩
theorem XY(C:Ym P S)(cc:Addr):yb P (.func (.func S.tO) #[] #[.pointer (some cc)]) (·.2) cc:=
 ⟨rfl,λh m e s l Q K hm oc ol t j p g o=>Ky (C.tags _ _ _) (T8 hm oc ol j p g λh' r a b c d=>aC ⟨rfl,(),rfl,o h' r a b c d⟩)⟩
def OP(E:List El)(from_ to:Int):List El:=(E.take (min to E.length).toNat).drop (max from_ 0).toNat
structure WJ(S:cH)(P:Program)(n:Nat)(T:TX)(h0:aG)(hr m0:Nat)(a1 a2 a7 a8 cc:Addr)(see:Value)(f:El->Int)(R:List El)(m cnt v:Nat)(h:aG)(s:Sl):Prop where
 c:aV (λi=>i=cc.block) h0 h
 sz:hr<=h.size
 t:eP S n h T
 o1:Pk h0.size h a1 (.pointer (some T.p))
 o2:Pk h0.size h a2 see
 o7:Pk h0.size h a7 (aH ((m-v:Nat):Int))
 o8:Pk h0.size h a8 (aH ((cnt-(v-m):Nat):Int))
 oc:Pk m0 h cc (dN s)
 ol:bU m0 .i64 h s (((R.take v).drop m).map f)
 sb:∀x,s.aD=some x->hr+4<=x.block/\0<((R.take v).drop m).length
 lt:a1.block<hr/\a2.block<hr/\a7.block<hr/\a8.block<hr/\cc.block<h0.size/\h0.size<=hr
variable{n:Nat}{T:TX}{h0:aG}{hr m0:Nat}{a1 a2 a7 a8 cc:Addr}{see:Value}{f:El->Int}{R:List El}{m cnt v:Nat}{s:Sl}
theorem WJ.oY{h':aG}{F:Nat->Prop}(j:WJ S P n T h0 hr m0 a1 a2 a7 a8 cc see f R m cnt v h s)(c:aV F h h')(d:∀i,F i->hr<=i/\∀x,s.aD=some x->x.block≠i)(g:∀i,T.Z i->i<h0.size):WJ S P n T h0 hr m0 a1 a2 a7 a8 cc see f R m cnt v h' s:=by
 obtain⟨o,p,r,u,lc,w⟩:=j.lt;exact⟨j.c.trans (c.mono λi _ x=>x) λi hi x=>by have:=(d i x).1;omega,dI j.sz c.1,j.t.oY c λi hi x=>by have:=(d i x).1;have:=g i hi;omega,
  c.own j.o1 λx b y=>by cases b;have:=(d _ y).1;omega,c.own j.o2 λx b y=>by cases b;have:=(d _ y).1;omega,c.own j.o7 λx b y=>by cases b;have:=(d _ y).1;omega,c.own j.o8 λx b y=>by cases b;have:=(d _ y).1;omega,
  c.own j.oc λx b y=>by cases b;have:=(d _ y).1;omega,c.qH j.ol λx b y=>(d _ y).2 x b rfl,j.sb,j.lt⟩
theorem WJ.ext{h':aG}(j:WJ S P n T h0 hr m0 a1 a2 a7 a8 cc see f R m cnt v h s)(c:Ext h h')(b:∀i,T.Z i->i<h0.size):WJ S P n T h0 hr m0 a1 a2 a7 a8 cc see f R m cnt v h' s:=
 j.oY (F:=λ_=>False) (aV.bD c) (λi x=>x.elim) b
theorem tu{k:IntKind}{u:Nat}{c x:Addr}(o:bU m0 k h s l)(t:0<l.length)(d:s.aD=some x)(oc:EL u h c q):x.block≠c.block:=by
 intro e;obtain⟨_,_,_,g⟩:=id o.own;rw[d]at g;obtain⟨j,p,_⟩:=g;obtain⟨_,_,_,r⟩:=id oc;obtain⟨c0,c1,_⟩:=r;obtain⟨y,b,cy⟩:=o.lO.rd.at (i:=0) t;rw[d]at b;cases b;have cc:=aI.1 oc.cells 0 _ rfl;have:x=c:=by
  obtain⟨w,z,xs⟩:=x;obtain⟨cb,co,cs⟩:=c;dsimp only at e j p c0 c1;subst e;subst j;subst p;subst c0;subst c1;rfl
 rw[this]at cy;rw[cc]at cy;cases cy
theorem Ya{E:El}(b:R[v]?=some E)(hm:m<=v):(R.take (v+1)).drop m=(R.take v).drop m++[E]:=by
 rw[eN,b];rw[R4 (by rw[dJ];have:=(cR.1 b).1;omega)];rfl
theorem X9(hm:v<m):(R.take (v+1)).drop m=[]/\(R.take v).drop m=[]:=by
 constructor<;>exact uL (by rw[dJ];omega)
theorem qd(hs:yb P see f cc){c:Addr}{E:El}{tag at_:Int}{nr:Nat}{W:Nat->Prop}(j:WJ S P n T h0 hr m0 a1 a2 a7 a8 cc see f R m cnt v h s)(b3:m0<=h0.size)(hz:∀i,T.Z i->i<h0.size)(a6:¬T.Z cc.block)(hd:a1.block≠a7.block/\a1.block≠a8.block/\a2.block≠a7.block/\a2.block≠a8.block/\a7.block≠a8.block)
  (D:h0.size<=a1.block/\h0.size<=a2.block/\h0.size<=a7.block/\h0.size<=a8.block) (hv:R[v]?=some E) (b2:v-m<cnt) (bo:m<=1099511627776/\cnt<=1099511627776/\v<=1099511627776) (oc:EL (hr+4) h c q) (ab:q.2.1=tag) (H:E.2=if tag<0 then -1 else tag+at_) (z:cX .i64 E.1/\cX .i64 E.2 /\ -9223372036854775808<=tag+at_/\tag+at_<=9223372036854775807)
  (I:∀i,W i->i≠a7.block/\i≠a8.block/\i≠cc.block/\i<hr+4) :
  wp P (.bind
     (.load (tI) (some a7) λ(ao:Int)=>
     aR (sP ao 0)
      (.load (tI) (some a7) λ(aw:Int)=>
      .store (some a7) [aH (bJ .i64 aw 1)]<|
      .ret 0 [])<|
     .bind
      (bF (aJ (some c))<|
      .load (tI) (aB (some c) 1) λ(a0:Int)=>
      aR (fH a0 0)
       (.load (.one .any) (some a2) λ(V:Value)=>
       .kC V [aH E.1,aH (-1)] [] λ(bp:Unit)=>
       .ret 0 [])<|
      .load (.one .any) (some a2) λ(Y:Value)=>
      bF (aJ (some c))<|
      .load (tI) (aB (some c) 1) λ(a3:Int)=>
      .kC Y [aH E.1,aH (aT .i64 a3 at_)] [] λ(bs:Unit)=>
      .ret 0 []) λ(al:Nat)=>
     λ(J:bG)=>
     aR (jL al 0)
      (.cast [] J λ(bt:Unit)=>
      .load (tI) (some a8) λ(a4:Int)=>
      .store (some a8) [aH (bJ .i64 a4 1)]<|
      .load (tI) (some a8) λ(a5:Int)=>
      aR (gM a5 0)
       (.ret 1 [])<|
      .ret 0 [])<|
     .fail) λk vs=>.ret k vs) h λtg vs h'=>vs=[]/\iI W h h'/\EL (hr+4) h' c q/\∃p,WJ S P n T h0 hr m0 a1 a2 a7 a8 cc see f R m cnt (v+1) h' p/\((tg=0/\v+1-m<cnt)\/(tg=1/\v+1=m+cnt)):=by
 obtain⟨l1,l2,l7,l8,lc,lh⟩:=j.lt;obtain⟨d17,d18,d27,d28,d78⟩:=hd;have b0:hr+4<=c.block:=(oc.lt rfl).1;refine dB (λtg vs h'=>vs=[]/\iI W h h'/\EL (hr+4) h' c q/\∃p,WJ S P n T h0 hr m0 a1 a2 a7 a8 cc see f R m cnt (v+1) h' p/\((tg=0/\v+1-m<cnt)\/(tg=1/\v+1=m+cnt))) ?_ λt vs h' d=>aC d;refine Dm (b:=bI) (x:=((m-v:Nat):Int)) j.o7 (aE (λA=>?_) λA=>?_)
 .rw[dL]at A
  obtain⟨k1,k2⟩:=X9 (R:=R) (show v<m by omega);refine Dm (b:=bI) (x:=((m-v:Nat):Int)) j.o7 ?_;rw[bY (by omega) (by omega)];refine Jq (aH (((m-v:Nat):Int)-1)) j.o7 rfl λG o1 u1=>aC ⟨rfl,?_,?_,s,?_, .inl ⟨rfl,by omega⟩⟩
  .exact iI.NT (pP u1) λi hi hw e=>(I i hw).1 e
  .exact qT oc u1 λx d=>by cases d;omega
  .have g:aV (λi=>i=a7.block) h G:=pP u1
   refine⟨j.c.trans g λi hi e=>by have e:i=a7.block:=e;omega,dI j.sz g.1,j.t.oY g λi hi e=>by have:=hz i hi;have e:i=a7.block:=e;omega,g.own j.o1 λx d e=>by cases d;exact d17 e,g.own j.o2 λx d e=>by cases d;exact d27 e,?_,?_,g.own j.oc λx d e=>by cases d;have e:cc.block=a7.block:=e;omega,?_,λx d=>?_,j.lt⟩
   .rw[show((m-(v+1):Nat):Int)=((m-v:Nat):Int)-1 by omega];exact o1
   .rw[show cnt-(v+1-m)=cnt-(v-m) by omega];exact g.own j.o8 λx d e=>by cases d;exact d78 e.symm
   .rw[k1,<-k2];exact g.qH j.ol λx d e=>by have:=(j.sb x d).1;have e:x.block=a7.block:=e;omega
   .have:=j.sb x d;rw[k2]at this;exact absurd this.2 (by simp)
 .rw[gD]at A
  have a9:m<=v:=by omega
  have L:=Ya hv a9;have ba:((R.take v).drop m).length=v-m:=by rw[cV,dJ];have:=(cR.1 hv).1;omega
  have c1:Sw.cell h (c.add 1)=some (aH tag):=by rw[<-ab];exact aI.1 oc.cells 1 _ rfl
  have bb:∀x,s.aD=some x->x.block≠c.block:=λx d=>tu j.ol (by rw[cE];exact(j.sb x d).2) d oc;have tell:∀{K:Unit->aK} {Q:Nat->bG->aG->Prop},(∀h' p,iI W h h'->EL (hr+4) h' c q->h.size<=h'.size->WJ S P n T h0 hr m0 a1 a2 a7 a8 cc see f R m (cnt+0) v h s->(aV (λi=>i=cc.block\/∃x,s.aD=some x/\x.block=i) h h')->Pk m0 h' cc (dN p)->bU m0 .i64 h' p (((R.take (v+1)).drop m).map f)->(∀x,p.aD=some x->s.aD=some x\/h.size<=x.block)->wp P (K ()) h' Q)->wp P (.kC see [iv E.1,iv E.2] [] K) h Q:=λhk=>
   hs.go h m0 E s _ _ _ (by have:=j.c.1;omega) j.oc j.ol z.1 z.2.1 (by rw[cE,ba];omega) (λx d=>by have:=(j.sb x d).1;omega) λh' p o1 o2 g B=>
    hk h' p (iI.NT g λi hi hw e=>by
     rcases e with e|⟨x,d,e⟩
     .exact(I i hw).2.2.1 e
     .have:=(j.sb x d).1;have:=(I i hw).2.2.2;omega) (g.own oc λx d e=>by
     cases d;rcases e with e|⟨y,u,e⟩
     .omega
     .exact bb y u e) g.1 j g o1 (by rw[L,dP];exact o2) B
  refine dB (λtg vs h'=>tg=0/\vs=[]/\iI W h h'/\EL (hr+4) h' c q/\∃p,aV (λi=>i=cc.block\/∃x,s.aD=some x/\x.block=i) h h'/\Pk m0 h' cc (dN p)/\bU m0 .i64 h' p (((R.take (v+1)).drop m).map f)/\∀x,p.aD=some x->s.aD=some x\/h.size<=x.block) ?_ ?_
  .refine aL rfl (bC (b:=bI) (c.add 1) tag rfl c1 (aE (λA=>?_) λA=>?_))
   .rw[aU]at A
    rw[if_pos A]at H;rw[<-H];exact Dm (b:=.any) (x:=see) j.o2 (tell λh' p w o sz _ g o1 o2 B=>aC ⟨rfl,rfl,w,o,p,g,o1,o2,B⟩)
   .rw[aY]at A
    rw[if_neg (by omega)]at H;refine Dm (b:=.any) (x:=see) j.o2 (aL rfl (bC (b:=bI) (c.add 1) tag rfl c1 ?_));rw[aX z.2.2.1 z.2.2.2,<-H];exact tell λh' p w o sz _ g o1 o2 B=>aC ⟨rfl,rfl,w,o,p,g,o1,o2,B⟩
  .rintro tg vs G ⟨rfl,rfl,w1,bd,p,g,o1,o2,B⟩
   have M:Pk h0.size G a8 (aH ((cnt-(v-m):Nat):Int)):=g.own j.o8 λx d e=>by
    cases d;rcases e with e|⟨y,u,e⟩
    .omega
    .have:=(j.sb y u).1;omega
   refine bE (bO (Dm (b:=bI) (x:=((cnt-(v-m):Nat):Int)) M ?_));rw[bY (by omega) (by omega)];refine Jq (aH (((cnt-(v-m):Nat):Int)-1)) M rfl λC N u2=>?_;have e8:((cnt-(v-m):Nat):Int)-1=((cnt-(v+1-m):Nat):Int):=by omega
   have r:aV (λi=>i=a8.block) G C:=pP u2;have old:∀{a:Addr} {x:Value},Pk h0.size h a x->a.block<hr->h0.size<=a.block->a.block≠a8.block->Pk h0.size C a x:=λo q1 q2 q3=>r.own (g.own o λx d e=>by
    cases d;rcases e with e|⟨y,u,e⟩
    .omega
    .have:=(j.sb y u).1;omega) λx d e=>by cases d;exact q3 e
   have U:∀x,p.aD=some x->hr+4<=x.block:=λx d=>by
    rcases B x d with u|u
    .exact(j.sb x u).1
    .have:c.block<h.size:=(oc.lt rfl).2;omega
   have J2:WJ S P n T h0 hr m0 a1 a2 a7 a8 cc see f R m cnt (v+1) C p:=by
    refine⟨?_,?_,?_,old j.o1 l1 D.1 d18,old j.o2 l2 D.2.1 d28,?_,by rw[<-e8];exact N,r.own o1 λx d e=>by cases d;have e:cc.block=a8.block:=e;omega,r.qH o2 λx d e=>by have:=U x d;have e:x.block=a8.block:=e;omega,λx d=>⟨U x d,by rw[L,bP];simp⟩,j.lt⟩
    .refine(j.c.trans g λi hi e=>?_).trans r λi hi e=>by have e:i=a8.block:=e;omega
     rcases e with e|⟨y,u,e⟩
     .exact e
     .have:=(j.sb y u).1;omega
    .have:=g.1;have:=r.1;have:=j.sz;omega
    .refine eP.oY (eP.oY j.t g λi hi e=>?_) r λi hi e=>by have:=hz i hi;have e:i=a8.block:=e;omega
     rcases e with e|⟨y,u,e⟩
     .exact a6 (e ▸ hi)
     .have:=(j.sb y u).1;have:=hz i hi;omega
    .have:=old j.o7 l7 D.2.2.1 d78
     rw[show m-(v+1)=m-v by omega];exact this
   have w2:iI W h C:=w1.trans (iI.NT r λi hi hw e=>(I i hw).2.1 e);have O:EL (hr+4) C c q:=r.own bd λx d e=>by cases d;have e:c.block=a8.block:=e;omega
   refine Dm (b:=bI) (x:=(((cnt-(v-m):Nat):Int)-1)) N (aE (λd=>?_) λd=>?_)
   .rw[cK]at d
    exact aC ⟨rfl,w2,O,p,J2, .inr ⟨rfl,by omega⟩⟩
   .rw[dS]at d
    exact aC ⟨rfl,w2,O,p,J2, .inl ⟨rfl,by omega⟩⟩
end
section
variable{P:Program}{S:cH}{h:aG}{Q:Nat->bG->aG->Prop}
variable{from_ to:Int}
theorem ir(a b:Int):Df a b=max a b:=by unfold Df;split<;>omega
theorem Zd{enc:Int}{q:Pc}{w:Nat}{t:Int×Int}(hw:(bH enc q.2)[w]?=some t):(zK enc q)[w]?=some (t.1,if q.1.2.1<0 then -1 else q.1.2.1+(dM ((bH enc q.2).take w):Int)):=by
 have:=S0 q.1.2.1 (bH enc q.2) 0 w t hw;unfold zK;rw[this,JK]
theorem V0(M:kB P S)(C:Clb P S){n m0:Nat}{T:TX}{see:Value}{f:El->Int}{cc:Addr}(t:eP S n h T)(hs:yb P see f cc)(oc:Pk m0 h cc (dN ⟨none,0,0⟩))(dr:m0<=h.size)(b1:¬T.Z cc.block)(ec:cX .i64 to) :
  wp P (zE S (some T.p) from_ to see) h λtg vs h'=>tg=0/\vs=[]/\aV (λi=>i=cc.block) h h'/\∃s,Pk m0 h' cc (dN s)/\bU m0 .i64 h' s ((OP (iG T.enc T.cur.ps) from_ to).map f):=by
 unfold zE;rw[eS]at ec;have hf:=t.cur.Yo t.Bq.2;have fv:(iG T.enc T.cur.ps).length=(cQ T.enc T.cur.ps).length:=yU ..;have lo:=t.lo;have c7:cc.block<h.size:=(oc.lt rfl).2;refine Oc _ λD e1 o1 z1=>aL hs.flat (Oc _ λh2 e2 o2 z2=>?_);have bo:=e1.trans e2;refine Dm (b:=.ptr) (x:=some T.p) (o1.ext e2) (aM (VT (t.ext bo)) λ⟨(L:Int),_⟩ h3 e3 hL=>?_);have hL:L=(iG T.enc T.cur.ps).length:=hL;subst hL;dsimp only;rw[ir,lB];have z:=bo.trans e3;have a4:OP (iG T.enc T.cur.ps) from_ to=((iG T.enc T.cur.ps).take (min to (iG T.enc T.cur.ps).length).toNat).drop (max from_ 0).toNat:=rfl;refine aE (λhc=>?_) λhc=>?_
 .rw[dD]at hc
  refine aC ⟨rfl,rfl,aV.bD z,⟨none,0,0⟩,oc.ext z,?_⟩;have:OP (iG T.enc T.cur.ps) from_ to=[]:=by rw[a4];exact uL (by rw[dJ];omega)
  rw[this];exact bU.nil _ _ _
 rw[eR]at hc;generalize gg:max from_ 0=fr at *;generalize g4:min to ((iG T.enc T.cur.ps).length:Int)=tt at *;have cf:0<=fr:=by omega
 have fl:tt<=(iG T.enc T.cur.ps).length:=by omega
 have t3:=t.ext z;refine Dm (b:=.ptr) (x:=some T.p) (o1.ext (e2.trans e3)) (aM (Qi t3 cf (by omega)) λ⟨(i':Int),(m':Int),_⟩ K e4 ⟨i,m,hi,hm,fi⟩=>?_);have hi:i'=i:=hi;have hm:m'=m:=hm;subst hi;subst hm;dsimp only;have gm:=fi.1;have de:=fi.2.1;have fj:=Ri t.cur.Cx;have g0:=t.cur.small;refine T5 _ (aH (m:Int)) rfl λI e5 o5=>T5 _ (aH (bJ .i64 tt fr)) rfl λh6 e6 o6=>?_;rw[bY (by omega) (by omega)]at o6;have a0:=(e4.trans e5).trans e6;have bp:=z.trans a0;refine Dm (b:=.ptr) (x:=some T.p) (o1.ext ((e2.trans e3).trans a0)) (uK (t.ext bp) (aM YM λ⟨y,_⟩ d e7 hy=>?_));obtain⟨a,b,hy,ej,ha,hb⟩:=hy;have hy:y=_:=hy;subst hy;dsimp only;have ao:=bp.trans e7;have t7:=t.ext ao;generalize hR:iG T.enc (T.cur.ps.drop i)=R;have O:iG T.enc T.cur.ps=iG T.enc (T.cur.ps.take i)++R:=by rw[<-hR,<-pJ,eY]
 have fy:R.length+(iG T.enc (T.cur.ps.take i)).length=(iG T.enc T.cur.ps).length:=by rw[O,bP];omega
 rw[<-yU]at de;have df:fr.toNat=(iG T.enc (T.cur.ps.take i)).length+m:=by omega
 generalize e9:(tt-fr).toNat=cnt;have cr:(R.take (m+cnt)).drop m=OP (iG T.enc T.cur.ps) from_ to:=by
  rw[a4];have D:tt.toNat=fr.toNat+cnt:=by omega
  have hd:∀A:List El,(A++R).drop (A.length+m)=R.drop m:=λA=>by rw[<-Eh,Mr rfl]
  rw[Mm,Mm,D,BE,BE,df,O,hd]
 have g6:=e1.size;have g7:=e3.size;have g8:=e5.size;have g1:D.size<h2.size+0:=by omega
 have p2:D.size<h2.size:=by omega
 have p5:K.size<I.size:=(o5.lt rfl).2;have p6:I.size<h6.size:=(o6.lt rfl).2;have s4:=e4.size;have s7:=e7.size
 let A1:Addr:=⟨h.size,0,none⟩
 let A2:Addr:=⟨D.size,0,none⟩
 let Y:Addr:=⟨K.size,0,none⟩
 let A8:Addr:=⟨I.size,0,none⟩
 let V:Nat->Nat:=λk=>(iG T.enc ((T.cur.ps.drop i).take k)).length
 let J:Nat->aG->Prop:=λk h'=>∃s,WJ S P n T h d.size m0 A1 A2 Y A8 cc see f R m cnt (V k) h' s/\V k-m<cnt
 let F:Nat->aG->Prop:=λtg h'=>tg=1/\∃s,WJ S P n T h d.size m0 A1 A2 Y A8 cc see f R m cnt (m+cnt) h' s
 have hz:∀i,T.Z i->i<h.size:=λi hi=>(lo i hi).2;have al:∀{v s a b},WJ S P n T h d.size m0 A1 A2 Y A8 cc see f R m cnt v a s->aV (own d.size 4) a b->WJ S P n T h d.size m0 A1 A2 Y A8 cc see f R m cnt v b s:=λj c=>
  j.oY c (λi o=>⟨o.1,λx g e=>by have:=(j.sb x g).1;have:=o.2;omega⟩) hz
 have J0:J 0 d:=by
  refine⟨⟨none,0,0⟩,⟨aV.bD ao,bM _,t7,(o1.ext (((e2.trans e3).trans a0).trans e7)),(o2.ext ((e3.trans a0).trans e7)).mono e1.size,?_,?_,oc.ext ao,?_,λx g=>(by cases g),?_⟩,?_⟩
  .have:V 0=0:=rfl
   rw[this,Mi];exact(o5.ext (e6.trans e7)).mono (by have:=z.size;omega)
  .have D:V 0=0:=rfl
   rw[D,Nat.zero_sub,Mi];have h2:((cnt:Nat):Int)=tt-fr:=by omega
   rw[h2];exact(o6.ext e7).mono (by have:=z.size;omega)
  .have:V 0=0:=rfl
   rw[this];simp;exact bU.nil _ _ _
  .refine⟨?_,?_,?_,?_,c7,ao.size⟩
   .show h.size<d.size;omega
   .show D.size<d.size;omega
   .show K.size<d.size;omega
   .show I.size<d.size;omega
  .have:V 0=0:=rfl
   omega
 have b0:m<=1099511627776/\cnt<=1099511627776:=by omega
 refine Yl C t7 (i:=(i:Int)) (eS.2 (by omega)) ej J F (λk a b ⟨s,j,l⟩ c=>⟨s,al j c,l⟩) (λk a b ⟨D,s,j⟩ c=>⟨D,s,al j c⟩) ?_ J0 ?_
 .rintro k q h8 c hq ⟨s,j,a5⟩ dx er
  rw[cS]at hq;have b4:=BD (eM hq);have a9:=t.cur.Cx q b4;have N:=a9.bytes;have ey:=oN (enc:=T.enc) N;have c5:V (k+1)=V k+(bH T.enc q.2).length:=by
   show(iG T.enc ((T.cur.ps.drop i).take (k+1))).length=(iG T.enc ((T.cur.ps.drop i).take k)).length+_;rw[eN,hq,pJ,bP]
   congr 1
   show(iG T.enc [q]).length=_;rw[IT,Fv]
  have bs:R=iG T.enc ((T.cur.ps.drop i).take k)++zK T.enc q++iG T.enc ((T.cur.ps.drop i).drop (k+1)):=by rw[<-hR];exact Px hq
  have c4:∀w E,(zK T.enc q)[w]?=some E->R[V k+w]?=some E:=λw E hE=>by
   have eh:=(cR.1 hE).1;rw[bs,dW,jZ (by show(iG T.enc ((T.cur.ps.drop i).take k)).length<=V k+w;exact Ek _ _)];have:V k+w-(iG T.enc ((T.cur.ps.drop i).take k)).length=w:=by show(iG T.enc ((T.cur.ps.drop i).take k)).length+w-_=w;omega
   rw[this,mL eh];exact hE
  have gf:V k+(bH T.enc q.2).length<=R.length:=by
   rw[bs,bP,bP,Fv];show(iG T.enc ((T.cur.ps.drop i).take k)).length+_<=(iG T.enc ((T.cur.ps.drop i).take k)).length+_+_;omega
  let W:Nat->Prop:=λi=>own d.size 4 i\/((T.Z i\/i=a.block\/i=b.block)/\i<d.size)
  have hW:∀i,W i->i≠Y.block/\i≠A8.block/\i≠cc.block/\i<d.size+4:=λi hw=>by
   show i≠K.size/\i≠I.size/\i≠cc.block/\i<d.size+4;rcases hw with o|⟨a6|a6|a6,a5⟩
   .have:=o.1;have:=o.2;omega
   .have:=hz i a6;have:i≠cc.block:=λe=>b1 (e ▸ a6);omega
   .omega
   .omega
  refine dQ (G:=Nat) (λw (r:Int×Unit) h'=>w<=(bH T.enc q.2).length/\r.1=dM ((bH T.enc q.2).take w)/\iI W h8 h'/\EL (d.size+4) h' c q.1/\∃s,WJ S P n T h d.size m0 A1 A2 Y A8 cc see f R m cnt (V k+w) h' s/\V k+w-m<cnt) (λw=>(bH T.enc q.2).length-w)
   (λtg vs h'=>vs=[]/\iI W h8 h'/\((tg=4/\J (k+1) h')\/(tg=1/\F 1 h'))) 0 ⟨cN _,rfl,iI.refl _ _,er,s,j,a5⟩ ?_ ?_
  .rintro w ⟨(at_:Int),u⟩ h9 ⟨hw,bt,H9,b9,s9,H,bb⟩
   dsimp only at bt⊢;subst bt;obtain⟨c6,b6⟩:=pO (enc:=T.enc) N w hw;have hle:=c6.le N;have e8:=H.t.cur.Cx q b4;have b2:Sw.cell h9 (c.add 0)=some (dN q.1.1):=aI.1 b9.cells 0 _ rfl;have b3:=a9.lO.len;have hlen:=a9.len;refine aL rfl (bC (b:=.sl) (c.add 0) q.1.1 rfl b2 (aE (λhc=>?_) λhc=>?_))
   .rw[aU,aN,b3]at hc
    have gw:dM ((bH T.enc q.2).take w)<q.2.length:=by omega
    have U:=jY (enc:=T.enc) (N.drop (dM ((bH T.enc q.2).take w))) (by rw[cV];omega);rw[b6]at U;have B:w<(bH T.enc q.2).length:=by
     by_cases g:w<(bH T.enc q.2).length
     .exact g
     .rw[uL (by omega)]at U;cases U
    rw[gY B,JQ]at U;have ba:=Zd (enc:=T.enc) (q:=q) (cL B);have g2:=ey _ (CK B);have c8:=P2 (enc:=T.enc) N _ (CK B);have cg:dM ((bH T.enc q.2).take (w+1))=dM ((bH T.enc q.2).take w)+(bH T.enc q.2)[w].2.toNat:=by
     rw[eN,cL B,jO];simp[dM]
    refine Dm (b:=.ptr) (x:=some T.p) H.o1 (au H.t (aL rfl (bC (b:=.sl) (c.add 0) q.1.1 rfl b2 (aM (Qh M e8.lO) λ⟨(x:Int),(sz:Int),_⟩ fm aw g=>?_))));have g:(x,sz)=eJ T.enc (q.2.drop (dM ((bH T.enc q.2).take w))):=by
     rcases g with⟨ds,_,_⟩|⟨_,_,_,g⟩
     .rcases ds with h|h|h
      .exact absurd t.enc h
      .omega
      .omega
     .rw[cS]at g;exact g
    rw[<-U.1]at g;have ei:x=(bH T.enc q.2)[w].1:=congrArg Prod.fst g;have g5:sz=(bH T.enc q.2)[w].2:=congrArg Prod.snd g;dsimp only;generalize a3:((bH T.enc q.2)[w].1,if q.1.2.1<0 then (-1:Int) else q.1.2.1+(dM ((bH T.enc q.2).take w):Int))=E at ba;have cx:x=E.1:=by rw[ei,<-a3]
    have g3:=a9.tag;rw[cx];refine dB _ (qd (nr:=0) (W:=W) (tag:=q.1.2.1) (at_:=(dM ((bH T.enc q.2).take w):Nat)) (c:=c) (E:=E) hs (H.ext aw hz) dr hz b1 ⟨by show h.size≠K.size;have:=z.size;omega,by show h.size≠I.size;have:=z.size;omega,by show D.size≠K.size;omega,by show D.size≠I.size;omega,by show K.size≠I.size;omega⟩
     ⟨bM _,e1.size,by show h.size<=K.size;have:=z.size;omega,by show h.size<=I.size;have:=z.size;omega⟩ (c4 w E ba) bb ⟨b0.1,b0.2,by omega⟩ (b9.ext aw) rfl (by rw[<-a3]) ⟨by rw[<-a3];exact c8,by rw[<-a3,eS];dsimp only;split<;>omega,by omega,by omega⟩ hW) ?_
    rintro tg vs ft ⟨rfl,bd,ct,cd,b8,⟨rfl,ab⟩|⟨rfl,ab⟩⟩
    .have HH:=(H9.trans (iI.bD aw)).trans bd
     refine nP (by decide) (bE (bO ?_));rw[aX (by omega) (by omega)];refine aC ⟨λ_=>⟨w+1,(_,()),rfl,⟨B,?_,HH,ct,cd,b8,ab⟩,by omega⟩,λh=>absurd rfl h⟩;show _=((dM ((bH T.enc q.2).take (w+1)):Nat):Int);rw[cg];omega
    .have HH:=(H9.trans (iI.bD aw)).trans bd
     refine bE (bO (aC ⟨λh=>absurd h (by decide),λ_=>⟨rfl,HH, .inr ⟨rfl,rfl,cd,?_⟩⟩⟩));rw[<-ab];exact b8
   .rw[aY,aN,b3]at hc
    have eg:w=(bH T.enc q.2).length:=by
     have:(bH T.enc q.2).drop w=[]:=by rw[<-b6];exact mJ (by rw[cV];omega)
     rw[R7]at this;omega
    subst eg;refine aC ⟨λh=>absurd h (by decide),λ_=>⟨rfl,H9, .inl ⟨rfl,s9,?_⟩⟩⟩;show WJ S P n T h d.size m0 A1 A2 Y A8 cc see f R m cnt (V (k+1)) h9 s9/\V (k+1)-m<cnt;rw[c5];exact⟨H,bb⟩
  .rintro tg vs h9 ⟨rfl,H9,⟨rfl,H⟩|⟨rfl,f9⟩⟩
   .exact bE (bO (aC ⟨H9,λ_=>H,λh=>absurd rfl h⟩))
   .exact nP (by decide) (bE (bO (aC ⟨H9,λh=>absurd h (by decide),λ_=>f9⟩)))
 .intro k h8 dx g
  rcases g with⟨rfl,s,j,a5⟩|⟨gv,rfl,s,j⟩
  .exfalso
   have hV:V (T.cur.ps.drop i).length=R.length:=by
    show(iG T.enc ((T.cur.ps.drop i).take (T.cur.ps.drop i).length)).length=_;rw[fF,hR]
   rw[cS,hV]at a5;omega
  .refine bE (aC ⟨iI.refl _ _,λh9 c9 _=>?_⟩)
   have H:=al j (c9.mono λi _ o=>⟨o.1,by have:=o.2;omega⟩);refine⟨rfl,rfl,H.c,s,H.oc,?_⟩;have:=H.ol;rw[cr]at this;exact this
theorem fu(M:kB P S)(C:Cl0 P S){n:Nat}{T:TX}(t:eP S n h T)(d:cX .i64 to):aS P (AA S (some T.p) from_ to) [tS] h λ(y:Sl×Unit) h'=>bU h.size .i64 h' y.1 ((OP (iG T.enc T.cur.ps) from_ to).map (·.1)):=by
 unfold AA aS;refine Oc _ λo c o1 u=>eG (V0 M C (t.ext c) (XX C _) o1 c.size (λj=>by have:h.size<h.size:=(t.lo _ j).2;omega) d) λtg vs r g=>?_;obtain⟨rfl,rfl,c2,s,o2,ol⟩:=g;refine⟨rfl,(),rfl,Dm (b:=.sl) (x:=s) o2 (aC ⟨rfl,?_,(s,()),rfl,ol⟩)⟩;exact gZ.oY (c.aP (bM _)) c2 c.size λi e=>Nat.le_of_eq e.symm
theorem gb(M:kB P S)(C:Ym P S){n:Nat}{T:TX}(t:eP S n h T)(d:cX .i64 to):aS P (BM S (some T.p) from_ to) [tS] h λ(y:Sl×Unit) h'=>bU h.size .i64 h' y.1 ((OP (iG T.enc T.cur.ps) from_ to).map (·.2)):=by
 unfold BM aS;refine Oc _ λo c o1 u=>eG (V0 M C (t.ext c) (XY C _) o1 c.size (λj=>by have:h.size<h.size:=(t.lo _ j).2;omega) d) λtg vs r g=>?_;obtain⟨rfl,rfl,c2,s,o2,ol⟩:=g;refine⟨rfl,(),rfl,Dm (b:=.sl) (x:=s) o2 (aC ⟨rfl,?_,(s,()),rfl,ol⟩)⟩;exact gZ.oY (c.aP (bM _)) c2 c.size λi e=>Nat.le_of_eq e.symm
end
section
variable{P:Program}{S:cH}{h:aG}{Q:Nat->bG->aG->Prop}
variable{l:bB}
theorem XV{n:Nat}{k:IntKind}{s x:Sl}{old:bB}{K:Nat->aK}(c:bU n k h s old)(g:kW k h x l)(j:l.length=old.length)
  (d:∀h',bU n k h' s l->jU s h h'->wp P (K l.length) h' Q):wp P (.copy 1 s x K) h Q:=by
 cases l with
 |nil=>
  have h0:old=[]:=Aq j.symm;subst h0;have r:s.len=0:=c.len;have p:x.len=0:=g.len;have b:min x.len s.len=0:=by omega
  refine⟨[],?_,?_⟩
  .rw[b];have:=g.rd.Hs;rw[p]at this;exact this
  .rw[b]
   cases hb:s.aD with
   |none=>exact d h c ⟨bM _,λ_ _ _=>rfl,λ_ e=>e⟩
   |some a=>exact⟨trivial,d h c ⟨bM _,λ_ _ _=>rfl,λ_ e=>e⟩⟩
 |cons y l=>
  have:=ar (P:=P) (Q:=Q) (K:=K) (s:=s) (x:=x) (pre:=[]) (mid:=old) (post:=[]) (l:=y::l) (i:=0) (by simpa using c) g j (by simp) rfl λh' o u z=>d h' (by simpa using o) u;rw[eW,show cY s.len 0=s.len from rfl,show cY s.cap 0=s.cap from rfl]at this;exact this
theorem K6(tag:Int):∀(a b:List (Int×Int)) (o:Nat),iH tag o (a++b)=iH tag o a++iH tag (o+dM a) b
 |[],b,o=>by simp[iH,dM]
 |x::a,b,o=>by simp only[Ed,iH,K6 tag a b,nA,BC]
def Ld(enc:Int)(lo:Sl)(l:bB)(q:Pc):Prop:=∃a e:Nat,a<e/\e<=l.length/\q.2=(l.take e).drop a/\q.1=XJ ⟨bK lo.aD e a 1,e-a,e-a⟩ a (bH enc q.2)
theorem ZH{m:Nat}{T:TX}{enc:Int}{lo:Sl}{q:Pc}(ol:bU m .u8 h lo l)(z:T.enc=enc)(t:T.ad=⟨none,0,0⟩)(y:∀b,lo.aD=some b->T.Z b.block/\b.block≠T.p.block)(hlen:l.length<=65536)(D:Ld enc lo l q):AZ h T q:=by
 obtain⟨a,e,E,w,r,o⟩:=D;have B:=ol.len;have A:=ol.lO.cap;have C:=ol.lO.max;have j:=(ol.lO.take (n:=e) (m:=e) w (bM _) (by omega)).tail (i:=a) (by rw[dJ];omega);dsimp only at j;have G:q.2.length=e-a:=by rw[r,cV,dJ];omega
 have hb:q.1.1=⟨bK lo.aD e a 1,e-a,e-a⟩:=by rw[o];rfl
 have ht:q.1.2.1=a:=by rw[o];rfl
 refine⟨by rw[hb,r];exact j,by omega,by rw[z,hb,ht];exact o,by rw[ht];omega,by omega,λx d=>?_⟩;rw[hb]at d;have d:bK lo.aD e a 1=some x:=d;unfold bK at d;rw[if_neg (by omega)]at d;cases g:lo.aD with
 |none=>rw[g]at d;simp at d
 |some b=>
  rw[g]at d;have d:b.add (a*1)=x:=dU d;subst d;rw[iS];exact⟨(y b g).1,(y b g).2,λc u=>by rw[t]at u;cases u⟩
inductive Ia(S:cH)(h0 h:aG)(enc limit:Int)(l:bB):OA->Int->Prop where
 |enc:¬eL enc->Ia S h0 h enc limit l none 10
 |arg:eL enc->¬(0<=limit/\limit<=65536)->Ia S h0 h enc limit l none 1
 |full:eL enc->0<=limit/\limit<=65536->limit<l.length->Ia S h0 h enc limit l none 50
 |ok (T:TX):eL enc->0<=limit/\limit<=65536->l.length<=limit->eP S h0.size h T->T.enc=enc->T.limit=limit->T.kept=[]->T.A=[]->iG enc T.cur.ps=iH 0 0 (bH enc l)->dR T.cur.ps=l->(∀i,T.Z i->h0.size<=i)->Ia S h0 h enc limit l (some T.p) 0
theorem pf(M:kB P S){enc limit:Int}{b:Sl}(hb:kW .u8 h b l) :
  aS P (AH S enc b limit) [tP, tI] h λ(y:OA×Int×Unit) h'=>Ia S h h' enc limit l y.1 y.2.1:=by
 unfold AH aS;have a3:=hb.len;have j:cC l:=hb.wf;refine bZ (¬eL enc) ?_ λbb h1 e1 bt=>aE (λc=>aC ⟨rfl,e1,(none,10,()),rfl, .enc (bt.1 c)⟩) λc=>?_
 .unfold eL
  refine aE (λd=>aC ⟨rfl,Ext.refl _,true,rfl,?_⟩) λd=>aC ⟨rfl,Ext.refl _,_,rfl,?_⟩
  .rw[aU]at d;exact Iff.intro (λ_=>by omega) λ_=>rfl
  .rw[aY]at d;rw[dL];omega
 have he:eL enc:=by
  by_cases O:eL enc
  .exact O
  .rw[bt.2 O]at c;cases c
 refine bZ (¬(0<=limit/\limit<=65536)) ?_ λbb h2 e2 b0=>aE (λc=>aC ⟨rfl,e1.trans e2,(none,1,()),rfl, .arg he (b0.1 c)⟩) λc=>?_
 .refine aE (λd=>aC ⟨rfl,Ext.refl _,true,rfl,?_⟩) λd=>aC ⟨rfl,Ext.refl _,_,rfl,?_⟩
  .rw[aU]at d;exact Iff.intro (λ_=>by omega) λ_=>rfl
  .rw[aY]at d;rw[dL];omega
 have V:0<=limit/\limit<=65536:=by
  by_cases O:0<=limit/\limit<=65536
  .exact O
  .rw[b0.2 O]at c;cases c
 have L:=e1.trans e2;refine aE (λd=>aC ⟨rfl,L,(none,50,()),rfl, .full he V (by rw[dL,aN,a3]at d;omega)⟩) λd=>?_;rw[gD,aN,a3]at d;have ct:aQ b.len=(l.length:Int):=by rw[aN,a3]
 rw[ct];have a6:=oN (enc:=enc) j;have gw:=zY (enc:=enc) j;have al:=Gt (enc:=enc) j;refine bf (k:=.u8) (by omega) (by omega) λh3 lo e3 cg=>XV cg (hb.ext (L.trans e3)) (by simp) λo ba u4=>?_;have bs:Ext h2 o:=jU.jQ e3 u4 (λa ha=>(cg.own.lt ha).1);have cr:=ba.len;refine λel=>?_;have e5:Ext o (o.push (.cells [aH enc,aH limit, .pointer none, .slice none 0 0].toArray el)):=Ext.push ..;have o5:cA o.size 1 (o.push (.cells [aH enc,aH limit, .pointer none, .slice none 0 0].toArray el)) ⟨some ⟨o.size,0,none⟩,4,4⟩ [aH enc,aH limit, .pointer none, .slice none 0 0]:=bR rfl (by decide) (by decide);generalize o.push (.cells [aH enc,aH limit, .pointer none, .slice none 0 0].toArray el)=h5 at e5 o5⊢;have c4:=(L.trans bs).trans e5;have K:=ba.ext e5;have fm:=K.lO.cap;have ft:=K.lO.max;refine dQ (G:=Nat×List Pc) (λg (r:Sl×Int×Unit) h'=>g.1<=(bH enc l).length/\r.2.1=dM ((bH enc l).take g.1)/\Ext h5 h'/\zJ h5.size h' r.1 (g.2.map (·.1))/\(∀q,q∈g.2->Ld enc lo l q)/\iG enc g.2=iH 0 0 ((bH enc l).take g.1)/\dR g.2=l.take (dM ((bH enc l).take g.1))/\g.2.length<=g.1) (λg=>(bH enc l).length-g.1)
  (λtg vs h'=>tg=3/\Ext h5 h'/\∃(s:Sl) (ps:List Pc),vs=[dN s]/\zJ h5.size h' s (ps.map (·.1))/\(∀q,q∈ps->Ld enc lo l q)/\iG enc ps=iH 0 0 (bH enc l)/\dR ps=l) (0,[]) ⟨cN _,rfl,Ext.refl _,cA.nil _ _ _,(λq t=>by cases t),rfl,by simp[dR,dM],bM _⟩ ?_ ?_
 .rintro⟨k,ps⟩ ⟨(s:Sl),(at_:Int),u⟩ h6 ⟨O,b1,B,os,I,D,z,eg⟩
  dsimp only at O b1 os I D z eg⊢;subst b1;have c9:=pO (enc:=enc) j k O;have gm:=c9.1.le j;have c7:aQ lo.len=(l.length:Int):=by rw[aN,cr]
  rw[c7];refine aE (λd=>?_) λd=>?_
  .rw[aU]at d
   have gf:k<(bH enc l).length:=by
    by_cases c:k<(bH enc l).length
    .exact c
    .rw[iW (by omega),al]at d;omega
   have e4:=K.ext B;refine dQ (G:=Nat) (λw (r:Int×Int×Unit) h'=>k+w<=(bH enc l).length/\w<=128/\r.1=dM ((bH enc l).take (k+w))/\r.2.1=w/\Ext h6 h') (λw=>(bH enc l).length-w)
    (λtg vs h'=>tg=5/\Ext h6 h'/\∃w,1<=w/\k+w<=(bH enc l).length/\vs=[aH (dM ((bH enc l).take (k+w)))]) 0 ⟨by omega,by omega,rfl,rfl,Ext.refl _⟩ ?_ ?_
   .rintro w ⟨(en:Int),(n:Int),u⟩ h7 ⟨H,hw,b3,hn,C⟩
    dsimp only at b3 hn⊢;subst b3;subst hn;obtain⟨a4,ei⟩:=pO (enc:=enc) j (k+w) H;have hle:=a4.le j;have fv:dM ((bH enc l).take k)<=dM ((bH enc l).take (k+w)):=by
     have:(bH enc l).take k=((bH enc l).take (k+w)).take k:=by rw[JR,F4 (by omega)]
     rw[this];exact wN _ _
    refine bZ (dM ((bH enc l).take (k+w))<l.length/\w<128) ?_ λbb N e8 b2=>aE (λc=>?_) λc=>?_
    .refine aE (λd=>aC ⟨rfl,Ext.refl _,_,rfl,?_⟩) λd=>aC ⟨rfl,Ext.refl _,false,rfl,?_⟩
     .rw[aU]at d⊢;omega
     .rw[aY]at d;exact Iff.intro (λh=>by cases h) λh=>by omega
    .obtain⟨ds,fy⟩:=b2.1 c
     have ab:k+w<(bH enc l).length:=by
      by_cases c:k+w<(bH enc l).length
      .exact c
      .rw[iW (by omega),al]at ds;omega
     have b8:=jY (enc:=enc) (j.drop (dM ((bH enc l).take (k+w)))) (by rw[cV];omega);rw[ei,gY ab,JQ]at b8;have gv:=a6 _ (CK ab);have cx:dM ((bH enc l).take (k+(w+1)))=dM ((bH enc l).take (k+w))+(bH enc l)[k+w].2.toNat:=by
      rw[show k+(w+1)=(k+w)+1 by omega,eN,cL ab,jO];simp[dM]
     refine aM (Qh M (e4.ext (C.trans e8)).lO) λ⟨(x:Int),(sz:Int),_⟩ h9 e9 ao=>?_;have ao:(x,sz)=eJ enc (l.drop (dM ((bH enc l).take (k+w)))):=by
      rcases ao with⟨a5,_,_⟩|⟨_,_,_,c⟩
      .rcases a5 with h|h|h
       .exact absurd he h
       .omega
       .omega
      .rw[cS]at c;exact c
     rw[<-b8.1]at ao;have g1:sz=(bH enc l)[k+w].2:=congrArg Prod.snd ao;dsimp only;rw[aX (by omega) (by omega),aX (a:=(w:Int)) (by omega) (by omega)];refine aC ⟨λ_=>⟨w+1,(_,_,()),rfl,⟨by omega,by omega,?_,by dsimp only;omega,(C.trans e8).trans e9⟩,by omega⟩,λh=>absurd rfl h⟩;dsimp only;rw[cx];omega
    .have a5:¬(dM ((bH enc l).take (k+w))<l.length/\w<128):=λk=>by rw[b2.2 k]at c;cases c
     refine aC ⟨λh=>absurd h (by decide),λ_=>⟨rfl,C.trans e8,w,?_,H,rfl⟩⟩;by_cases h0:w=0
     .subst h0;exact absurd ⟨by rw[F2];omega,by omega⟩ a5
     .omega
   .rintro tg vs h7 ⟨rfl,C,w,g0,H,rfl⟩
    refine bE (fI ?_);have a4:=(pO (enc:=enc) j (k+w) H).1;have hle:=a4.le j;have cf:=Gu (enc:=enc) j (k+w) H;have Y:((bH enc l).take (k+w)).take k=(bH enc l).take k:=by rw[JR,F4 (by omega)]
    have bo:=jO (((bH enc l).take (k+w)).take k) (((bH enc l).take (k+w)).drop k);rw[eY,Y]at bo;have gg:=Jh (((a6.take (k+w)).drop k)) (by rw[cV,dJ];omega);have cd:=(pO (enc:=enc) (j.take (dM ((bH enc l).take (k+w)))) k (by rw[cf,dJ];omega)).2;rw[cf,Y]at cd;generalize hA:dM ((bH enc l).take k)=A at *;generalize hE:dM ((bH enc l).take (k+w))=E at *;have c6:A<E:=by omega
    have tA:bQ (A:Int)=A:=by rw[eX];omega
    have tE:bQ (E:Int)=E:=by rw[eX];omega
    dsimp only;refine sS (fC.2 ⟨jF (by omega) (by omega),fC.2 ⟨jF (by omega) (by rw[tE];omega),jF (by omega) (by rw[tE];omega)⟩⟩) ?_;rw[tA,tE];have fj:=(K.ext B).ext C;have b4:=(fj.lO.take (n:=E) (m:=E) hle (bM _) (by omega)).tail (i:=A) (by rw[dJ];omega);dsimp only at b4;refine aM (Ge M he (tag:=(A:Int)) b4 (by rw[cV,dJ];omega)) λ⟨(y:Part),_⟩ N e8 hy=>?_;have hy:y=XJ ⟨bK lo.aD E A 1,E-A,E-A⟩ A (bH enc ((l.take E).drop A)):=hy;dsimp only;have a0:=C.trans e8;have eh:=zJ.len os;rw[cE]at eh;refine Mb (n:=h5.size) (new:=Bs.inj PB y) (os.ext a0) (dI B.size a0.size) rfl (xD _) rfl (by show(s.len+1)*64<=_;omega) (by omega) λr h9 a9 b9 u9 d9=>aC ⟨λ_=>⟨(k+w,ps++[(y,(l.take E).drop A)]),(r,(E:Int),()),rfl,⟨H,by dsimp only;rw[hE],?_,?_,?_,?_,?_,by dsimp only;rw[bP];simp;omega⟩,by dsimp only;omega⟩,λh=>absurd rfl h⟩
    .exact jU.jQ (B.trans a0) u9 (λa ha=>(os.lt ha).1)
    .rw[dP]
     show cA h5.size 7 h9 r (cP (_++[y]));rw[Gd,Qf];exact a9
    .intro q t
     rcases dH.1 t with t|t
     .exact I q t
     .rw[dE.1 t]
      exact⟨A,E,c6,hle,rfl,hy⟩
    .dsimp only
     rw[pJ,IT,D];have h1:(bH enc l).take (k+w)=(bH enc l).take k++((bH enc l).take (k+w)).drop k:=by rw[<-Y,eY]
     conv=>rhs;rw[h1]
     rw[K6,hA]
     congr 1
     unfold zK;dsimp only;rw[cd,hy];show iH (A:Int) 0 _=_;have:(A:Int)=Kt 0 A:=by unfold Kt;simp
     rw[this,Nf]
    .dsimp only
     rw[tM,z,hE];have:l.take A=(l.take E).take A:=by rw[JR,F4 (by omega)]
     rw[this];simp[dR,eY]
  .rw[aY]at d
   have df:k=(bH enc l).length:=by
    by_cases c:k<(bH enc l).length
    .have h1:=jO ((bH enc l).take k) ((bH enc l).drop k)
     rw[eY,al]at h1;have:=Jh (a6.drop k) (by rw[cV];omega);omega
    .omega
   subst df;rw[fF]at D z;rw[al,fF]at z;exact aC ⟨λh=>absurd h (by decide),λ_=>⟨rfl,B,s,ps,rfl,os,I,D,z⟩⟩
 .rintro tg vs h6 ⟨rfl,B,s,ps,rfl,os,I,D,z⟩
  refine bE (Cn (tys:=[tS]) (s,()) rfl ?_);dsimp only;have bp:=c4.trans B;have J:∀b,lo.aD=some b->h.size<=b.block/\b.block<o.size:=λb hb=>by have:=ba.own.lt hb;have:=L.size;omega
  have aw:=L.trans bs
  let Z:Nat->Prop:=λi=>h.size<=i
  let T0:TX:={p:=⟨o.size,0,none⟩,enc:=enc,limit:=limit,cur:=⟨none, .nil,ps⟩,kept:=[],ad:=⟨none,0,0⟩,A:=[],Z:=Z}
  have bd:∀q,q∈ps->AZ h6 T0 q:=λq t=>ZH (K.ext B) rfl rfl (λb hb=>⟨(J b hb).1,by show b.block≠o.size;have:=(J b hb).2;omega⟩) (by omega) (I q t);have ej:∀x,x∈ps.map (·.1)->VS (WI x) (Jv x):=λx c=>by
   obtain⟨q,t,rfl⟩:=dA.1 c;exact(bd q t).wt.2
  have er:Pm (part S Z) h6 s (ps.map (·.1)):=Wh os ej;have de:oJ (part S Z) h6:=λi hi=>dI bp.size hi;have c8:((ps.map (·.1)).map WI).sum=(cQ enc ps).length:=nu bd;have dx:=(FX (enc:=enc) λq t=>(bd q t).bytes).1;rw[z]at dx;have b6:=yt (Ch S Z (P:=P)) er (show(part S Z).W (ps.map (·.1))<=4398046511104 from by
   have:(part S Z).W (ps.map (·.1))=(cQ enc ps).length:=c8;rw[this];omega) de
  rw[<-yx S Z]at b6;refine aM (R:=λ(y:TR×Unit) h'=>∃U:Bt Part,Nd (part S Z) h' y.1.1 U/\U.list=ps.map (·.1)) (aS.mono b6 λy h' e ⟨U,q1,q2,_⟩=>⟨U,q1,q2⟩) λ⟨⟨(root:OA),_⟩,_⟩ h7 C ⟨U,nd,dr⟩=>?_;have nd:Nd (part S Z) h7 root U:=nd;dsimp only;have o7:=o5.ext (B.trans C);refine fA (.pointer root) o7 (by simp) rfl λN o8 u8=>?_;have o8:cA o.size 1 N ⟨some ⟨o.size,0,none⟩,4,4⟩ [aH enc,aH limit, .pointer root, .slice none 0 0]:=o8;have c5:Ext h N:=jU.jQ (bp.trans C) u8 (by intro x c;cases c;exact aw.size);have fl:bU h2.size .u8 N lo l:=((K.ext B).ext C).Hg u8 λx y c hy=>by cases hy;have:=(J x c).2;show o.size≠x.block;omega
  have ec:o.size<N.size:=(o8.lt rfl).2
  let T:TX:={p:=⟨o.size,0,none⟩,enc:=enc,limit:=limit,cur:=⟨root,U,ps⟩,kept:=[],ad:=⟨none,0,0⟩,A:=[],Z:=λi=>h.size<=i/\i<N.size}
  have ey:Nd (part S Z) N root U:=nd.Vx u8 λb hb=>by
   cases hb;have:=aI.1 o7.cells 0 _ rfl;rw[add_zero']at this;exact⟨_,_,this⟩
  refine aC ⟨rfl,c5,(some ⟨o.size,0,none⟩,0,()),rfl, .ok T he V (by omega) ⟨he,V,o8.mono aw.size,bU.nil _ _ _,λb hb=>(by cases hb),λb hb=>(by cases hb),⟨yA ey λi hi hz=>⟨hz,hi⟩,dr,λq t=>ZH fl rfl rfl (λb hb=>⟨⟨(J b hb).1,by have:=(J b hb).2;omega⟩,by show b.block≠o.size;have:=(J b hb).2;omega⟩) (by omega) (I q t),?_⟩,λs hs=>(by cases hs),⟨aw.size,ec⟩,λb hb=>(by cases hb),λi hi=>hi⟩ rfl rfl rfl rfl D z λi hi=>hi.1⟩;show(dR ps).length<=_;rw[z];omega
end
section
variable{P:Program}{S:cH}{h:aG}{Q:Nat->bG->aG->Prop}
abbrev GR(n:Nat)(h:aG)(a:Addr)(of:Addr)(s:St):Prop:=cA n 1 h ⟨some a,2,2⟩ [.pointer (some of), .pointer s.root]
theorem eP.aP{n:Nat}{T:TX}(r:eP S n h T):eP S n h {T with kept:=T.cur::T.kept}:=by
 have d:∀{q},AZ h T q->AZ h {T with kept:=T.cur::T.kept} q:=λq=>⟨q.lO,q.ne,q.is,q.tag,q.len,q.MN⟩;have st:∀{s},Lv S h T s->Lv S h {T with kept:=T.cur::T.kept} s:=λs=>⟨s.nd,s.ls,λq c=>d (s.Cx q c),s.small⟩;refine⟨r.enc,r.Bq,r.ob,r.ad,r.dz,r.uz,st r.cur,λs b=>?_,r.zp,r.za,r.lo⟩;rcases eH.1 b with rfl|b
 .exact st r.cur
 .exact st (r.kept s b)
theorem YN{n:Nat}{T:TX}(t:eP S n h T):aS P (zD S (some T.p)) [tP] h λ(y:OA×Unit) h'=>∃a,y.1=some a/\GR h.size h' a T.p T.cur:=by
 unfold zD aS;refine uK t λel=>?_;have b:Ext h (h.push (.cells [.pointer (some T.p), .pointer T.cur.root].toArray el)):=Ext.push ..;have o1:cA h.size 1 (h.push (.cells [.pointer (some T.p), .pointer T.cur.root].toArray el)) ⟨some ⟨h.size,0,none⟩,2,2⟩ [.pointer (some T.p), .pointer T.cur.root]:=bR rfl (by decide) (by decide);exact aC ⟨rfl,b,(some ⟨h.size,0,none⟩,()),rfl,_,rfl,o1⟩
theorem UA{n k:Nat}{T:TX}{a:Addr}{s:St}(t:eP S n h T)(u:n<=h.size)(w:s∈T.kept)(sn:GR k h a T.p s) :
  wp P (uM S (some T.p) (some a)) h λtg vs h'=>tg=0/\vs=[aH 0]/\aV (rS T) h h'/\∃T',eP S n h' T'/\MC T T' h.size/\T'.cur=s/\T'.A=T.A:=by
 unfold uM;refine bZ False (lW (aL rfl (aL rfl (bC (b:=.ptr) (a.add 0) (some T.p) rfl (aI.1 sn.cells 0 _ rfl) ?_)))) λz o d hb=>aE (λx=>(hb.1 x).elim) λ_=>?_
 .refine .inl ⟨rfl,aC ⟨rfl,Ext.refl _,_,rfl,?_⟩⟩
  have:(T.p == T.p)=true:=by simp
  rw[this];exact Iff.intro (λh=>by cases h) False.elim
 .have t1:=t.ext d
  have s1:=sn.ext d;refine aL rfl (aL rfl ⟨a.add 1,rfl,(s.root,()),aI.2 λj v c=>?_,?_⟩)
  .match j,c with
   |0,c=>simp[Ty.cells,Bs.inj]at c;subst c;rw[add_zero'];exact aI.1 s1.cells 1 _ rfl
   |j+1,c=>simp[Ty.cells,Bs.inj]at c
  .refine aL rfl (aL rfl (fA (.pointer s.root) t1.ob (by simp) rfl λr o2 g=>?_))
   have st:=t1.kept s w;have o2:cA n 1 r ⟨some T.p,4,4⟩ [aH T.enc,aH T.limit, .pointer s.root,dN T.ad]:=o2;have y:=PY (T:=T) (ps':=s.ps) t1 (m:=o.size) (λi hi=>(t1.lo i hi).2) ⟨dI u d.size,bM _⟩ (yA st.nd λi _ hi=>.inl hi) st.ls st.Cx st.small o2 g;refine aC ⟨rfl,rfl,?_,_,y,⟨rfl,rfl,rfl,rfl,λi hi=>⟨.inl hi,by have:=(t1.lo i hi).2;have:=g.1;omega⟩,λi hi=>hi.1.imp id λh=>by have:=d.size;omega,λb hb=>.inl hb⟩,rfl,rfl⟩;exact(aV.bD d).trans (pP g) λi _ e=>.inl e
end
end Go.Sw.Piece
namespace Go.Sw.Hist
open Go.Sw.Any Go.Sw.Codec Go.Sw.Piece
open Go.Sw.Tree (iv fP jR jX mW oR kM rL kK dQ lB)
section
variable{P:Program}{S:cH}{h:aG}{Q:Nat->bG->aG->Prop}
abbrev Ss:Sh:=.str (.pair (.int .i64) (.pair (.int .i64) (.pair (.int .i64) .unit)))
abbrev mS:=Int×Int×Int×Unit
abbrev Yn:=Sl×List mS
def LY(e:mS)(s:Int×Bool):Int×Bool:=
 if s.1<e.1 then s else if e.2.1<=s.1 then (s.1+(e.2.2.1-(e.2.1-e.1)),s.2) else (e.1+min (s.1-e.1) e.2.2.1,false)
def qU(m:Int)(l:List mS):Int×Bool:=l.foldr LY (m,true)
def Ls(l:List mS):Prop:=l.length<=131072/\∀e∈l,0<=e.1/\e.1<=e.2.1/\e.2.1<=2199023255552/\0<=e.2.2.1/\e.2.2.1<=2199023255552
theorem Ls.tail{e:mS}{l:List mS}(b:Ls (e::l)):Ls l:=⟨by have:=b.1;simp at this;omega,λx c=>b.2 x (eK _ c)⟩
theorem Ls.drop{l:List mS}(b:Ls l)(i:Nat):Ls (l.drop i):=⟨by have:=b.1;rw[cV];omega,λx c=>b.2 x (BD c)⟩
theorem C4{m:Int}(h0:0<=m)(h1:m<=2199023255552):∀{l:List mS},Ls l->0<=(qU m l).1/\(qU m l).1<=4398046511104+l.length*2199023255552
 |[],_=>by simp[qU];omega
 |e::l,b=>by
  have d:=C4 h0 h1 b.tail;have hb:=b.2 e (eO ..);have c:qU m (e::l)=LY e (qU m l):=rfl;rw[c];unfold LY;rw[fK];push_cast;split
  .omega
  .split
   .dsimp only;omega
   .dsimp only;omega
theorem xu{x:Yn}{e:mS}{j:Int}{K:Addr->aK}(p:(Sh.list Ss).ok h x)(h0:0<=j)(g:x.2[j.toNat]?=some e)
  (o:∀a h',Ext h h'->cA h.size 1 h' ⟨some a,3,3⟩ [aH e.1,aH e.2.1,aH e.2.2.1]->wp P (K a) h' Q) :
  wp P (bF (bN (aJ x.1.aD) (eV j x.1.len))<|.load (.agg [.int .i64, .int .i64, .int .i64]) (aB x.1.aD (aZ (bQ j) 3)) λ(r:Int×Int×Int×Unit)=>
   .alloc [aH 0,aH 0,aH 0] λa=>.store (some a) [aH r.1,aH r.2.1,aH r.2.2.1] (K a)) h Q:=by
 refine Ro (e:=Ss) (x:=x) p h0 g rfl (z:=(e.1,e.2.1,e.2.2.1,())) rfl ?_;dsimp only;refine λelem=>?_;have b:Ext h (h.push (.cells [aH 0,aH 0,aH 0].toArray elem)):=Ext.push ..;have o1:cA h.size 1 (h.push (.cells [aH 0,aH 0,aH 0].toArray elem)) ⟨some ⟨h.size,0,none⟩,3,3⟩ [aH 0,aH 0,aH 0]:=bR rfl (by decide) (by decide);generalize h.push (.cells [aH 0,aH 0,aH 0].toArray elem)=w at b o1⊢;exact Ak [aH e.1,aH e.2.1,aH e.2.2.1] o1 rfl (by intro v c;simp only[eH,lG,or_false]at c;rcases c with rfl|rfl|rfl<;>rfl) λd o2 u y=>
  o _ d (jU.jQ b u (by intro x t;cases t;exact bM _)) o2
theorem Js{n:Nat}{a:Addr}{e:mS}(o:cA n 1 h ⟨some a,3,3⟩ [aH e.1,aH e.2.1,aH e.2.2.1]) :
  (∀{K:Int->aK},wp P (K e.1) h Q->wp P (.load (tI) (aB (some a) 0) K) h Q)/\(∀{K:Int->aK},wp P (K e.2.1) h Q->wp P (.load (tI) (aB (some a) 1) K) h Q) /\
  (∀{K:Int->aK},wp P (K e.2.2.1) h Q->wp P (.load (tI) (aB (some a) 2) K) h Q):=
 ⟨λc=>bC (b:=bI) _ e.1 rfl (aI.1 o.cells 0 _ rfl) c,λc=>bC (b:=bI) _ e.2.1 rfl (aI.1 o.cells 1 _ rfl) c,
  λc=>bC (b:=bI) _ e.2.2.1 rfl (aI.1 o.cells 2 _ rfl) c⟩
theorem YV{x:Yn}{m:Int}(K:(Sh.list Ss).ok h x)(hb:Ls x.2)(h0:0<=m)(h1:m<=2199023255552) :
  aS P (rD S m x.1) [tI, tB] h λ(y:Int×Bool×Unit) _=>y.1=(qU m x.2).1/\y.2.1=(qU m x.2).2:=by
 have M:=K.len;have hlen:=hb.1;unfold rD aS;have hn:bJ .i64 (aQ x.1.len) 1=(x.2.length:Int)-1:=by rw[aN,M];exact bY (by omega) (by omega)
 rw[hn];refine bL (λ(s:Int×Bool×Int×Unit) h'=>Ext h h'/\∃i:Nat,i<=x.2.length/\s.2.2.1=(i:Int)-1/\s.1=(qU m (x.2.drop i)).1/\s.2.1=(qU m (x.2.drop i)).2) (λs _=>(s.2.2.1+1).toNat)
  (λt vs h'=>Ext h h'/\t=2/\vs=[aH (qU m x.2).1, .bool (qU m x.2).2]) ⟨Ext.refl _,x.2.length,bM _,rfl,by simp[qU],by simp[qU]⟩ ?_ ?_
 .rintro⟨(p:Int),(A:Bool),(i':Int),u⟩ h2 ⟨B,i,hi,z,hm,g⟩
  dsimp only at z hm g⊢;subst z;refine aE (λD=>?_) λD=>?_
  .rw[dD]at D
   obtain⟨j,rfl⟩:∃j,i=j+1:=⟨i-1,by omega⟩;have hj:(((j+1:Nat):Int)-1)=(j:Int):=by omega
   rw[hj];obtain⟨e,he⟩:∃e,x.2[j]?=some e:=⟨x.2[j]'(by omega),cL (by omega)⟩;have c:x.2.drop j=e::x.2.drop (j+1):=by
    have J:=(cR.1 he).1;rw[<-(cR.1 he).2,<-gY J]
   have I:qU m (x.2.drop j)=LY e (qU m (x.2.drop (j+1))):=by rw[c];rfl
   have al:=hb.2 e (eM he);have H:=C4 h0 h1 (hb.drop (j+1));have ao:(x.2.drop (j+1)).length<=131072:=(hb.drop (j+1)).1;rw[<-hm]at H;have ab:p<=4398046511104+131072*2199023255552:=by omega
   refine yC ?_;refine xu (K.ext B) (by omega) (by simpa using he) λa Z V o3=>?_;have fin:∀(v:Int×Bool),LY e (qU m (x.2.drop (j+1)))=v->∀C,Ext Z C ->
     wp P (aR (jL 0 0) (.cast [tI, tB] [aH v.1, .bool v.2] λ(r:Int×Bool×Unit)=>.ret 0 [aH r.1, .bool r.2.1,aH (bJ .i64 (j:Int) 1)]) .fail) C (λtag vs h'=>
      (tag=0->∃b,vs=Ts.inj [tI, tB, tI] b/\(Ext h h'/\∃i:Nat,i<=x.2.length/\b.2.2.1=(i:Int)-1/\b.1=(qU m (x.2.drop i)).1/\b.2.1=(qU m (x.2.drop i)).2)/\(b.2.2.1+1).toNat<((j:Int)+1).toNat) /\
      (tag≠0->Ext h h'/\tag=2/\vs=[aH (qU m x.2).1, .bool (qU m x.2).2])):=by
    intro v L C W;refine bE ⟨(v.1,v.2,()),rfl,?_⟩;dsimp only;rw[bY (by omega) (by omega)];refine aC ⟨λ_=>⟨(v.1,v.2,(j:Int)-1,()),rfl,⟨(B.trans V).trans W,j,by omega,rfl,by rw[I,L],by rw[I,L]⟩,by dsimp only;omega⟩,λE=>absurd rfl E⟩
   obtain⟨o,N,O⟩:=Js (P:=P) (Q:=λt vs h'=>wp P ((λ(G:Nat) (w:bG)=>aR (jL G 0) (.cast [tI, tB] w λ(r:Int×Bool×Unit)=>.ret 0 [aH r.1, .bool r.2.1,aH (bJ .i64 (j:Int) 1)]) .fail) t vs) h' (λtag vs h'=>
      (tag=0->∃b,vs=Ts.inj [tI, tB, tI] b/\(Ext h h'/\∃i:Nat,i<=x.2.length/\b.2.2.1=(i:Int)-1/\b.1=(qU m (x.2.drop i)).1/\b.2.1=(qU m (x.2.drop i)).2)/\(b.2.2.1+1).toNat<((j:Int)+1).toNat) /\
      (tag≠0->Ext h h'/\tag=2/\vs=[aH (qU m x.2).1, .bool (qU m x.2).2]))) o3
   have Y:qU m (x.2.drop (j+1))=(p,A):=by rw[hm,g]
   rw[Y]at fin;refine o (aE (λc=>aC (fin (p,A) ?_ _ (Ext.refl _))) λc=>N (aE (λd=>O (N (o ?_))) λd=>o (o (O ?_))))
   .rw[aU]at c;unfold LY;rw[if_pos c]
   .rw[aY]at c
    rw[dD]at d;rw[bY (a:=e.2.1) (by omega) (by omega),bY (by omega) (by omega),aX (by omega) (by omega)];refine aC (fin (_,A) ?_ _ (Ext.refl _));unfold LY;rw[if_neg (by omega),if_pos d]
   .rw[aY]at c
    rw[eR]at d;rw[bY (a:=p) (by omega) (by omega),lB,aX (by omega) (by omega)];refine aC (fin (_,false) ?_ _ (Ext.refl _));unfold LY;rw[if_neg (by omega),if_neg (by omega)]
  .rw[eR]at D
   have:i=0:=by omega
   subst this;refine aC ⟨λE=>absurd E (by decide),λ_=>⟨B,rfl,?_⟩⟩;rw[hm,g];rfl
 .rintro t vs h' ⟨U,rfl,rfl⟩
  exact bE ⟨((qU m x.2).1,(qU m x.2).2,()),rfl,aC ⟨rfl,U,((qU m x.2).1,(qU m x.2).2,()),rfl,rfl,rfl⟩⟩
end
section
variable{P:Program}{S:cH}{h:aG}{Q:Nat->bG->aG->Prop}
variable{told l:fW}
def BG(x:List mS)(l:fW):fW:=l.map λe=>(e.1,(qU e.2.1 x).1,e.2.2)
def wv(x:List mS)(v:Int):Int:=if v<0 then v else if (qU v x).2 then (qU v x).1 else -1
def lM(x:List mS)(ws:bB):bB:=ws.map (wv x)
def Aw(m:Nat)(w:Sl)(i:Nat):Prop:=i=m\/∃a,w.aD=some a/\a.block=i
open Classical in
noncomputable def half(g:Int->Int)(told:fW)(l:fW):fW:=l.map λe=>if e∈told then (e.1,g e.2.1,e.2.2) else e
theorem ZA(g:Int->Int)(l:fW):half g [] l=l:=by simp[half]
theorem Td{g:Int->Int}(b:told.Perm l):half g told l=l.map λe=>(e.1,g e.2.1,e.2.2):=by
 unfold half;refine JS λe he=>?_;rw[if_pos (b.mem_iff.2 he)]
theorem J7(g:Int->Int)(told l:fW):(half g told l).map (λe=>(e.1,e.2.2))=l.map (λe=>(e.1,e.2.2)):=by
 unfold half;rw[sX];refine JS λe he=>?_;simp only[Function.comp];split<;>rfl
theorem PA{g:Int->Int}{e:Int×Int×Nat}(he:e∈l)(b:e∉told):e∈half g told l:=by
 unfold half;exact dA.2 ⟨e,he,if_neg b⟩
theorem XK{g:Int->Int}:∀{l:fW} {e:Int×Int×Nat},(l.map (·.1)).Nodup->e∈l->FK e.1 (g e.2.1) (half g told l)=half g (told++[e]) l:=by
 intro l
 induction l with
 |nil=>intro e _ he;cases he
 |cons a l t=>
  intro e c he;simp only[fS,CF]at c;have e0:half g told (a::l)=(if a∈told then (a.1,g a.2.1,a.2.2) else a)::half g told l:=rfl;have o:half g (told++[e]) (a::l)=(if a∈told++[e] then (a.1,g a.2.1,a.2.2) else a)::half g (told++[e]) l:=rfl;rw[e0,o];have p:(if a∈told then (a.1,g a.2.1,a.2.2) else a).1=a.1:=by split<;>rfl
  have hb:(if a∈told then (a.1,g a.2.1,a.2.2) else a).2.2=a.2.2:=by split<;>rfl
  simp only[FK,p,hb];by_cases ha:a.1=e.1
  .rw[if_pos ha]
   have b:a=e:=by
    rcases eH.1 he with h|h
    .exact h.symm
    .exact absurd (by rw[ha];exact rT (f:=(·.1)) h) c.1
   subst b;rw[if_pos (dH.2 (.inr (dE.2 rfl)))]
   congr 1
   unfold half;refine JS λx r=>?_;have j:x≠a:=λh=>c.1 (by rw[<-h];exact rT (f:=(·.1)) r);simp only[dH,dE,j,or_false]
  .rw[if_neg ha]
   have d:e∈l:=by
    rcases eH.1 he with h|h
    .exact absurd (by rw[h]) ha
    .exact h
   rw[t c.2 d]
   congr 1
   have b:a≠e:=λh=>ha (by rw[h]);simp only[dH,dE,b,or_false]
theorem ia{g:Int->Int}{c:Nat}(o:CQ l c)(p:∀e∈l,cX .i64 (g e.2.1)):CQ (half g told l) c:=by
 obtain⟨d,j⟩:=map_fst (J7 g told l);refine⟨by rw[d];exact o.keys,by rw[j];exact o.Ii,λe he=>?_,λe he=>?_⟩
 .obtain⟨x,b,rfl⟩:=dA.1 he
  have:=o.old x b;split<;>exact this
 .obtain⟨x,b,rfl⟩:=dA.1 he
  have:=o.fk x b;split
  .exact⟨this.1,p x b⟩
  .exact this
theorem YU{n E:Nat}{b:Addr}{vs:bG}{m:Nat}{w:Sl}{ws:bB}{x:Yn}(ob:cA n 1 h ⟨some b,10,10⟩ vs)(h4:vs[4]?=some (.map (some m)))(h5:vs[5]?=some (dN w))
  (hm:sG h m l) (hw:bU E .i64 h w ws) (bs:∀a,w.aD=some a->a.block≠b.block) (O:∀h',aV (Aw m w) h h'->(Sh.list Ss).ok h' x) (hb:Ls x.2)
  (hl:∀e∈l,0<=e.2.1/\e.2.1<=2199023255552) (b6:∀v∈ws,v<=2199023255552) :
  ET (Aw m w) P (lT S (some b) x.1) [] h λ_ h'=>sG h' m (BG x.2 l)/\bU E .i64 h' w (lM x.2 ws):=by
 unfold lT ET;have bp:m≠b.block:=by
  intro e;obtain⟨c,d,_⟩:=hm;obtain⟨_,_,_,o4⟩:=ob;obtain⟨_,_,_,cs,el,B,_⟩:=o4;rw[e]at d;rw[d]at B;cases B
 have a4:∀a,w.aD=some a->a.block≠m:=by
  intro a ha e;obtain⟨c,d,_⟩:=hm;obtain⟨_,_,_,o4⟩:=hw.own;rw[ha]at o4;obtain⟨_,_,_,cs,el,B,_⟩:=o4;rw[e,d]at B;cases B
 have al:¬Aw m w b.block:=λhf=>by
  rcases hf with h|⟨a,ha,h⟩
  .exact bp h.symm
  .exact bs a ha h
 have b9:vs.length=10:=by have:=ob.1;simpa using this.symm
 have a5:∀{h':aG} {K:Option Nat->aK} {Q:Nat->bG->aG->Prop},aV (Aw m w) h h'->wp P (K (some m)) h' Q->wp P (.load (.one .map) (aB (some b) 4) K) h' Q:=λu hk=>
  bC (b:=.map) (b.add 4) (some m) rfl (aI.1 (u.own ob (by intro a ha;cases ha;exact al)).cells 4 _ h4) hk
 have a6:∀{h':aG} {K:Sl->aK} {Q:Nat->bG->aG->Prop},aV (Aw m w) h h'->wp P (K w) h' Q->wp P (.load (tS) (aB (some b) 5) K) h' Q:=λu hk=>
  bC (b:=.sl) (b.add 5) w rfl (aI.1 (u.own ob (by intro a ha;cases ha;exact al)).cells 5 _ h5) hk
 have bo:∀{h':aG} {K:aK} {Q:Nat->bG->aG->Prop},aV (Aw m w) h h'->wp P K h' Q->wp P (.check (aB (some b) 4) [.map (some m)] K) h' Q:=λu hk=>
  sR (aI.1 (u.own ob (by intro a ha;cases ha;exact al)).cells 4 _ h4) hk
 have Z:∀v,0<=v->v<=2199023255552->cX .i64 (qU v x.2).1:=λv h0 d=>by
  have:=C4 h0 d hb;have:=hb.1;rw[eS];omega
 refine aL rfl (aL rfl (a5 (aV.refl _ _) ?_));have b1:=hm;obtain⟨c,C,ok⟩:=hm;have b2:=(wT.1 C).1;refine P5 (m:=m) (l:=l) b1 (by decide) (λtold d=>aV (λi=>i=m) h d/\∃c,d[m]?=some (lP (half (λv=>(qU v x.2).1) told l) c)/\h[m]?=some (lP l c))
  (λtold d ⟨_,c,A,D⟩=>⟨c,_,A,D,J7 _ _ _,λe he hn=>PA he hn⟩) (λtold d L ⟨u,c,A,D⟩ v=>⟨u.trans v λi hi e=>by omega,c,by rw[v.2.1 m (wT.1 A).1 (by omega)];exact A,D⟩)
  (λd e1 z1=>⟨aV.bD e1,c,by rw[e1.2.1 m b2,ZA];exact C,C⟩) (λtold e d ⟨u,j,A,D⟩ o he b3=>?_) λtold d hp ⟨u,j,A,D⟩=>?_
 .have W:aV (Aw m w) h d:=u.mono λi _ hi=>.inl hi
  have G:=hl e he;have ab:j=c:=by
   have:lP l j=lP l c:=dU (D.symm.trans C);unfold lP at this;injection this
  subst ab;refine aL rfl (aL rfl (a5 W ?_));refine aM (YV (m:=e.2.1) (O d W) hb G.1 G.2) λ⟨(r:Int),(hr:Bool),_⟩ L Y U=>?_;obtain⟨p, -⟩:=U;have p:r=(qU e.2.1 x.2).1:=p;subst p;dsimp only;refine bo (W.ext Y) ?_;have b8:jN e.1 (half (λv=>(qU v x.2).1) told l)=some e.2.1:=by
   obtain⟨k1,k2⟩:=map_fst (J7 (λv=>(qU v x.2).1) told l);rw[HC (by rw[k1];exact ok.keys)];exact⟨e.2.2,PA he b3⟩
  have g3:L[m]?=some (lP (half (λv=>(qU v x.2).1) told l) j):=by rw[Y.2.1 m (wT.1 A).1];exact A
  have ba:Je e.1 (qU e.2.1 x.2).1 (half (λv=>(qU v x.2).1) told l) j=lP (half (λv=>(qU v x.2).1) (told++[e]) l) j:=by
   unfold Je;rw[b8];exact congrArg (λz=>lP z j) (XK (g:=λv=>(qU v x.2).1) ok.keys he)
  refine⟨m,_,j,rfl,g3,?_⟩;rw[ba];have u3:aV (λi=>i=m) L (L.setIfInBounds m (lP (half (λv=>(qU v x.2).1) (told++[e]) l) j)):=(BZ g3 DS).mono λi _ hi=>by unfold own at hi;omega
  refine aC ⟨rfl,rfl,?_,?_,j,By g3,D⟩
  .rw[u3.2.1 h.size (mK o Y.1) (by omega),Y.2.1 h.size o]
  .exact(u.ext Y).trans u3 λi _ hi=>hi
 .refine bE (bO ?_)
  have W:aV (Aw m w) h d:=u.mono λi _ hi=>.inl hi;have m1:sG d m (BG x.2 l):=⟨j,by rw[Td hp]at A;exact A,by
   have ab:j=c:=by
    have:lP l j=lP l c:=dU (D.symm.trans C);unfold lP at this;injection this
   subst ab;have:=ia (told:=told) (g:=λv=>(qU v x.2).1) ok λy U=>Z _ (hl y U).1 (hl y U).2;rw[Td hp]at this;exact this⟩
  refine aL rfl (aL rfl (a6 W ?_));have ao:=hw.len;have b4:=hw.lO.cap;have cd:=hw.lO.max;rw[ao]at b4;have w1:bU E .i64 d w ws:=u.qH hw λa ha=>a4 a ha;refine bL (λ(s:Int×Unit) h'=>aV (Aw m w) h h'/\sG h' m (BG x.2 l)/\∃i:Nat,s.1=i/\i<=ws.length/\bU E .i64 h' w ((ws.take i).map (wv x.2)++ws.drop i)) (λs _=>((ws.length:Int)-s.1).toNat)
   (λt vs h'=>t=4/\vs=[]/\aV (Aw m w) h h'/\sG h' m (BG x.2 l)/\bU E .i64 h' w (lM x.2 ws)) ⟨W,m1,0,rfl,cN _,by simpa using w1⟩ ?_ ?_
  .rintro⟨(i':Int),u'⟩ L ⟨V,m2,i,hi,b0,H⟩
   dsimp only at hi⊢;subst hi;refine aE (λC=>?_) λC=>?_
   .rw[aU,aN,ao]at C
    have o:i<ws.length:=by omega
    have a9:((ws.take i).map (wv x.2)++ws.drop i).getD i 0=ws[i]:=by
     simp[List.getD,RS,F4 b0,cL o]
    have a3:((ws.take i).map (wv x.2)++ws.drop i).length=ws.length:=by simp;omega
    have bb:∀v,v=wv x.2 ws[i]->((ws.take i).map (wv x.2)++ws.drop i).set i v=(ws.take (i+1)).map (wv x.2)++ws.drop (i+1):=by
     rintro v rfl;have a0:((ws.take i).map (wv x.2)).length=i:=by rw[cE,dJ];omega
     rw[Ar (h:=by rw[a0];exact bM _),a0,sY,gY o,wU,eN,cL o,HW,dP,dW];rfl
    have aw:wv x.2 ws[i]=ws[i]->(ws.take i).map (wv x.2)++ws.drop i=(ws.take (i+1)).map (wv x.2)++ws.drop (i+1):=by
     intro G;rw[gY o,eN,cL o,HW,dP,dW,R9,G];rfl
    have fin:∀M,aV (Aw m w) h M->sG M m (BG x.2 l)->bU E .i64 M w ((ws.take (i+1)).map (wv x.2)++ws.drop (i+1)) ->
      wp P (aR (jL 0 0) (.cast [] [] λ_=>.ret 0 [aH (aT .i64 (i:Int) 1)]) .fail) M (λtag vs h'=>
       (tag=0->∃s':Int×Unit,vs=Ts.inj [tI] s'/\(aV (Aw m w) h h'/\sG h' m (BG x.2 l)/\∃i:Nat,s'.1=i/\i<=ws.length/\bU E .i64 h' w ((ws.take i).map (wv x.2)++ws.drop i))/\((ws.length:Int)-s'.1).toNat<((ws.length:Int)-(i:Int)).toNat) /\
       (tag≠0->tag=4/\vs=[]/\aV (Aw m w) h h'/\sG h' m (BG x.2 l)/\bU E .i64 h' w (lM x.2 ws))):=by
     intro M u3 m3 w3;refine bE (bO ?_);rw[aX (by omega) (by omega)];exact aC ⟨λ_=>⟨((i:Int)+1,()),rfl,⟨u3,m3,i+1,by simp,by omega,w3⟩,by dsimp only;omega⟩,λO=>absurd rfl O⟩
    refine yC (qW H.lO (by omega) (by rw[a3];omega) λ_=>?_);rw[cS,a9];refine aE (λN=>aC (fin _ V m2 ?_)) λN=>?_
    .rw[aU]at N
     rw[<-aw (by unfold wv;rw[if_pos N])];exact H
    .rw[aY]at N
     have G:=b6 ws[i] (CK _);refine aM (YV (m:=ws[i]) (O L V) hb N G) λ⟨(r:Int),(hr:Bool),_⟩ M B U=>?_;obtain⟨p,I⟩:=U;have p:r=(qU ws[i] x.2).1:=p;have I:hr=(qU ws[i] x.2).2:=I;dsimp only;refine gA (tys:=[tI]) (λ(y:Int×Unit) _=>y.1=wv x.2 ws[i]) ?_ λ⟨(v:Int),_⟩ h4 e4 J=>?_
     .refine aE (λhn=>aC ⟨rfl,Ext.refl _,(-1,()),rfl,?_⟩) λhn=>aC ⟨rfl,Ext.refl _,(r,()),rfl,?_⟩
      .have:hr=false:=by cases hr<;>simp[cU]at hn⊢
       unfold wv;rw[if_neg (by omega),<-I,this];rfl
      .have:hr=true:=by cases hr<;>simp[cU]at hn⊢
       unfold wv;rw[if_neg (by omega),<-I,this,<-p];rfl
     .have J:v=wv x.2 ws[i]:=J
      dsimp only;have u4:=(V.ext B).ext e4;refine aL rfl (aL rfl (a6 u4 ?_));refine ly ((H.ext B).ext e4) (by omega) (by rw[a3];omega) ?_ λh5 o5 u5 z5=>?_
      .rw[J];unfold wv
       rw[if_neg (by omega)];split
       .exact Z _ N G
       .rw[eS];omega
      .rw[cS,bb v J]at o5
       have c5:aV (Aw m w) h4 h5:=aV.dK u5 λa ha _=>.inr ⟨a,ha,rfl⟩;have u6:=u4.trans c5 λi _ hi=>hi;refine aC (fin _ u6 ?_ o5);have bd:aV (λi=>∃a,w.aD=some a/\a.block=i) h4 h5:=aV.dK u5 λa ha _=>⟨a,ha,rfl⟩;exact((m2.ext B).ext e4).oY bd λ⟨a,ha,hh⟩=>a4 a ha hh
   .rw[aY,aN,ao]at C
    have bt:i=ws.length:=by omega
    subst bt;rw[fF,F5,kQ]at H;exact aC ⟨λO=>absurd O (by decide),λ_=>⟨rfl,rfl,V,m2,H⟩⟩
  .rintro t vs h' ⟨rfl,rfl,V,m2,H⟩
   exact bE (bO (aC ⟨rfl,V,(),rfl,m2,H⟩))
end
section
variable{P:Program}{S:cH}{h:aG}{Q:Nat->bG->aG->Prop}
variable{s:Sl}{l:List mS}{i:Nat}{h':aG}
theorem qC{n size off:Nat}{pre mid post:bG}(new:bG){K:aK}(I:cA n size h s (pre++mid++post))(g:off=pre.length)(H:new.length=mid.length)(h0:mid≠[])(E:∀v∈new,flat v=true)
  (G:∀h',cA n size h' s (pre++new++post)->jU s h h'->h'.size=h.size->wp P K h' Q):wp P (.store (aB s.aD off) new K) h Q:=by
 subst g;obtain⟨o1,o2,B,d⟩:=I;obtain⟨aD,len,cap⟩:=s;cases aD with
 |none=>
  dsimp only at o1 o2 d;subst d;have:len=0:=by omega
  subst this;have hm:0<mid.length:=List.length_pos_iff.2 h0;simp only[Nat.zero_mul,bP]at o1;omega
 |some a=>
  dsimp only at o1 o2 B d⊢;obtain⟨b,off,spot⟩:=a;obtain⟨e0,r,t,cs,elem,u,D,x⟩:=d;dsimp only at e0 r t u;subst e0;subst r;have hle:len*size<=cap*size:=JJ _ o2;simp only[bP]at o1;obtain⟨w,p,c1,c2,c3,o,J,C⟩:=mH (vs:=new) (i:=0) (off:=pre.length) u E (by omega);refine⟨⟨b,pre.length,none⟩,by rw[pM,pI];simp,w,G _ ⟨by simp only[bP];omega,o2,B,rfl,rfl,t,p,elem,c1,by rw[c2,D],λj v c=>?_⟩
   ⟨by unfold nY;omega,λi hi A=>C i λe=>A _ rfl e.symm,λa e=>by unfold nY;rw[jH];exact e⟩ (by unfold nY;omega)⟩
  by_cases y:j<pre.length
  .rw[o j (.inl (by omega))]
   refine x j v ?_;rw[dW,mL y]at c⊢;exact c
  .rw[dW,jZ (by omega)]at c
   by_cases z:j-pre.length<new.length
   .rw[mL z]at c
    have:=c3 _ _ c
    rwa [show pre.length+0+(j-pre.length)=j by omega]at this
   .rw[jZ (by omega)]at c
    rw[o j (.inr (by omega))];refine x j v ?_;rw[dW,jZ (by omega),jZ (by omega),<-H];exact c
abbrev ZX(e:mS):bG:=[aH e.1,aH e.2.1,aH e.2.2.1]
def l_(e:mS):Prop:=cX .i64 e.1/\cX .i64 e.2.1/\cX .i64 e.2.2.1
structure JZ(n:Nat)(h:aG)(s:Sl)(l:List mS):Prop where
 own:cA n 3 h s (l.flatMap ZX)
 fit:∀e∈l,l_ e
theorem L2(l:List mS):(l.flatMap ZX).length=l.length*3:=by
 induction l with
 |nil=>rfl
 |cons e l b=>rw[gB,bP,b,fK];simp only[fK,Mn];omega
theorem JZ.len{n:Nat}{s:Sl}{l:List mS}(o:JZ n h s l):s.len=l.length:=by have:=o.own.1;rw[L2]at this;omega
theorem su{j:Nat}{e:mS}(hi:l[i]?=some e)(c:j<3):(l.flatMap ZX)[i*3+j]?=(ZX e)[j]? := by
 have b:=(cR.1 hi).1;have g:l=l.take i++(e::l.drop (i+1)):=by
  rw[<-(cR.1 hi).2,<-gY b,eY]
 have d:((l.take i).flatMap ZX).length=i*3:=by rw[L2,dJ];omega
 rw[g,gX,gB,jZ (by omega),d,show i*3+j-i*3=j by omega,mL (by simpa using c)]
theorem JZ.ok{n:Nat}{s:Sl}{l:List mS}(o:JZ n h s l):(Sh.list Ss).ok h (s,l):=by
 have hlen:=o.len;obtain⟨⟨o1,o2,z,c⟩,of⟩:=o;refine⟨hlen,o2,z,λi y hi=>?_⟩;have d:=of y (eM hi);cases hb:s.aD with
 |none=>
  rw[hb]at c;have u:=(cR.1 hi).1;dsimp only at c u;omega
 |some a=>
  rw[hb]at c;obtain⟨b,off,spot⟩:=a;obtain⟨e0,g,w,cs,elem,p,A,x⟩:=c;dsimp only at e0 g w p;subst e0;subst g;refine⟨_,rfl,aI.2 λj v r=>?_,d.1,d.2.1,d.2.2,trivial⟩;have t:j<3:=(cR.1 r).1;have:=x (i*3+j) v (by rw[su hi t];exact r);rw[pI,pI];simpa[Sw.cell,p,Sh.size] using this
theorem JZ.oY{F:Nat->Prop}{n:Nat}(o:JZ n h s l)(u:aV F h h')(b:∀a,s.aD=some a->¬F a.block):JZ n h' s l:=⟨u.own o.own b,o.fit⟩
theorem JZ.ext{n:Nat}(o:JZ n h s l)(u:Ext h h'):JZ n h' s l:=o.oY (aV.bD (F:=λ_=>False) u) λ_ _ x=>x
theorem lu{n:Nat}{K:Sl->aK}(h1:n<=131072)(b:∀h' r,Ext h h'->h'.size=h.size+1->(∀a,r.aD=some a->a.block=h.size)->JZ h.size h' r (List.replicate n (0,0,0,()))->wp P (K r) h' Q):wp P (.mk 24 [aH 0,aH 0,aH 0] (n:Int) (n:Int) K) h Q:=by
 refine⟨⟨by omega,kR _,by omega,by omega⟩,λelem=>b _ _ (Ext.push ..) (by simp) (by intro a ha;simp at ha;rw[<-ha]) ⟨?_,?_⟩⟩
 .have c:∀n,jP [aH 0,aH 0,aH 0] n=(List.replicate n ((0,0,0,()):mS)).flatMap ZX:=by
   intro n
   induction n with
   |zero=>rfl
   |succ n d=>rw[JN,gB,<-d];rfl
  rw[cS,c];exact bR (by rw[L2,JT]) (by decide) (by omega)
 .intro e he
  rw[(R8.1 he).2];exact⟨qF _,qF _,qF _⟩
theorem bl{n:Nat}(e:mS){K:aK}(o:JZ n h s l)(hi:i<l.length)(t:l_ e)
  (u:∀h',JZ n h' s (l.set i e)->jU s h h'->h'.size=h.size->wp P K h' Q) :
  wp P (bF (bN (aJ s.aD) (eV (i:Int) s.len)) (.store (aB s.aD (aZ (bQ (i:Int)) 3)) [aH e.1,aH e.2.1,aH e.2.2.1] K)) h Q:=by
 have hlen:=o.len;have p:l=l.take i++(l[i]::l.drop (i+1)):=by rw[<-gY hi,eY]
 have c:l.set i e=l.take i++(e::l.drop (i+1)):=by
  conv=>lhs;rw[p]
  have j:(l.take i).length=i:=by rw[dJ];omega
  rw[Ar (h:=by omega),j,sY,wU]
 have w:cA n 3 h s ((l.take i).flatMap ZX++ZX l[i]++(l.drop (i+1)).flatMap ZX):=by
  have:=o.own;rw[p,gX,gB]at this;rw[dW];exact this
 have hb:aJ s.aD=true:=by
  cases hb:s.aD with
  |none=>
   have:=o.own.2.2.2;rw[hb]at this;have:=o.own.2.1;dsimp only at *;omega
  |some a=>rfl
 have g:eV (i:Int) s.len=true:=by simp[eV,hlen];omega
 refine aL (by rw[hb,g];rfl) ?_;have d:aZ (bQ (i:Int)) 3=((l.take i).flatMap ZX).length:=by rw[L2,dJ];simp[aZ,bQ];omega
 rw[d];refine qC (mid:=ZX l[i]) [aH e.1,aH e.2.1,aH e.2.2.1] w rfl rfl (by simp) (by intro v r;simp only[eH,lG,or_false]at r;rcases r with rfl|rfl|rfl<;>rfl) λh' y z A=>u h' ⟨?_,?_⟩ z A
 .rw[c,gX,gB,<-dW];exact y
 .intro x b
  rw[c]at b;rcases dH.1 b with b|b
  .exact o.fit x (rU b)
  .rcases eH.1 b with rfl|b
   .exact t
   .exact o.fit x (BD b)
def qA:Int->List mS->List mS
 |_,[]=>[]
 |sh,e::l=>(e.1+sh,e.1+sh+e.2.2.1,e.2.1-e.1,())::qA (sh+(e.2.2.1-(e.2.1-e.1))) l
def OD:Int->List mS->Int
 |sh,[]=>sh
 |sh,e::l=>OD (sh+(e.2.2.1-(e.2.1-e.1))) l
theorem FC:∀{l m:List mS} {sh:Int},qA sh (l++m)=qA sh l++qA (OD sh l) m
 |[],m,sh=>rfl
 |e::l,m,sh=>by simp only[Ed,qA,OD,FC (l:=l)]
theorem HR:∀{l m:List mS} {sh:Int},OD sh (l++m)=OD (OD sh l) m
 |[],m,sh=>rfl
 |e::l,m,sh=>by simp only[Ed,OD,HR (l:=l)]
theorem Nq:∀{l:List mS} {sh:Int},(qA sh l).length=l.length
 |[],sh=>rfl
 |e::l,sh=>by simp only[qA,fK,Nq (l:=l)]
theorem Kp:∀{l:List mS} {sh:Int},Ls l->sh-l.length*2199023255552<=OD sh l/\OD sh l<=sh+l.length*2199023255552
 |[],sh,_=>by simp[OD]
 |e::l,sh,b=>by
  have c:=Kp (sh:=sh+(e.2.2.1-(e.2.1-e.1))) b.tail;have hb:=b.2 e (eO ..);simp only[OD,fK];push_cast;omega
theorem Ls.take{l:List mS}(b:Ls l)(i:Nat):Ls (l.take i):=⟨by have:=b.1;rw[dJ];omega,λx c=>b.2 x (rU c)⟩
theorem Xb{x:Yn}(I:(Sh.list Ss).ok h x)(hb:Ls x.2):aS P (qL S x.1) [tS] h λ(y:Sl×Unit) h'=>JZ h.size h' y.1 (qA 0 x.2):=by
 have K:=I.len;have hlen:=hb.1;unfold qL aS;have V:aQ x.1.len=(x.2.length:Int):=by rw[aN,K]
 rw[V];refine lu hlen λh1 r D z1 rb o1=>?_;have J:=o1.len;rw[JT]at J;refine bL (λ(s:Int×Int×Unit) h'=>Ext h h'/\∃i:Nat,s.2.1=i/\i<=x.2.length/\s.1=OD 0 (x.2.take i)/\JZ h.size h' r (qA 0 (x.2.take i)++List.replicate (x.2.length-i) (0,0,0,()))) (λs _=>((x.2.length:Int)-s.2.1).toNat)
  (λt vs h'=>Ext h h'/\t=2/\vs=[]/\JZ h.size h' r (qA 0 x.2)) ⟨D,0,rfl,cN _,rfl,by simpa[qA] using o1⟩ ?_ ?_
 .rintro⟨(sh:Int),(i':Int),u⟩ G ⟨g,i,hi,Y,d,o2⟩
  dsimp only at hi d⊢;subst hi;refine aE (λz=>?_) λz=>?_
  .rw[aU]at z
   have p:i<x.2.length:=by omega
   obtain⟨e,he⟩:∃e,x.2[i]?=some e:=⟨x.2[i]'p,cL p⟩;have W:=hb.2 e (eM he);have H:=Kp (sh:=0) (hb.take i);have ab:(x.2.take i).length<=131072:=(hb.take i).1;rw[<-d]at H;refine xu (I.ext g) (by omega) (by simpa using he) λa U E c=>?_;refine(Js c).1 ((Js c).1 ((Js c).2.2 ((Js c).2.1 ((Js c).1 ?_))));rw[aX (a:=e.1) (b:=sh) (by omega) (by omega),aX (by omega) (by omega),bY (a:=e.2.1) (b:=e.1) (by omega) (by omega)];have o:(qA 0 (x.2.take i)).length=i:=by rw[Nq,dJ];omega
   have A:(qA 0 (x.2.take i)++List.replicate (x.2.length-i) ((0,0,0,()):mS)).set i (e.1+sh,e.1+sh+e.2.2.1,e.2.1-e.1,())=qA 0 (x.2.take (i+1))++List.replicate (x.2.length-(i+1)) (0,0,0,()):=by
    rw[Ar (h:=by omega),o,sY,show x.2.length-i=(x.2.length-(i+1))+1 by omega,JN,wU,eN,he,HW,FC,<-d,dW];rfl
   refine bl (e.1+sh,e.1+sh+e.2.2.1,e.2.1-e.1,()) (o2.ext E) (by rw[bP,o,JT];omega) ⟨by rw[eS];dsimp only;omega,by rw[eS];dsimp only;omega,by rw[eS];dsimp only;omega⟩ λw M C z4=>?_;rw[A]at M;have Z:=g.1;have N:aV (λi=>i=h.size) U w:=aV.dK C λy j _=>rb y j;have L:h.size<G.size:=by
    have:=D.1;obtain⟨_,_,_,q⟩:=o2.own;cases hb:r.aD with
    |none=>
     have:=C;rw[hb]at q;have:=o2.own.2.1;dsimp only at q;omega
    |some y=>
     rw[hb]at q;have:=(wT.1 q.2.2.2.choose_spec.choose_spec.1).1;rw[rb y hb]at this;exact this
   have o5:cA G.size 1 w ⟨some a,3,3⟩ [aH e.1,aH e.2.1,aH e.2.2.1]:=N.own c λy j=>by
    cases j;exact Nat.ne_of_gt (mK L (c.lt rfl).1)
   refine(Js o5).2.2 ((Js o5).2.1 ((Js o5).1 ?_));rw[bY (a:=e.2.1) (b:=e.1) (by omega) (by omega),bY (by omega) (by omega),aX (by omega) (by omega),aX (by omega) (by omega)];have O:Ext h w:=jU.jQ (g.trans E) C λy j=>by rw[rb y j];exact bM _
   refine aC ⟨λ_=>⟨(sh+(e.2.2.1-(e.2.1-e.1)),(i:Int)+1,()),rfl,⟨O,i+1,by simp,by omega,?_,M⟩,by dsimp only;omega⟩,λB=>absurd rfl B⟩;rw[eN,he,HW,HR,<-d];rfl
  .rw[aY]at z
   have:i=x.2.length:=by omega
   subst this;rw[fF,sY,List.replicate_zero,kQ]at o2;exact aC ⟨λB=>absurd B (by decide),λ_=>⟨g,rfl,rfl,o2⟩⟩
 .rintro t vs h' ⟨g,rfl,rfl,o2⟩
  exact bE (bO (aC ⟨rfl,g,(r,()),rfl,o2⟩))
end
section
variable{P:Program}{S:cH}{h:aG}{Q:Nat->bG->aG->Prop}
variable{vs:bG}{s:Sl}
theorem Ik{n r:Nat}{b:Addr}{T:TX}{at_:Int}(ob:cA n 1 h ⟨some b,10,10⟩ vs)(h0:vs[0]?=some (.pointer (some T.p)))(t:eP S r h T) :
  aS P (nK S (some b) at_) [tB] h λ(y:Bool×Unit) _=>y.1=true↔(0<=at_/\at_<=(iG T.enc T.cur.ps).length):=by
 unfold nK aS;refine bZ (0<=at_/\at_<=(iG T.enc T.cur.ps).length) (aE (λc=>?_) λc=>aC ⟨rfl,Ext.refl _,false,rfl,?_⟩) λj o d hb=>aC ⟨rfl,d,(j,()),rfl,hb⟩
 .rw[dD]at c
  refine aL rfl (aL rfl (bC (b:=.ptr) (b.add 0) (some T.p) rfl (aI.1 ob.cells 0 _ h0) ?_));refine aM (VT t) λ⟨(L:Int),_⟩ o d g=>aC ⟨rfl,d,_,rfl,?_⟩;have g:L=_:=g;subst g;dsimp only;rw[gE];exact⟨λh=>⟨c,h⟩,λh=>h.2⟩
 .rw[eR]at c
  exact⟨λh=>(by cases h),λh=>by omega⟩
theorem Qg{l:bB}(g:kW .i64 h s l)(u:l.length<=1099511627776):aS P (gG S s) [tS] h λ(y:Sl×Unit) h'=>bU h.size .i64 h' y.1 l:=by
 unfold gG aS;refine aE (λc=>aC ⟨rfl,Ext.refl _,(⟨none,0,0⟩,()),rfl,?_⟩) λc=>?_
 .have:l=[]:=by
   cases l with
   |nil=>rfl
   |cons a l=>
    obtain⟨x,d,_⟩:=g.rd.2 0 (.int .i64 a) rfl;rw[d]at c;cases c
  subst this;exact bU.nil _ _ _
 .refine λelem=>?_
  have b:Ext h (h.push (.cells [].toArray elem)):=Ext.push ..;have o1:bU h.size .i64 (h.push (.cells [].toArray elem)) ⟨some ⟨h.size,0,none⟩,0,0⟩ []:=PL (k:=.i64) (l:=[]) (by simp) (by decide);generalize h.push (.cells [].toArray elem)=p at b o1⊢;refine TY o1 b.1 (g.ext b) (by simp;omega) (by simp;omega) λr t k2 o2 j o=>aC ⟨rfl,?_,(r,()),rfl,by simpa using o2⟩;exact jU.jQ b j (by intro x d;cases d;exact bM _)
theorem YJ{n:Nat}{v:Value}(ho:cA n 1 h s (v::vs))(hf:∀u∈vs,flat u=true) :
  ET (λi=>∃a,s.aD=some a/\a.block=i) P (dX S s (Int.ofNat 0) (Int.ofNat 1)) [tS] h λ(y:Sl×Unit) h'=>cA n 1 h' y.1 vs/\y.1.aD=s.aD:=by
 unfold dX ET;obtain⟨o1,o2,O,g⟩:=ho;obtain⟨aD,len,cap⟩:=s;dsimp only at o1 o2 O g⊢;simp only[HV,fK]at o1;subst o1;cases aD with
 |none=>dsimp only at g;omega
 |some a=>
  dsimp only at g;obtain⟨b,off,spot⟩:=a;obtain⟨e0,E,G,cs,elem,p,r,e5⟩:=g;dsimp only at e0 E G p;subst e0;subst E;have c1:bK (some ⟨b,0,none⟩) cap 0 1=some ⟨b,0,none⟩:=eW _ _ _;have lb:∀(j:Int) (n:Nat),0<=j->j<=n->wY j n=true:=λj n h0 c=>by unfold wY;rw[decide_eq_true h0,decide_eq_true c];rfl
  have o:∀x y:Bool,x=true->y=true->bN x y=true:=by rintro _ _ rfl rfl;rfl
  refine aL (o _ _ (lb _ _ (by rw[aN];omega) (by rw[aN];omega)) (o _ _ (lb _ _ (by decide) (by simp[bQ,aQ];omega)) (lb _ _ (by decide) (by simp[bQ])))) (aE (λt=>by cases t) λ_=>aL (lb _ _ (by decide) (by simp)) (aL (lb _ _ (by decide) (by simp;omega)) ?_));have A:xM h (bK (some ⟨b,0,none⟩) cap 1 1) (vs.length*1) vs:=by
   unfold bK;split
   .rename_i t
    subst t;have:vs=[]:=Aq (by omega);subst this;exact⟨rfl,trivial⟩
   .refine⟨by simp,aI.2 λj u d=>?_⟩
    have:=e5 (j+1) u (by simpa using d);simp only[JI,pI];simpa[Sw.cell,p,F0] using this
  obtain⟨w,al,U,V,W,p4,Y,Z⟩:=mH (vs:=vs) (i:=0) (off:=0) p hf (by rw[r];omega);have H:cY (bQ (Int.ofNat 0)) 0+cY (vs.length+1) (bQ (Int.ofNat 1))<=cY cap 0:=by simp[cY,bQ];omega
  have B:cY (bQ (Int.ofNat 0)) 0+cY (vs.length+1) (bQ (Int.ofNat 1))=vs.length:=by simp[cY,bQ]
  refine⟨vs,A,?_⟩;dsimp only;rw[if_pos H];have c2:bK (some ⟨b,0,none⟩) cap (bQ (Int.ofNat 0)) 1=some ⟨b,0,none⟩:=eW _ _ _;rw[eW];dsimp only;rw[B];have M:(Addr.mk b 0 none).add (cY (bQ (Int.ofNat 0)) 0*1)=⟨b,0,none⟩:=by simp[pI,cY,bQ]
  rw[M];refine⟨w,?_⟩;have p7:=λx=>jH x ⟨b,0,none⟩ vs h 0;have L:nY h ⟨b,0,none⟩ vs=oC h ⟨b,0,none⟩ 0 vs:=rfl;rw[L];generalize oC h ⟨b,0,none⟩ 0 vs=c at U W Y Z p7⊢;have z:cY cap 0=cap:=rfl;rw[z];refine aL (o _ _ (lb _ _ (by rw[aN];omega) (by rw[aN];omega)) (lb _ _ (by rw[aN];omega) (by simp[bQ,aQ];omega))) ?_;have I:bK (some ⟨b,0,none⟩) cap (bQ (aQ vs.length)) 1=some ⟨b,vs.length,none⟩:=by
   have:bQ (aQ vs.length)=vs.length:=by simp[bQ,aQ]
   rw[this];unfold bK;rw[if_neg (by omega),JI,pI];simp
  have J:cY (bQ (aQ (vs.length+1))) (bQ (aQ vs.length))=1:=by simp[bQ,aQ,cY]
  obtain⟨w2,D,q1,q2,q3,q4,q5,q6⟩:=mH (vs:=[.pointer none]) (i:=0) (off:=vs.length) U (by intro x C;rw[dE.1 C];rfl) (by rw[V,r];simp;omega);show DH _ _ _ _;unfold DH;dsimp only;have N:jP [Value.pointer none] 1=[Value.pointer none]:=rfl;rw[I,J,N];dsimp only;refine⟨w2,aC ⟨rfl,⟨?_,λi hi K=>?_,λx C=>?_⟩,(⟨some ⟨b,0,none⟩,vs.length,cap⟩,()),rfl,⟨by simp,by show vs.length<=cap;omega,O,rfl,rfl,G,D,elem,q1,by rw[q2,V,r],λj u d=>?_⟩,rfl⟩⟩
  .show h.size<=(oC c _ 0 _).size
   rw[q5,Y];exact bM _
  .have hb:i≠b:=λe=>K ⟨_,rfl,e.symm⟩
   show(oC c _ 0 _)[i]?=_;rw[q6 i hb,Z i hb]
  .show IX (oC c _ 0 _) x=false
   rw[jH,p7];exact C
  .have ao:=(cR.1 d).1
   rw[q4 j (.inl (by omega))];have:=W j u d;simpa using this
end
section
variable{P:Program}{S:cH}{h:aG}{Q:Nat->bG->aG->Prop}
structure HY where
 pt:Addr
 VN:Addr
 vk:Addr
 sb:Piece.St
 sh:Piece.St
 bg:Int
 en:Int
 mv:Sl×List Yn
 old:Int
 fresh:Int
structure KK where
 o:Addr
 VN:Addr
 sb:Piece.St
 bg:Int
 mv:Sl×List Yn
 old:Int
 m:Nat
 ms:fW
 w:Sl
 ws:bB
 ch:Bool
structure Bk where
 b:Addr
 T:TX
 depth:Int
 U:Sl×List HY
 R:Sl×List HY
 m:Nat
 ms:fW
 w:Sl
 ws:bB
 now:Option KK
 state:Int
 saved:Int
 last:Int
def yz(g:HY):bG:=[.pointer (some g.VN), .pointer (some g.vk),aH g.bg,aH g.en,dN g.mv.1,aH g.old,aH g.fresh]
def BK(o:KK):bG:=[.pointer (some o.VN), .pointer none,aH o.bg,aH 0,dN o.mv.1,aH o.old,aH 0, .map (some o.m),dN o.w, .bool o.ch]
def oW(B:Bk):bG:=[.pointer (some B.T.p),aH B.depth,dN B.U.1,dN B.R.1, .map (some B.m),dN B.w, .pointer (B.now.map (·.o)),aH B.state,aH B.saved,aH B.last]
def oO(l:List HY):bG:=l.map λg=>.pointer (some g.pt)
structure Yw(n:Nat)(h:aG)(rho:Nat->Nat)(r:Nat)(mv:Sl×List Yn):Prop where
 own:cA n 1 h mv.1 (mv.2.map λx=>dN x.1)
 role:∀a,mv.1.aD=some a->rho a.block=r
 each:∀x∈mv.2,JZ n h x.1 x.2/\(∀a,x.1.aD=some a->rho a.block=0)/\Ls x.2
structure Uq(n:Nat)(h:aG)(rho:Nat->Nat)(T:TX)(g:HY):Prop where
 ob:cA n 1 h ⟨some g.pt,7,7⟩ (yz g)
 s1:GR n h g.VN T.p g.sb
 s2:GR n h g.vk T.p g.sh
 k1:g.sb∈T.kept
 k2:g.sh∈T.kept
 mv:Yw n h rho 0 g.mv
 r0:rho g.pt.block=0/\rho g.VN.block=0/\rho g.vk.block=0
structure Us(n:Nat)(h:aG)(rho:Nat->Nat)(k:Nat)(T:TX)(o:KK):Prop where
 ob:cA n 1 h ⟨some o.o,10,10⟩ (BK o)
 ro:rho o.o.block=k+6
 sn:GR n h o.VN T.p o.sb
 ks:o.sb∈T.kept
 rs:rho o.VN.block=0
 mv:Yw n h rho (k+7) o.mv
 mp:sG h o.m o.ms
 rm:rho o.m=k+9
 ow:bU n .i64 h o.w o.ws
 EO:∀a,o.w.aD=some a->rho a.block=k+10
structure RestR(S:cH)(n:Nat)(h:aG)(rho:Nat->Nat)(k:Nat)(B:Bk):Prop where
 t:eP S n h B.T
 rt:∀i,B.T.Z i->rho i=k+8
 mp:sG h B.m B.ms
 rm:rho B.m=k+2
 ow:bU n .i64 h B.w B.ws
 EO:∀a,B.w.aD=some a->rho a.block=k+3
 ou:cA n 1 h B.U.1 (oO B.U.2)
 ru:∀a,B.U.1.aD=some a->rho a.block=k+4
 Lm:cA n 1 h B.R.1 (oO B.R.2)
 rr:∀a,B.R.1.aD=some a->rho a.block=k+5
 gs:∀g,g∈B.U.2\/g∈B.R.2->Uq n h rho B.T g
 nw:∀o,B.now=some o->Us n h rho k B.T o
structure cO(S:cH)(n:Nat)(h:aG)(rho:Nat->Nat)(k:Nat)(B:Bk):Prop extends RestR S n h rho k B where
 ob:cA n 1 h ⟨some B.b,10,10⟩ (oW B)
 rb:rho B.b.block=k+1
structure cW(k:Nat)(h:aG)(rho:Nat->Nat)(h':aG)(rho':Nat->Nat):Prop where
 c:aV (λi=>k<rho i/\rho i<=k+10) h h'
 old:∀i,i<h.size->(rho i<=k\/k+10<rho i)->rho' i=rho i
 new:∀i,i<h'.size->(h.size<=i\/(k<rho i/\rho i<=k+10))->rho' i=0\/(k<rho' i/\rho' i<=k+10)
theorem cW.refl(k:Nat)(h:aG)(rho:Nat->Nat):cW k h rho h rho:=
 ⟨aV.refl _ _,λ_ _ _=>rfl,λi hi b=>b.elim (λc=>absurd hi (by omega)) .inr⟩
theorem cW.trans{k:Nat}{h h1 r:aG}{rho d g:Nat->Nat}(a:cW k h rho h1 d)(b:cW k h1 d r g):cW k h rho r g where
 c:=a.c.trans b.c λi hi hr=>by
  by_cases p:rho i<=k\/k+10<rho i
  .rw[a.old i hi p]at hr;omega
  .omega
 old i hi p:=by
  have h1:=a.old i hi p;rw[b.old i (mK hi a.c.1) (by omega),h1]
 new i o hi:=by
  by_cases j:i<h1.size
  .rcases a.new i j hi with h0|h0
   .exact .inl (by rw[b.old i j (by omega),h0])
   .exact b.new i o (.inr h0)
  .exact b.new i o (.inl (by omega))
theorem cW.of{k:Nat}{h h':aG}{rho:Nat->Nat}{F:Nat->Prop}(c:aV F h h')(d:∀i,i<h.size->F i->k<rho i/\rho i<=k+10)(j:∀i,h.size<=i->i<h'.size->rho i=0):cW k h rho h' rho:=
 ⟨c.mono d,λ_ _ _=>rfl,λi hi g=>g.elim (λb=>.inl (j i b hi)) .inr⟩
section frames
variable{n:Nat}{h':aG}{rho rho':Nat->Nat}{F:Nat->Prop}{T T':TX}
theorem Yw.aP{r o:Nat}{mv:Sl×List Yn}(m:Yw n h rho r mv)(c:aV F h h')(j:∀i,i<h.size->F i->rho i≠0/\(∀a,mv.1.aD=some a->a.block≠i))(h0:∀i,i<h.size->rho i=0->rho' i=0)(hr:∀a,mv.1.aD=some a->rho' a.block=o):Yw n h' rho' o mv where
 own:=c.own m.own λa ha d=>(j _ (m.own.lt ha).2 d).2 a ha rfl
 role:=hr
 each x t:=by
  obtain⟨b,g,p⟩:=m.each x t;exact⟨b.oY c λa ha d=>(j _ (b.own.lt ha).2 d).1 (g a ha),λa ha=>h0 _ (b.own.lt ha).2 (g a ha),p⟩
theorem Uq.aP{g:HY}(r:Uq n h rho T g)(c:aV F h h')(d:∀i,i<h.size->F i->rho i≠0)(h0:∀i,i<h.size->rho i=0->rho' i=0)(o:T'.p=T.p)(j:∀s,s∈T.kept->s∈T'.kept):Uq n h' rho' T' g where
 ob:=c.own r.ob λa ha b=>d _ (r.ob.lt ha).2 b (by cases ha;exact r.r0.1)
 s1:=by rw[GR,o];exact c.own r.s1 λa ha b=>d _ (r.s1.lt ha).2 b (by cases ha;exact r.r0.2.1)
 s2:=by rw[GR,o];exact c.own r.s2 λa ha b=>d _ (r.s2.lt ha).2 b (by cases ha;exact r.r0.2.2)
 k1:=j _ r.k1
 k2:=j _ r.k2
 mv:=r.mv.aP c (λi hi b=>⟨d i hi b,λa ha e=>d i hi b (by rw[<-e];exact r.mv.role a ha)⟩) h0 λa ha=>h0 _ (r.mv.own.lt ha).2 (r.mv.role a ha)
 r0:=⟨h0 _ (r.ob.lt rfl).2 r.r0.1,h0 _ (r.s1.lt rfl).2 r.r0.2.1,h0 _ (r.s2.lt rfl).2 r.r0.2.2⟩
theorem Us.aP{k:Nat}{o:KK}(r:Us n h rho k T o)(c:aV F h h')(d:∀i,i<h.size->F i->rho i≠0/\rho i≠k+6/\rho i≠k+7/\rho i≠k+9/\rho i≠k+10)
  (h0:∀i,i<h.size->rho i=0\/rho i=k+6\/rho i=k+7\/rho i=k+9\/rho i=k+10->rho' i=rho i) (t:T'.p=T.p) (j:∀s,s∈T.kept->s∈T'.kept):Us n h' rho' k T' o where
 ob:=c.own r.ob λa ha b=>by have:=(d _ (r.ob.lt ha).2 b).2.1;cases ha;exact this r.ro
 ro:=by rw[h0 _ (r.ob.lt rfl).2 (.inr (.inl r.ro))];exact r.ro
 sn:=by rw[GR,t];exact c.own r.sn λa ha b=>by have:=(d _ (r.sn.lt ha).2 b).1;cases ha;exact this r.rs
 ks:=j _ r.ks
 rs:=by rw[h0 _ (r.sn.lt rfl).2 (.inl r.rs)];exact r.rs
 mv:=r.mv.aP c (λi hi b=>⟨(d i hi b).1,λa ha e=>(d i hi b).2.2.1 (by rw[<-e];exact r.mv.role a ha)⟩) (λi hi g=>by rw[h0 i hi (.inl g)];exact g)
  λa ha=>by rw[h0 _ (r.mv.own.lt ha).2 (.inr (.inr (.inl (r.mv.role a ha))))];exact r.mv.role a ha
 mp:=r.mp.oY c λb=>(d _ r.mp.lt b).2.2.2.1 r.rm
 rm:=by rw[h0 _ r.mp.lt (.inr (.inr (.inr (.inl r.rm))))];exact r.rm
 ow:=c.qH r.ow λa ha b=>(d _ (r.ow.own.lt ha).2 b).2.2.2.2 (r.EO a ha)
 EO a ha:=by rw[h0 _ (r.ow.own.lt ha).2 (.inr (.inr (.inr (.inr (r.EO a ha)))))];exact r.EO a ha
end frames
variable{h':aG}{rho:Nat->Nat}{X:Bk}{i:Nat}
theorem RestR.aP{n k:Nat}{h':aG}{rho rho':Nat->Nat}{B:Bk}{F:Nat->Prop}(r:RestR S n h rho k B)(c:aV F h h')(d:∀i,i<h.size->F i->rho i≠0/\(rho i<=k+1\/k+10<rho i))(h0:∀i,i<h.size->rho i=0\/(k+1<rho i/\rho i<=k+10)->rho' i=rho i):RestR S n h' rho' k B where
 t:=r.t.oY c λi hi b=>by have:=d i (r.t.lo i hi).2 b;have:=r.rt i hi;omega
 rt i hi:=by rw[h0 _ (r.t.lo i hi).2 (.inr (by have:=r.rt i hi;omega))];exact r.rt i hi
 mp:=r.mp.oY c λb=>by have:=d _ r.mp.lt b;have:=r.rm;omega
 rm:=by rw[h0 _ r.mp.lt (.inr (by have:=r.rm;omega))];exact r.rm
 ow:=c.qH r.ow λa ha b=>by have:=d _ (r.ow.own.lt ha).2 b;have:=r.EO a ha;omega
 EO a ha:=by rw[h0 _ (r.ow.own.lt ha).2 (.inr (by have:=r.EO a ha;omega))];exact r.EO a ha
 ou:=c.own r.ou λa ha b=>by have:=d _ (r.ou.lt ha).2 b;have:=r.ru a ha;omega
 ru a ha:=by rw[h0 _ (r.ou.lt ha).2 (.inr (by have:=r.ru a ha;omega))];exact r.ru a ha
 Lm:=c.own r.Lm λa ha b=>by have:=d _ (r.Lm.lt ha).2 b;have:=r.rr a ha;omega
 rr a ha:=by rw[h0 _ (r.Lm.lt ha).2 (.inr (by have:=r.rr a ha;omega))];exact r.rr a ha
 gs g u:=(r.gs g u).aP c (λi hi b=>(d i hi b).1) (λi hi j=>by rw[h0 i hi (.inl j)];exact j) rfl λs p=>p
 nw o w:=(r.nw o w).aP c (λi hi b=>by have:=d i hi b;omega) (λi hi j=>h0 i hi (by omega)) rfl λs p=>p
theorem cO.other{n k:Nat}{rho':Nat->Nat}{B:Bk}{F:Nat->Prop}(r:cO S n h rho k B)(c:aV F h h')(d:∀i,i<h.size->F i->rho i≠0/\(rho i<=k\/k+10<rho i))(h0:∀i,i<h.size->rho i=0\/(k<rho i/\rho i<=k+10)->rho' i=rho i):cO S n h' rho' k B where
 toRestR:=r.toRestR.aP c (λi hi b=>by have:=d i hi b;omega) λi hi g=>h0 i hi (by omega)
 ob:=c.own r.ob λa ha b=>by have:=d _ (r.ob.lt ha).2 b;cases ha;have:=r.rb;omega
 rb:=by rw[h0 _ (r.ob.lt rfl).2 (.inr (by have:=r.rb;omega))];exact r.rb
theorem cO.ext{n k:Nat}{B:Bk}(r:cO S n h rho k B)(e:Ext h h'):cO S n h' rho k B:=
 r.other (aV.bD (F:=λ_=>False) e) (λ_ _ x=>x.elim) λ_ _ _=>rfl
theorem RestR.re{n k:Nat}{B b:Bk}(r:RestR S n h rho k B)(h1:b.T=B.T)(c:b.U=B.U)(d:b.R=B.R)(p:b.m=B.m)(C:b.ms=B.ms)(t:b.w=B.w)(D:b.ws=B.ws)(E:b.now=B.now):RestR S n h rho k b:=by
 obtain⟨a1,a2,u,x,y,z,a7,a8,A,g,j,o⟩:=r;refine⟨by rw[h1];exact a1,by rw[h1];exact a2,by rw[p,C];exact u,by rw[p];exact x,by rw[t,D];exact y,by rw[t];exact z,by rw[c];exact a7,by rw[c];exact a8,by rw[d];exact A,by rw[d];exact g,by rw[h1,c,d];exact j,by rw[h1,E];exact o⟩
theorem cO.rd{n k:Nat}(r:cO S n h rho k X){b:B}(x:b.den){K:b.den->aK}(d:(oW X)[i]?=some (b.inj x))(c:wp P (K x) h Q) :
  wp P (bF (aJ (some X.b))<|bF (aJ (some X.b))<|.load (.one b) (aB (some X.b) i) K) h Q:=
 aL rfl (aL rfl (bC (b:=b) (X.b.add i) x rfl (aI.1 r.ob.cells i _ d) c))
theorem cO.zu{n k:Nat}(Y:Bk){v:Value}{K:aK}(r:cO S n h rho k X)(hi:i<10)(z:flat v=true)(B:oW Y=(oW X).set i v)(hb:Y.b=X.b)(h1:Y.T=X.T)(d:Y.U=X.U)(g:Y.R=X.R)(j:Y.m=X.m)(p:Y.ms=X.ms)(t:Y.w=X.w)(x:Y.ws=X.ws)(y:Y.now=X.now)
  (A:∀h',cO S n h' rho k Y->aV (λi=>i=X.b.block) h h'->wp P K h' Q) :
  wp P (bF (aJ (some X.b))<|bF (aJ (some X.b))<|.store (aB (some X.b) i) [v] K) h Q:=by
 refine aL rfl (aL rfl (fA v r.ob (by simp[oW];exact hi) z λh' o u=>?_));have c:aV (λi=>i=X.b.block) h h':=aV.dK u λa ha _=>by cases ha;rfl
 exact A h' {toRestR:=(r.toRestR.aP (rho':=rho) c (λi hi e=>by subst e;have:=r.rb;omega) λ_ _ _=>rfl).re h1 d g j p t x y,ob:=by rw[hb,B];exact o,rb:=by rw[hb];exact r.rb} c
end
section
variable{P:Program}{S:cH}{h:aG}{Q:Nat->bG->aG->Prop}{n k:Nat}{rho:Nat->Nat}{X:Bk}
theorem VR(r:cO S n h rho k X):aS P (zC S (some X.b)) [tP] h λ(y:OA×Unit) _=>y.1=some X.T.p:=by
 unfold zC aS;exact r.rd (b:=.ptr) (some X.T.p) rfl (aC ⟨rfl,Ext.refl _,(some X.T.p,()),rfl,rfl⟩)
def Hn(X:Bk):Bool:=decide (X.state≠X.saved) || (X.now.map (·.ch)).getD false
theorem g_(r:cO S n h rho k X):aS P (uY S (some X.b)) [tB] h λ(y:Bool×Unit) _=>y.1=Hn X:=by
 unfold uY aS;refine bZ (Hn X=true) ?_ λg t p hb=>aC ⟨rfl,p,(g,()),rfl,by cases g<;>cases u:Hn X<;>simp_all⟩;refine r.rd (b:=bI) X.state rfl (r.rd (b:=bI) X.saved rfl (aE (λc=>aC ⟨rfl,Ext.refl _,true,rfl,?_⟩) λc=>?_))
 .have:X.state≠X.saved:=by simpa[HD] using c
  simp[Hn,this]
 .have j:X.state=X.saved:=by simpa[HD] using c
  cases d:X.now with
  |none=>
   refine r.rd (b:=.ptr) none (by simp[oW,d,B.inj]) (aE (λc=>by cases c) λ_=>aC ⟨rfl,Ext.refl _,false,rfl,?_⟩);simp[Hn,j,d]
  |some o=>
   have ro:=r.nw o d;refine r.rd (b:=.ptr) (some o.o) (by simp[oW,d,B.inj]) (aE (λ_=>?_) λc=>by cases c);refine r.rd (b:=.ptr) (some o.o) (by simp[oW,d,B.inj]) (aL rfl (aL rfl (bC (b:=.bool) (o.o.add 9) o.ch rfl (aI.1 ro.ob.cells 9 _ rfl) (aC ⟨rfl,Ext.refl _,o.ch,rfl,?_⟩))));simp[Hn,j,d]
theorem fz(r:cO S n h rho k X):aS P (uX S (some X.b)) [tI, tI] h λ(y:Int×Int×Unit) _=>y.1=X.U.2.length/\y.2.1=X.R.2.length:=by
 unfold uX aS;have hu:X.U.1.len=X.U.2.length:=by have:=r.ou.1;simpa[oO] using this
 have hr:X.R.1.len=X.R.2.length:=by have:=r.Lm.1;simpa[oO] using this
 refine r.rd (b:=.sl) X.U.1 rfl (r.rd (b:=.sl) X.R.1 rfl (aC ⟨rfl,Ext.refl _,(_,_,()),rfl,?_,?_⟩))
 .dsimp only;rw[hu]
 .dsimp only;rw[hr]
theorem YL(r:cO S n h rho k X):aS P (tC S (some X.b)) [tB] h λ(y:Bool×Unit) _=>y.1=X.now.isSome:=by
 unfold tC aS;refine r.rd (b:=.ptr) (X.now.map (·.o)) rfl (aC ⟨rfl,Ext.refl _,(_,()),rfl,?_⟩);cases X.now<;>rfl
def D4(X:Bk):Bk:=if X.now.isNone then {X with saved:=X.state} else X
theorem ga(r:cO S n h rho k X):ET (λi=>i=X.b.block) P (vA S (some X.b)) [] h λ_ h'=>cO S n h' rho k (D4 X):=by
 unfold vA ET;refine r.rd (b:=.ptr) (X.now.map (·.o)) rfl (aE (λd=>?_) λd=>aC ⟨rfl,aV.refl _ _,(),rfl,?_⟩)
 .have g:X.now=none:=by cases j:X.now<;>simp[j,fO]at d⊢
  refine r.rd (b:=bI) X.state rfl (r.zu {X with saved:=X.state} (i:=8) (by decide) rfl rfl rfl rfl rfl rfl rfl rfl rfl rfl rfl λh' p c=>aC ⟨rfl,c,(),rfl,?_⟩);have:D4 X={X with saved:=X.state}:=if_pos (by rw[g];rfl);dsimp only;rw[this];exact p
 .have g:X.now.isNone=false:=by cases j:X.now<;>simp[j,fO]at d⊢
  have:D4 X=X:=if_neg (by rw[g];decide);dsimp only;rw[this];exact r
def OB(a:Int):Prop:=(97<=a/\a<=122)\/a=39\/a=60\/a=62
theorem YW{a:Int}:aS P (rY S a) [tB] h λ(y:Bool×Unit) _=>y.1=true↔OB a:=by
 unfold rY aS;have tail:wp P (aR (gM a 39) (.ret 0 [.bool true])<|aR (gM a 60) (.ret 0 [.bool true])<|.ret 0 [.bool (gM a 62)]) h λt vs h'=>t=0/\Ext h h'/\∃b,vs=[.bool b]/\(b=true↔a=39\/a=60\/a=62):=by
  refine aE (λc=>aC ⟨rfl,Ext.refl _,true,rfl,?_⟩) λc=>aE (λd=>aC ⟨rfl,Ext.refl _,true,rfl,?_⟩) λd=>aC ⟨rfl,Ext.refl _,_,rfl,?_⟩
  .have:a=39:=by simpa[gM] using c
   simp[this]
  .have:a=60:=by simpa[gM] using d
   simp[this]
  .have o:a≠39:=by simpa[gM] using c
   have u:a≠60:=by simpa[gM] using d
   simp[gM,o,u]
 refine bZ (OB a) ?_ λp o r hb=>aC ⟨rfl,r,(p,()),rfl,hb⟩;refine aE (λc=>aE (λd=>aC ⟨rfl,Ext.refl _,true,rfl,?_⟩) λd=>cM _ (λt vs h' ⟨a1,a2,b,g,j⟩=>⟨a1,a2,b,g,?_⟩) tail) λc=>cM _ (λt vs h' ⟨a1,a2,b,g,j⟩=>⟨a1,a2,b,g,?_⟩) tail
 .rw[dD]at c;rw[gE]at d
  exact⟨λ_=>.inl ⟨c,d⟩,λ_=>rfl⟩
 .rw[mN]at d
  rw[j];unfold OB;omega
 .rw[eR]at c
  rw[j];unfold OB;omega
theorem p_{name:Int}(r:cO S n h rho k X):aS P (zB S (some X.b) name) [tI, tI] h λ(y:Int×Int×Unit) _=>(jN name X.ms=none/\y.1=0/\y.2.1=74)\/(jN name X.ms=some y.1/\y.2.1=0):=by
 unfold zB aS;refine r.rd (b:=.map) (some X.m) rfl (tx r.mp ?_);cases hm:jN name X.ms with
 |none=>exact aE (λ_=>aC ⟨rfl,Ext.refl _,(0,74,()),rfl, .inl ⟨rfl,rfl,rfl⟩⟩) λc=>by cases c
 |some v=>exact aE (λc=>by cases c) λ_=>aC ⟨rfl,Ext.refl _,(v,0,()),rfl, .inr ⟨rfl,rfl⟩⟩
theorem W7(r:cO S n h rho k X)(d:X.ws.length<=1099511627776):aS P (rA S (some X.b)) [tS] h λ(y:Sl×Unit) h'=>bU h.size .i64 h' y.1 X.ws:=by
 unfold rA aS;refine r.rd (b:=.sl) X.w rfl (aM (Qg r.ow.lO d) λ⟨(y:Sl),_⟩ g c o1=>aC ⟨rfl,c,(y,()),rfl,o1⟩)
end
section
variable{P:Program}{S:cH}{h:aG}{Q:Nat->bG->aG->Prop}{n k:Nat}{rho:Nat->Nat}{X:Bk}
section parts
variable{h':aG}{rho':Nat->Nat}{F:Nat->Prop}
variable{T':TX}
theorem RestR.tK(r:RestR S n h rho k X)(c:aV F h h')(b:∀i,i<h.size->F i->rho i≠k+8):eP S n h' X.T:=r.t.oY c λi hi d=>b i (r.t.lo i hi).2 d (r.rt i hi)
theorem RestR.vb(r:RestR S n h rho k X)(h0:∀i,i<h.size->rho i=k+8->rho' i=k+8):∀i,X.T.Z i->rho' i=k+8:=λi hi=>h0 i (r.t.lo i hi).2 (r.rt i hi)
theorem RestR.kx(r:RestR S n h rho k X)(c:aV F h h')(b:∀i,i<h.size->F i->rho i≠k+2):sG h' X.m X.ms:=r.mp.oY c λd=>b _ r.mp.lt d r.rm
theorem RestR.tw(r:RestR S n h rho k X)(h0:∀i,i<h.size->rho i=k+2->rho' i=k+2):rho' X.m=k+2:=h0 _ r.mp.lt r.rm
theorem RestR.lj(r:RestR S n h rho k X)(c:aV F h h')(b:∀i,i<h.size->F i->rho i≠k+3):bU n .i64 h' X.w X.ws:=c.qH r.ow λa ha d=>b _ (r.ow.own.lt ha).2 d (r.EO a ha)
theorem RestR.vc(r:RestR S n h rho k X)(h0:∀i,i<h.size->rho i=k+3->rho' i=k+3):∀a,X.w.aD=some a->rho' a.block=k+3:=λa ha=>h0 _ (r.ow.own.lt ha).2 (r.EO a ha)
theorem RestR.lg(r:RestR S n h rho k X)(c:aV F h h')(b:∀i,i<h.size->F i->rho i≠k+4):cA n 1 h' X.U.1 (oO X.U.2):=c.own r.ou λa ha d=>b _ (r.ou.lt ha).2 d (r.ru a ha)
theorem RestR.xp(r:RestR S n h rho k X)(h0:∀i,i<h.size->rho i=k+4->rho' i=k+4):∀a,X.U.1.aD=some a->rho' a.block=k+4:=λa ha=>h0 _ (r.ou.lt ha).2 (r.ru a ha)
theorem RestR.tq(r:RestR S n h rho k X)(c:aV F h h')(b:∀i,i<h.size->F i->rho i≠k+5):cA n 1 h' X.R.1 (oO X.R.2):=c.own r.Lm λa ha d=>b _ (r.Lm.lt ha).2 d (r.rr a ha)
theorem RestR.xn(r:RestR S n h rho k X)(h0:∀i,i<h.size->rho i=k+5->rho' i=k+5):∀a,X.R.1.aD=some a->rho' a.block=k+5:=λa ha=>h0 _ (r.Lm.lt ha).2 (r.rr a ha)
theorem RestR.kl(r:RestR S n h rho k X)(c:aV F h h')(b:∀i,i<h.size->F i->rho i≠0)(h0:∀i,i<h.size->rho i=0->rho' i=0)(o:T'.p=X.T.p)(j:∀s,s∈X.T.kept->s∈T'.kept):∀g,g∈X.U.2\/g∈X.R.2->Uq n h' rho' T' g:=
  λg d=>(r.gs g d).aP c b h0 o j
theorem RestR.xh(r:RestR S n h rho k X)(c:aV F h h')(b:∀i,i<h.size->F i->rho i≠0/\rho i≠k+6/\rho i≠k+7/\rho i≠k+9/\rho i≠k+10)
    (h0:∀i,i<h.size->rho i=0\/rho i=k+6\/rho i=k+7\/rho i=k+9\/rho i=k+10->rho' i=rho i) (j:T'.p=X.T.p) (d:∀s,s∈X.T.kept->s∈T'.kept):∀o,X.now=some o->Us n h' rho' k T' o:=
  λo g=>(r.nw o g).aP c b h0 j d
end parts
variable{h':aG}{F:Nat->Prop}
theorem cO.z_(r:cO S n h rho k X)(c:aV F h h')(d:∀i,i<h.size->F i->rho i≠k+1):cA n 1 h' ⟨some X.b,10,10⟩ (oW X):=
  c.own r.ob λa ha g=>by cases ha;exact d _ (r.ob.lt rfl).2 g r.rb
theorem cO.marks{ms:fW}{ws:bB}(r:cO S n h rho k X)(c:aV F h h')(d:∀i,i<h.size->F i->rho i=k+2\/rho i=k+3)(hm:sG h' X.m ms)(hw:bU n .i64 h' X.w ws):cO S n h' rho k {X with ms:=ms,ws:=ws} where
  t:=r.tK c λi hi b=>by have:=d i hi b;omega
  rt:=r.rt
  mp:=hm
  rm:=r.rm
  ow:=hw
  EO:=r.EO
  ou:=r.lg c λi hi b=>by have:=d i hi b;omega
  ru:=r.ru
  Lm:=r.tq c λi hi b=>by have:=d i hi b;omega
  rr:=r.rr
  gs:=r.kl c (λi hi b=>by have:=d i hi b;omega) (λ_ _ h=>h) rfl λ_ h=>h
  nw:=r.xh c (λi hi b=>by have:=d i hi b;omega) (λ_ _ _=>rfl) rfl λ_ h=>h
  ob:=r.z_ c λi hi b=>by have:=d i hi b;omega
  rb:=r.rb
theorem W5{name at_:Int}(r:cO S n h rho k X)(B:cX .i64 name)(A:cX .i64 at_) :
    wp P (qZ S (some X.b) name at_) h λtg vs h'=>tg=0 /\
      ((¬OB name/\vs=[aH 74]/\Ext h h')\/(OB name/\¬(0<=at_/\at_<=(iG X.T.enc X.T.cur.ps).length)/\vs=[aH 2]/\Ext h h') \/
       (OB name/\(0<=at_/\at_<=(iG X.T.enc X.T.cur.ps).length)/\vs=[aH 0]/\aV (λi=>i=X.m) h h'/\∃c,(∀e∈X.ms,e.2.2<c)/\cO S n h' rho k {X with ms:=Jd name at_ X.ms c})):=by
  unfold qZ;refine aM (YW) λ⟨(E:Bool),_⟩ H o hb=>aE (λd=>aC ⟨rfl, .inl ⟨λp=>?_,rfl,o⟩⟩) λd=>?_
  . rw[dF]at d
    have:=hb.2 p;dsimp only at this d;rw[this]at d;cases d
  . rw[eC]at d
    have p:=hb.1 d;have x:=r.ext o;refine aM (Ik x.ob rfl x.t) λ⟨(G:Bool),_⟩ I w u=>aE (λg=>aC ⟨rfl, .inr (.inl ⟨p,λC=>?_,rfl,o.trans w⟩)⟩) λg=>?_
    . rw[dF]at g
      have:=u.2 C;dsimp only at this g;rw[this]at g;cases g
    . rw[eC]at g
      have j:=x.ext w;refine j.rd (b:=.map) (some X.m) rfl (bh j.mp B A λJ c y D z=>aC ⟨rfl, .inr (.inr ⟨p,u.1 g,rfl,aV.pre (o.trans w) y,c,z,?_⟩)⟩);have:=j.marks y (λi hi e=>by subst e;exact .inl j.rm) D (j.lj y λi hi e=>by subst e;rw[j.rm];omega);exact this
def wq(x:List mS)(X:Bk):Bk:={X with ms:=BG x X.ms,ws:=lM x X.ws}
theorem Pp{x:Yn}(r:cO S n h rho k X)(B:(Sh.list Ss).ok h x)(g:∀h',aV (Aw X.m X.w) h h'->(Sh.list Ss).ok h' x)(hb:Ls x.2)(z:∀e∈X.ms,0<=e.2.1/\e.2.1<=2199023255552)(d:∀v∈X.ws,v<=2199023255552) :
    ET (Aw X.m X.w) P (lT S (some X.b) x.1) [] h λ_ h'=>cO S n h' rho k (wq x.2 X):=by
  have c:∀a,X.w.aD=some a->a.block≠X.b.block:=λa ha e=>by have t:=r.EO a ha;have A:=r.rb;rw[e]at t;omega
  refine cM _ (λtg vs h' ⟨a1,a2,y,j,o,p⟩=>⟨a1,a2,y,j,?_⟩) (YU (S:=S) r.ob rfl rfl r.mp r.ow c g hb z d);refine r.marks a2 (λi hi u=>?_) o p;rcases u with rfl|⟨a,ha,rfl⟩
  . exact .inl r.rm
  . exact .inr (r.EO a ha)
end
section
variable{P:Program}{S:cH}{h:aG}{Q:Nat->bG->aG->Prop}{n k:Nat}{rho:Nat->Nat}{X:Bk}
abbrev kv(e:Int×Int×Nat):Int×Int:=(e.1,e.2.1)
abbrev Tg(T:TX):TX:={T with kept:=T.cur::T.kept}
def qQ(X:Bk)(at_:Int):Prop:=0<=at_/\at_<=(iG X.T.enc X.T.cur.ps).length
theorem SG{at_:Int}{o:KK}(r:cO S n h rho k X)(d:X.now=some o):wp P (pF S (some X.b) at_) h λtg vs h'=>tg=0/\vs=[aH 70]/\h'=h:=by
 unfold pF;exact r.rd (b:=.ptr) (some o.o) (by simp[oW,d,B.inj]) (aE (λ_=>aC ⟨rfl,rfl,rfl⟩) λc=>by cases c)
theorem XW{m o:Nat}{l:fW}{a:Addr}{n:Nat}{vs:bG}{K:Nat->bG->aK}(hm:sG h m l)(w:sG h o [])(ab:m≠o)(J:cA n 1 h ⟨some a,10,10⟩ vs)(W:vs[7]?=some (.map (some o)))
  (Y:∀h' d,aV (λi=>i=o) h h'->sG h' o d->(d.map kv).Perm (l.map kv)->wp P (K 2 []) h' Q) :
  wp P (.Ja (some m) λit=>.bind (.loop [] () λ_=>.Jc (some it) (λ_ _=>.DT (some it) λx y=>.load (.one .map) (aB (some a) 7) λ(p:Option Nat)=>.Re p x y<|.ret 0 []) (.ret 2 [])) K) h Q:=by
 have C:a.block≠o:=by
  intro e;obtain⟨c,B,_⟩:=w;obtain⟨_,_,_,o4⟩:=J;obtain⟨_,_,_,cs,el,O,_⟩:=o4;rw[<-e,O]at B;cases B
 have H:=hm.lt;have Z:=w.lt;have G:=hm;obtain⟨c,D,ok⟩:=hm;refine P5 (m:=m) (l:=l) (t:=2) (body:=λx y=>.load (.one .map) (aB (some a) 7) λ(p:Option Nat)=>.Re p x y<|.ret 0 []) G (by decide)
  (λtold g=>aV (λi=>i=o) h g/\(∀x∈told,x∈l)/\∃d,sG g o d/\d.map kv=told.map kv)
  (λtold g ⟨u,_,_⟩=>⟨c,l,by rw[u.2.1 m H (by omega)];exact D,D,rfl,λe he _=>he⟩)
  (λtold g U ⟨u,z,d,ml,e⟩ v=>⟨u.trans v λi hi e=>by omega,z,d,ml.oY v (by omega),e⟩)
  (λg e _=>⟨aV.bD e,by simp,[],w.ext e,rfl⟩) (λtold e g ⟨u,z,d,ml,r⟩ E he I=>?_) λtold g hp ⟨u,z,d,ml,r⟩=>Y g d u ml (by rw[r];exact hp.map kv)
 have og:=u.own J λb hb e=>by cases hb;exact C e
 have A:jN e.1 d=none:=by
  rw[HB];intro j;have V:d.map (·.1)=told.map (·.1):=by
   have:=congrArg (List.map Prod.fst) r;rw[sX,sX]at this;exact this
  rw[V]at j;obtain⟨y,L,M⟩:=dA.1 j;have:=Dg (f:=λe:Int×Int×Nat=>e.1) ok.keys _ (z y L) _ he M;subst this;exact I L
 refine bC (b:=.map) (a.add 7) (some o) rfl (aI.1 og.cells 7 _ W) (bh ml (ok.fk e he).1 (ok.fk e he).2 λU c2 N m2 _=>aC ⟨rfl,rfl,?_,?_,λx j=>?_,_,m2,?_⟩)
 .exact N.2.1 _ E (by omega)
 .exact u.trans N λi _ hi=>hi
 .rcases dH.1 j with j|j
  .exact z x j
  .simp at j;subst j;exact he
 .simp only[Jd,A]
  simp[r]
structure mw(S:cH)(n k:Nat)(X:Bk)(h:aG)(rho:Nat->Nat)(at_:Int)(h':aG)(rho':Nat->Nat)(o:KK):Prop where
 st:cW k h rho h' rho'
 c:aV (λi=>i=X.b.block) h h'
 r:cO S n h' rho' k {X with now:=some o,T:=Tg X.T}
 bg:o.bg=at_
 sb:o.sb=X.T.cur
 mv:o.mv=(⟨none,0,0⟩,[])
 old:o.old=X.state
 ms:(o.ms.map kv).Perm (X.ms.map kv)
 ws:o.ws=X.ws
 ch:o.ch=false
open Classical in
theorem fx{at_:Int}(r:cO S n h rho k X)(hn:X.now=none)(hl:X.ws.length<=1099511627776) :
  wp P (pF S (some X.b) at_) h λtg vs h'=>tg=0/\((¬qQ X at_/\vs=[aH 2]/\Ext h h')\/(qQ X at_/\vs=[aH 0]/\∃rho' o,mw S n k X h rho at_ h' rho' o)):=by
 unfold pF;have b3:n<=h.size:=dI (r.ob.lt rfl).1 (rV (r.ob.lt rfl).2);refine r.rd (b:=.ptr) none (by simp[oW,hn,B.inj]) (aE (λA=>by cases A) λ_=>?_);refine aM (Ik (at_:=at_) r.ob rfl r.t) λ⟨(b1:Bool),_⟩ u O hb=>aE (λA=>aC ⟨rfl, .inl ⟨λH=>?_,rfl,O⟩⟩) λA=>?_
 .rw[dF]at A
  have:=hb.2 H;dsimp only at this A;rw[this]at A;cases A
 rw[eC]at A;have a3:qQ X at_:=hb.1 A;have r1:=r.ext O;refine Wy λW e2 z2 m2=>?_;have r2:=r1.ext e2;refine r2.rd (b:=.sl) X.w rfl (aM (Qg r2.ow.lO hl) λ⟨(z:Sl),_⟩ c e3 Z=>?_);have Z:bU W.size .i64 c z X.ws:=Z;dsimp only;refine λelem=>?_;have J:Ext c (c.push (.cells [.pointer none, .pointer none,aH 0,aH 0, .slice none 0 0,aH 0,aH 0, .map (some u.size),dN z, .bool false].toArray elem)):=Ext.push ..;have o4:cA c.size 1 (c.push (.cells [.pointer none, .pointer none,aH 0,aH 0, .slice none 0 0,aH 0,aH 0, .map (some u.size),dN z, .bool false].toArray elem)) ⟨some ⟨c.size,0,none⟩,10,10⟩ [.pointer none, .pointer none,aH 0,aH 0, .slice none 0 0,aH 0,aH 0, .map (some u.size),dN z, .bool false]:=bR rfl (by decide) (by decide);generalize c.push (.cells [.pointer none, .pointer none,aH 0,aH 0, .slice none 0 0,aH 0,aH 0, .map (some u.size),dN z, .bool false].toArray elem)=L at J o4⊢;have r4:=(r2.ext e3).ext J;refine r4.rd (b:=.ptr) (some X.T.p) rfl (r4.rd (b:=bI) X.state rfl (aM (YN r4.t) λ⟨(sp:OA),_⟩ h5 K ba=>?_));obtain⟨sn,rfl,Y⟩:=ba;have Y:GR L.size h5 sn X.T.p X.T.cur:=Y;dsimp only;have r5:=r4.ext K;refine sR (aI.1 r5.ob.cells 7 _ rfl) ?_;have o5:=(aV.bD (F:=λ_=>False) K).own o4 λ_ _ x=>x;have bo:∀j,aB (aB (some (Addr.mk c.size 0 none)) 0) j=aB (some ⟨c.size,0,none⟩) j:=λj=>by rw[pM,add_zero']
 simp only[bo];refine aL rfl (fA (.pointer (some sn)) o5 (by simp) rfl λh6 o6 u6=>aL rfl (fA (aH at_) o6 (by simp) rfl λh7 o7 u7=>aL rfl (fA (aH X.state) o7 (by simp) rfl λM o8 u8=>?_)));simp only[wU,List.set_cons_succ]at o8;have b6:W.size<=c.size:=e3.1;have b8:=J.1;have b9:=K.1;have bt:Ext L M\/True:=.inr trivial;have E:aV (λi=>i=c.size) h5 M:=((aV.dK (F:=λi=>i=c.size) u6 λa ha _=>by cases ha;rfl).trans (aV.dK (F:=λi=>i=c.size) u7 λa ha _=>by cases ha;rfl) λ_ _ x=>x).trans (aV.dK (F:=λi=>i=c.size) u8 λa ha _=>by cases ha;rfl) λ_ _ x=>x;have eA:Ext h c:=((O.trans e2).trans e3);have U:Ext h M:=by
  have:=(eA.trans J).trans K;exact⟨dI this.1 E.1,λi hi=>by rw[E.2.1 i (mK hi this.1) (by have:=eA.1;omega)];exact this.2.1 i hi,λx H=>E.2.2 x (this.2.2 x H)⟩
 have r8:=r.ext U;have m8:sG M u.size []:=(((m2.ext e3).ext J).ext K).oY E (by omega);have s8:=E.own Y λa ha e=>by cases ha;have u:L.size<=sn.block:=(Y.lt rfl).1;have W:c.size<L.size:=(o4.lt rfl).2;have e:sn.block=c.size:=e;omega
 have w8:bU W.size .i64 M z X.ws:=E.qH (((aV.bD (F:=λ_=>False) (J.trans K))).qH Z λ_ _ x=>x) λa ha e=>by have:=(Z.own.lt ha).2;omega
 refine r8.rd (b:=.map) (some X.m) rfl (XW r8.mp m8 (by have:=r.mp.lt;have:=O.1;omega) o8 rfl λh9 l' u9 m9 hp=>bE (bO ?_));have a0:X.b.block<h.size:=(r.ob.lt rfl).2;have b4:=O.1;have cd:=E.1;have b2:c.size<L.size:=(o4.lt rfl).2;have bs:L.size<=sn.block:=(Y.lt rfl).1;have I:∀a,z.aD=some a->W.size<=a.block/\a.block<c.size:=λa ha=>Z.own.lt ha;have G:aV (λi=>i=u.size) M h9:=u9;have bb:=G.own r8.ob λa ha e=>by cases ha;exact absurd (show X.b.block=u.size from e) (by omega)
 refine aL rfl (aL rfl (fA (.pointer (some ⟨c.size,0,none⟩)) bb (by simp[oW]) rfl λV ao bp=>?_));have C:aV (λi=>i=X.b.block) h9 V:=aV.dK bp λa ha _=>by cases ha;rfl
 have aw:Ext h h9:=⟨dI U.1 G.1,λi hi=>by rw[G.2.1 i (mK hi U.1) (by omega)];exact U.2.1 i hi,λx H=>G.2.2 x (U.2.2 x H)⟩;have D:aV (λi=>i=X.b.block) h V:=aV.pre aw C
 let rho':Nat->Nat:=λi=>if i<h.size then rho i else if i=u.size then k+9 else if i=c.size then k+6 else if (∃a,z.aD=some a/\a.block=i) then k+10 else 0
 have hold:∀i,i<h.size->rho' i=rho i:=λi hi=>if_pos hi;have d:∀j i,i<h.size->rho i=j->rho' i=j:=λj i hi e=>by rw[hold i hi];exact e
 have y:∀i,i<h.size->i=X.b.block->rho i=k+1:=λi _ e=>by rw[e];exact r.rb
 have a4:rho' u.size=k+9:=by show(if _ then _ else _)=_;rw[if_neg (by omega),if_pos rfl]
 have a6:rho' c.size=k+6:=by show(if _ then _ else _)=_;rw[if_neg (by omega),if_neg (by omega),if_pos rfl]
 have al:∀a,z.aD=some a->rho' a.block=k+10:=λa ha=>by
  have:=I a ha;show(if _ then _ else _)=_;rw[if_neg (by omega),if_neg (by omega),if_neg (by omega),if_pos ⟨a,ha,rfl⟩]
 have a9:rho' sn.block=0:=by
  show(if _ then _ else _)=_;rw[if_neg (by omega),if_neg (by omega),if_neg (by omega),if_neg];rintro⟨a,ha,e⟩;have:=I a ha;omega
 have mono:∀{m size:Nat} {g:aG} {s:Sl} {vs:bG},n<=m->cA m size g s vs->cA n size g s vs:=λhm ho=>by
  obtain⟨p1,p2,p3,N⟩:=ho;refine⟨p1,p2,p3,?_⟩;split at N
  .exact N
  .exact⟨N.1,N.2.1,dI hm N.2.2.1,N.2.2.2⟩
 let o:KK:={o:=⟨c.size,0,none⟩,VN:=sn,sb:=X.T.cur,bg:=at_,mv:=(⟨none,0,0⟩,[]),old:=X.state,m:=u.size,ms:=l',w:=z,ws:=X.ws,ch:=false}
 have b0:∀{F:Nat->Prop} {g g':aG},aV F g g'->aV F g g':=λx=>x;have bd:Us n V rho' k (Tg X.T) o:={
  ob:=mono (by omega) (C.own (G.own o8 λa ha e=>by cases ha;exact absurd (show c.size=u.size from e) (by omega)) λa ha e=>by cases ha;exact absurd (show c.size=X.b.block from e) (by omega))
  ro:=a6
  sn:=mono (by omega) (C.own (G.own s8 λa ha e=>by cases ha;exact absurd (show sn.block=u.size from e) (by omega)) λa ha e=>by cases ha;exact absurd (show sn.block=X.b.block from e) (by omega))
  ks:=eO ..
  rs:=a9
  mv:=⟨cA.nil _ _ _,λa ha=>(by cases ha),λx H=>(by cases H)⟩
  mp:=m9.oY C (by omega)
  rm:=a4
  ow:=⟨mono (by omega) (C.own (G.own w8.own λa ha e=>by have:=I a ha;omega) λa ha e=>by have:=I a ha;omega),w8.wf⟩
  EO:=al}
 refine aC ⟨rfl, .inr ⟨a3,rfl,rho',o,⟨⟨D.mono λi hi e=>by rw[y i hi e];omega,λi hi _=>hold i hi,λi hi hj=>?_⟩,D,?_,rfl,rfl,rfl,rfl,hp,rfl,rfl⟩⟩⟩
 .by_cases ab:i<h.size
  .rw[hold i ab];rcases hj with hj|hj
   .omega
   .exact .inr hj
  .show(if _ then _ else _)=0\/_<(if _ then _ else _)/\(if _ then _ else _)<=_
   rw[if_neg ab];split
   .exact .inr (by omega)
   .split
    .exact .inr (by omega)
    .split
     .exact .inr (by omega)
     .exact .inl rfl
 .exact{
   t:=(r.tK D λi hi e=>by rw[y i hi e];omega).aP
   rt:=r.vb (d _)
   mp:=r.kx D λi hi e=>by rw[y i hi e];omega
   rm:=r.tw (d _)
   ow:=r.lj D λi hi e=>by rw[y i hi e];omega
   EO:=r.vc (d _)
   ou:=r.lg D λi hi e=>by rw[y i hi e];omega
   ru:=r.xp (d _)
   Lm:=r.tq D λi hi e=>by rw[y i hi e];omega
   rr:=r.xn (d _)
   gs:=r.kl D (λi hi e=>by rw[y i hi e];omega) (d _) rfl λs hs=>eK _ hs
   nw:=λo' a5=>by cases a5;exact bd
   ob:=ao
   rb:=by rw[hold _ a0];exact r.rb}
end
section
variable{P:Program}{S:cH}{h:aG}{Q:Nat->bG->aG->Prop}{n k:Nat}{rho:Nat->Nat}{X:Bk}
structure WT(P:Program)(S:cH):Prop where
 shut:∀(b:OA) (h:aG) (R:aG->Prop),wp P (ER S b) h (λtag _ h'=>tag=0/\R h')->yJ P S.zL [.pointer b] h R
theorem TZ{i:FuncId}{args:bG}{K:aK}(c:wp P K h λt vs h'=>yJ P i args h' λb=>Q t vs b):wp P (.J4 i args K) h Q:=c
theorem Vm(C:WT P S){b:Addr}{vs:bG}{R:aG->Prop}(ob:cA n 1 h ⟨some b,10,10⟩ vs)(c:∀h',cA n 1 h' ⟨some b,10,10⟩ (vs.set 6 (.pointer none))->aV (λi=>i=b.block) h h'->R h'):yJ P S.zL [.pointer (some b)] h R:=by
 refine C.shut (some b) h R ?_;unfold ER;have d:vs.length=10:=by have:=ob.1;simpa using this.symm
 exact aL rfl (aL rfl (fA (.pointer none) ob (by omega) rfl λh' o u=>aC ⟨rfl,c h' o (aV.dK u λa ha _=>by cases ha;rfl)⟩))
theorem UB(r:cO S n h rho k X)(d:X.now=none):wp P (qY S (some X.b)) h λtg vs h'=>tg=0/\vs=[aH 0,aH 71]/\h'=h:=by
 unfold qY;exact r.rd (b:=.ptr) none (by simp[oW,d,B.inj]) (aE (λ_=>aC ⟨rfl,rfl,rfl⟩) λc=>by cases c)
abbrev Zb(X:Bk)(o:KK)(T':TX):Bk:={X with T:=T',m:=o.m,ms:=o.ms,w:=o.w,ws:=o.ws,now:=none}
open Classical in
theorem oj(C:WT P S){o:KK}(r:cO S n h rho k X)(hn:X.now=some o) :
  wp P (qY S (some X.b)) h λtg vs h'=>tg=0/\vs=[aH o.bg,aH 0]/\∃rho' T',cW k h rho h' rho'/\cO S n h' rho' k (Zb X o T')/\MC X.T T' h.size/\T'.cur=o.sb/\T'.A=X.T.A:=by
 unfold qY;have ro:=r.nw o hn;have M:X.b.block<h.size:=(r.ob.lt rfl).2;have ao:n<=h.size:=dI (r.ob.lt rfl).1 (rV M);have L:(oW X)[6]?=some (.pointer (some o.o)):=by simp[oW,hn]
 have V:∀j,aB (aB (some o.o) 0) j=aB (some o.o) j:=λj=>by rw[pM,add_zero']
 refine r.rd (b:=.ptr) (some o.o) L (aE (λhc=>by cases hc) λ_=>TZ ?_);refine r.rd (b:=.ptr) (some X.T.p) rfl (r.rd (b:=.ptr) (some o.o) L (aL rfl (aL rfl (aL rfl ?_))));rw[V];refine bC (b:=.ptr) (o.o.add 0) (some o.VN) rfl (aI.1 ro.ob.cells 0 _ rfl) ?_;refine eG (UA r.t ao ro.ks ro.sn) λtg vs g hx=>?_;obtain⟨rfl,rfl,c1,T',t1,nx,ab,hA⟩:=hx;refine⟨rfl,(0,()),rfl,?_⟩;have I:∀i,i<h.size->rS X.T i->rho i=k+8:=λi _ hi=>r.rt i (JB r.t hi);have N:=r.z_ c1 λi hi c=>by rw[I i hi c];omega
 have J:cA n 1 g ⟨some o.o,10,10⟩ (BK o):=c1.own ro.ob λa ha c=>by cases ha;have G:=I _ (ro.ob.lt rfl).2 c;have z:=ro.ro;rw[z]at G;omega
 have U:∀{b:B} {i:Nat} (x:b.den) {K:b.den->aK} {Q:Nat->bG->aG->Prop},(oW X)[i]?=some (b.inj x)->wp P (K x) g Q->wp P (bF (aJ (some X.b))<|bF (aJ (some X.b))<|.load (.one b) (aB (some X.b) i) K) g Q:=
  @λb i x K Q hv hk=>aL rfl (aL rfl (bC (b:=b) (X.b.add i) x rfl (aI.1 N.cells _ _ hv) hk))
 refine U (b:=.ptr) (some o.o) L (aL rfl (aL rfl (bC (b:=.map) (o.o.add 7) (some o.m) rfl (aI.1 J.cells 7 _ rfl) ?_)));refine U (b:=.ptr) (some o.o) L (aL rfl (aL rfl (bC (b:=.sl) (o.o.add 8) o.w rfl (aI.1 J.cells 8 _ rfl) ?_)));refine aL rfl (aL rfl (fA (.map (some o.m)) N (by simp[oW]) rfl λG a3 u2=>?_));refine aL rfl (aL rfl (fA (dN o.w) a3 (by simp[oW]) rfl λz O u3=>?_));have c3:aV (λi=>i=X.b.block) g z:=(aV.dK (F:=λi=>i=X.b.block) u2 λa ha _=>by cases ha;rfl).trans (aV.dK (F:=λi=>i=X.b.block) u3 λa ha _=>by cases ha;rfl) λ_ _ x=>x;have a5:cA n 1 z ⟨some o.o,10,10⟩ (BK o):=c3.own J λa ha e=>by cases ha;have G:=ro.ro;have z:=r.rb;have e:o.o.block=X.b.block:=e;rw[e]at G;omega
 refine aL rfl (aL rfl (bC (b:=.ptr) (X.b.add 6) (some o.o) rfl (aI.1 O.cells 6 _ (by simp[oW,hn,B.inj])) (aL rfl (aL rfl (aL rfl ?_)))));rw[V];refine bC (b:=bI) (o.o.add 2) o.bg rfl (aI.1 a5.cells 2 _ rfl) (aC (Vm C O λY a4 W=>⟨rfl,rfl,?_⟩));have y:aV (λi=>rS X.T i\/i=X.b.block) h Y:=(c1.mono λi _ hi=>.inl hi).trans (c3.trans W λ_ _ x=>x) λi _ hi=>.inr hi;have D:∀i,i<h.size->(rS X.T i\/i=X.b.block)->rho i=k+8\/rho i=k+1:=λi hi c=>c.elim (λh=>.inl (I i hi h)) λe=>.inr (by rw[e];exact r.rb)
 let rho':Nat->Nat:=λi=>if i<h.size then (if rho i=k+9 then k+2 else if rho i=k+10 then k+3 else if rho i=k+2\/rho i=k+3\/rho i=k+6\/rho i=k+7 then 0 else rho i) else if T'.Z i then k+8 else 0
 have hold:∀i,i<h.size->rho' i=(if rho i=k+9 then k+2 else if rho i=k+10 then k+3 else if rho i=k+2\/rho i=k+3\/rho i=k+6\/rho i=k+7 then 0 else rho i):=λi hi=>if_pos hi;have d:∀j,(j<=k+1\/j=k+4\/j=k+5\/j=k+8\/k+10<j)->∀i,i<h.size->rho i=j->rho' i=j:=λj H i hi e=>by rw[hold i hi,e,if_neg (by omega),if_neg (by omega),if_neg (by omega)]
 have a6:=c3.1;have a9:=W.1;refine⟨rho',T',⟨y.mono λi hi c=>by have:=D i hi c;omega,λi hi ho=>d _ (by omega) i hi rfl,λi hi H=>?_⟩,?_,nx,ab,hA⟩
 .by_cases u:i<h.size
  .rw[hold i u]
   split
   .exact .inr (by omega)
   .split
    .exact .inr (by omega)
    .split
     .exact .inl rfl
     .rcases H with H|H
      .omega
      .exact .inr H
  .show(if _ then _ else _)=0\/_<(if _ then _ else _)/\(if _ then _ else _)<=_
   rw[if_neg u];split
   .exact .inr (by omega)
   .exact .inl rfl
 .have al:aV (λi=>i=X.b.block) g Y:=c3.trans W λ_ _ x=>x
  have a0:¬T'.Z X.b.block:=λE=>by
   rcases nx.zn _ E with g|g
   .have G:=r.rt _ g;have z:=r.rb;omega
   .omega
  exact{
   t:=t1.oY al λi E e=>a0 (by rw[<-e];exact E)
   rt:=λi E=>by
    by_cases u:i<h.size
    .rcases nx.zn i E with g|g
     .exact d _ (by omega) i u (r.rt i g)
     .omega
    .show(if _ then _ else _)=_
     rw[if_neg u,if_pos E]
   mp:=ro.mp.oY y λc=>by have:=D _ ro.mp.lt c;have:=ro.rm;omega
   rm:=by show rho' o.m=_;rw[hold _ ro.mp.lt,if_pos ro.rm]
   ow:=y.qH ro.ow λa ha c=>by have:=D _ (ro.ow.own.lt ha).2 c;have:=ro.EO a ha;omega
   EO:=λa ha=>by show rho' a.block=_;rw[hold _ (ro.ow.own.lt ha).2,if_neg (by have:=ro.EO a ha;omega),if_pos (ro.EO a ha)]
   ou:=r.lg y λi hi c=>by have:=D i hi c;omega
   ru:=r.xp (d _ (by omega))
   Lm:=r.tq y λi hi c=>by have:=D i hi c;omega
   rr:=r.xn (d _ (by omega))
   gs:=r.kl y (λi hi c=>by have:=D i hi c;omega) (d _ (by omega)) nx.p λs hs=>by rw[nx.kept];exact hs
   nw:=λo' aw=>by cases aw
   ob:=by
    have:oW (Zb X o T')=(((oW X).set 4 (.map (some o.m))).set 5 (dN o.w)).set 6 (.pointer none):=by simp[oW,nx.p]
    show cA n 1 Y ⟨some X.b,10,10⟩ (oW (Zb X o T'));rw[this];exact a4
   rb:=d _ (by omega) _ M r.rb}
end
section
variable{P:Program}{S:cH}{h:aG}{Q:Nat->bG->aG->Prop}{n k:Nat}{rho:Nat->Nat}{X:Bk}
structure ng(depth:Int)(T:TX)(X:Bk):Prop where
 T:X.T=T
 depth:X.depth=depth
 U:X.U.2=[]
 R:X.R.2=[]
 ms:X.ms=[]
 ws:X.ws=[]
 now:X.now=none
 BI:X.state=0/\X.saved=0/\X.last=0
inductive Dw(S:cH)(h0 h:aG)(enc limit depth:Int)(l:bB):OA->Int->Prop where
 |deep:¬(1<=depth/\depth<=200)->Dw S h0 h enc limit depth l none 1
 |text {g g':aG} {e:Int}:1<=depth/\depth<=200->e≠0->Ia S g g' enc limit l none e->Dw S h0 h enc limit depth l none e
 | ok (T:TX) (X:Bk):1<=depth/\depth<=200->eL enc->0<=limit/\limit<=65536->l.length<=limit->T.enc=enc->T.limit=limit->T.kept=[]->T.A=[]->iG enc T.cur.ps=iH 0 0 (bH enc l)->dR T.cur.ps=l ->
   ng depth T X->(∀(k:Nat) (rho:Nat->Nat),∃rho',cW k h0 rho h rho'/\(∀i,i<h0.size->rho' i=rho i)/\cO S h0.size h rho' k X)->Dw S h0 h enc limit depth l (some X.b) 0
theorem eP.mono{m:Nat}{T:TX}(t:eP S n h T)(hm:m<=n):eP S m h T:=
 ⟨t.enc,t.Bq,t.ob.mono hm,t.ad.mono hm,t.dz,t.uz,t.cur,t.kept,t.zp,t.za,λi hi=>⟨dI hm (t.lo i hi).1,(t.lo i hi).2⟩⟩
open Classical in
theorem fw(M:kB P S){enc limit depth:Int}{b:Sl}{l:bB}(hb:kW .u8 h b l) :
  aS P (vH S enc b limit depth) [tP, tI] h λ(y:OA×Int×Unit) h'=>Dw S h h' enc limit depth l y.1 y.2.1:=by
 unfold vH aS;refine bZ (¬(1<=depth/\depth<=200)) (aE (λd=>aC ⟨rfl,Ext.refl _,true,rfl,?_⟩) λd=>aC ⟨rfl,Ext.refl _,_,rfl,?_⟩) λbb G z J=>aE (λd=>aC ⟨rfl,z,(none,1,()),rfl, .deep (J.1 d)⟩) λd=>?_
 .rw[aU]at d;exact⟨λ_=>by omega,λ_=>rfl⟩
 .rw[aY]at d;rw[dL];exact⟨λ_=>by omega,λ_=>by omega⟩
 have O:1<=depth/\depth<=200:=by
  by_cases B:1<=depth/\depth<=200
  .exact B
  .have:=J.2 B
   dsimp only at d;rw[this]at d;cases d
 refine aM (pf M (enc:=enc) (limit:=limit) (hb.ext z)) λ⟨(p:OA),(er:Int),_⟩ j D B=>?_;have B:Ia S G j enc limit l p er:=B;dsimp only;have bad:∀e:Int,e≠0->Ia S G j enc limit l none e->wp P (aR (HD e 0) (.ret 0 [.pointer none,aH e]) .fail) j (λt vs h'=>t=0/\Ext h h'/\∃x:OA×Int×Unit,vs=Ts.inj [tP, tI] x/\Dw S h h' enc limit depth l x.1 x.2.1):=λe he C=>
  aE (λ_=>aC ⟨rfl,z.trans D,(none,e,()),rfl, .text O he C⟩) λd=>by rw[lQ]at d;exact absurd d he
 have u:∀(e:Int) (K:aK),e≠0->Ia S G j enc limit l none e->wp P (aR (HD e 0) (.ret 0 [.pointer none,aH e]) K) j (λt vs h'=>t=0/\Ext h h'/\∃x:OA×Int×Unit,vs=Ts.inj [tP, tI] x/\Dw S h h' enc limit depth l x.1 x.2.1):=λe K he C=>
  aE (λ_=>aC ⟨rfl,z.trans D,(none,e,()),rfl, .text O he C⟩) λd=>by rw[lQ]at d;exact absurd d he
 cases B with
 |enc a=>exact u _ _ (by decide) (.enc a)
 |arg a b=>exact u _ _ (by decide) (.arg a b)
 |full a b c=>exact u _ _ (by decide) (.full a b c)
 |ok T a b c t en li ke A el HZ zn=>
  refine aE (λd=>by cases d) λ_=>Wy λr W z3 m3=>?_;refine λelem=>?_;have E:Ext r (r.push (.cells [.pointer (some T.p),aH depth, .slice none 0 0, .slice none 0 0, .map (some j.size), .slice none 0 0, .pointer none,aH 0,aH 0,aH 0].toArray elem)):=Ext.push ..;have o4:cA r.size 1 (r.push (.cells [.pointer (some T.p),aH depth, .slice none 0 0, .slice none 0 0, .map (some j.size), .slice none 0 0, .pointer none,aH 0,aH 0,aH 0].toArray elem)) ⟨some ⟨r.size,0,none⟩,10,10⟩ [.pointer (some T.p),aH depth, .slice none 0 0, .slice none 0 0, .map (some j.size), .slice none 0 0, .pointer none,aH 0,aH 0,aH 0]:=bR rfl (by decide) (by decide);generalize r.push (.cells [.pointer (some T.p),aH depth, .slice none 0 0, .slice none 0 0, .map (some j.size), .slice none 0 0, .pointer none,aH 0,aH 0,aH 0].toArray elem)=h4 at E o4⊢;have ao:=z.1;have aw:=D.1;have Y:Ext h h4:=((z.trans D).trans W).trans E
  let X:Bk:={b:=⟨r.size,0,none⟩,T:=T,depth:=depth,U:=(⟨none,0,0⟩,[]),R:=(⟨none,0,0⟩,[]),m:=j.size,ms:=[],w:=⟨none,0,0⟩,ws:=[],now:=none,state:=0,saved:=0,last:=0}
  refine aC ⟨rfl,Y,(some X.b,0,()),rfl, .ok T X O a b c en li ke A el HZ ⟨rfl,rfl,rfl,rfl,rfl,rfl,rfl,rfl,rfl,rfl⟩ λk rho=>?_⟩
  let rho':Nat->Nat:=λi=>if i<h.size then rho i else if T.Z i then k+8 else if i=j.size then k+2 else if i=r.size then k+1 else 0
  have N:∀i,T.Z i->G.size<=i/\i<j.size:=λi hi=>t.lo i hi;have ab:¬T.Z j.size:=λV=>by have:=N _ V;omega
  have al:¬T.Z r.size:=λV=>by have:=N _ V;omega
  have r2:rho' j.size=k+2:=by show(if _ then _ else _)=_;rw[if_neg (by omega),if_neg ab,if_pos rfl]
  have r3:rho' r.size=k+1:=by show(if _ then _ else _)=_;rw[if_neg (by omega),if_neg al,if_neg (by omega),if_pos rfl]
  refine⟨rho',⟨aV.bD Y,λi hi _=>if_pos hi,λi hi I=>?_⟩,λi hi=>if_pos hi,?_⟩
  .by_cases L:i<h.size
   .have:rho' i=rho i:=if_pos L
    rw[this];rcases I with I|I
    .omega
    .exact .inr I
   .show(if _ then _ else _)=0\/_<(if _ then _ else _)/\(if _ then _ else _)<=_
    rw[if_neg L];split
    .exact .inr (by omega)
    .split
     .exact .inr (by omega)
     .split
      .exact .inr (by omega)
      .exact .inl rfl
  .exact{
    t:=eP.mono ((t.ext W).ext E) (by omega)
    rt:=λi hi=>by have:=N i hi;show(if _ then _ else _)=_;rw[if_neg (by omega),if_pos hi]
    mp:=m3.ext E
    rm:=r2
    ow:=bU.nil _ _ _
    EO:=λa ha=>by cases ha
    ou:=cA.nil _ _ _
    ru:=λa ha=>by cases ha
    Lm:=cA.nil _ _ _
    rr:=λa ha=>by cases ha
    gs:=λg H=>by rcases H with H|H<;>cases H
    nw:=λo C=>by cases C
    ob:=cA.mono o4 (by omega)
    rb:=r3}
end
section
variable{P:Program}{S:cH}{h:aG}{Q:Nat->bG->aG->Prop}{n k:Nat}{rho:Nat->Nat}{X:Bk}
open Classical in
theorem gd{s:Sl}{l:bB}(r:cO S n h rho k X)(z:kW .i64 h s l)(V:l.length<=1099511627776) :
  wp P (vC S (some X.b) s) h λtg vs h'=>tg=0/\((¬(∀v∈l,qQ X v)/\vs=[aH 2]/\Ext h h')\/((∀v∈l,qQ X v)/\vs=[aH 0]/\aV (λi=>i=X.b.block) h h'/\∃rho' C,cW k h rho h' rho'/\cO S n h' rho' k {X with w:=C,ws:=l})):=by
 unfold vC;have hlen:=z.len;have I:X.b.block<h.size:=(r.ob.lt rfl).2;have al:n<=h.size:=dI (r.ob.lt rfl).1 (rV I);have W:aQ s.len=(l.length:Int):=by rw[aN,hlen]
 rw[W];refine bL (λ(q:Int×Unit) h'=>Ext h h'/\∃i:Nat,q.1=i/\i<=l.length/\∀v∈l.take i,qQ X v) (λq _=>((l.length:Int)-q.1).toNat)
  (λt vs h'=>Ext h h'/\((t=2/\vs=[]/\∀v∈l,qQ X v)\/(t=1/\vs=[aH 2]/\¬∀v∈l,qQ X v))) ⟨Ext.refl _,0,rfl,cN _,by simp⟩ ?_ ?_
 .rintro⟨(i':Int),u⟩ L ⟨o,i,hi,ab,g⟩
  dsimp only at hi⊢;subst hi;refine aE (λK=>?_) λK=>?_
  .rw[aU]at K
   have p:i<l.length:=by omega
   refine qW (z.ext o) (by omega) (by omega) λ_=>?_;have U:l.getD ((i:Int).toNat) 0=l[i]:=by rw[cS];simp[List.getD,cL p]
   rw[U];have O:=r.ext o;refine aM (Ik (at_:=l[i]) O.ob rfl O.t) λ⟨(b1:Bool),_⟩ J E hb=>aE (λy=>aC ⟨λB=>absurd B (by decide),λ_=>⟨o.trans E, .inr ⟨rfl,rfl,λB=>?_⟩⟩⟩) λy=>?_
   .rw[dF]at y
    have:=hb.2 (B _ (CK p));dsimp only at this y;rw[this]at y;cases y
   .rw[eC]at y
    rw[aX (by omega) (by omega)];refine aC ⟨λ_=>⟨((i:Int)+1,()),rfl,⟨o.trans E,i+1,by simp,by omega,λv A=>?_⟩,by dsimp only;omega⟩,λB=>absurd rfl B⟩;rw[eN,cL p]at A;rcases dH.1 A with A|A
    .exact g v A
    .simp at A;subst A;exact hb.1 y
  .rw[aY]at K
   have:i=l.length:=by omega
   subst this;rw[fF]at g;exact aC ⟨λB=>absurd B (by decide),λ_=>⟨o, .inl ⟨rfl,rfl,g⟩⟩⟩
 .rintro t vs L ⟨o,⟨rfl,rfl,g⟩|⟨rfl,rfl,N⟩⟩
  .refine bE (bO (aM (Qg (z.ext o) V) λ⟨(C:Sl),_⟩ J E D=>?_))
   have D:bU L.size .i64 J C l:=D;dsimp only;have H:=o.trans E;have Z:=r.ext H;refine aL rfl (aL rfl (fA (dN C) Z.ob (by simp[oW]) rfl λM Y u3=>?_));have c3:aV (λi=>i=X.b.block) J M:=aV.dK u3 λa ha _=>by cases ha;rfl
   have x:aV (λi=>i=X.b.block) h M:=aV.pre H c3;have ao:=o.1
   let rho':Nat->Nat:=λi=>if i<h.size then rho i else if (∃a,C.aD=some a/\a.block=i) then k+3 else 0
   have c:∀j i,i<h.size->rho i=j->rho' i=j:=λj i hi e=>by show(if _ then _ else _)=_;rw[if_pos hi];exact e
   have d:∀i,i<h.size->i=X.b.block->rho i=k+1:=λi _ e=>by rw[e];exact r.rb
   refine aC ⟨rfl, .inr ⟨g,rfl,x,rho',C,⟨x.mono λi hi e=>by rw[d i hi e];omega,λi hi _=>c _ i hi rfl,λi hi G=>?_⟩,?_⟩⟩
   .by_cases p:i<h.size
    .rw[c _ i p rfl];rcases G with G|G
     .omega
     .exact .inr G
    .show(if _ then _ else _)=0\/_<(if _ then _ else _)/\(if _ then _ else _)<=_
     rw[if_neg p];split
     .exact .inr (by omega)
     .exact .inl rfl
   .exact{
     t:=r.tK x λi hi e=>by rw[d i hi e];omega
     rt:=r.vb (c _)
     mp:=r.kx x λi hi e=>by rw[d i hi e];omega
     rm:=r.tw (c _)
     ow:=(c3.qH D λa ha e=>by have:=(D.own.lt ha).1;omega).mono (by omega)
     EO:=λa ha=>by have:=(D.own.lt ha).1;show(if _ then _ else _)=_;rw[if_neg (by omega),if_pos ⟨a,ha,rfl⟩]
     ou:=r.lg x λi hi e=>by rw[d i hi e];omega
     ru:=r.xp (c _)
     Lm:=r.tq x λi hi e=>by rw[d i hi e];omega
     rr:=r.xn (c _)
     gs:=r.kl x (λi hi e=>by rw[d i hi e];omega) (c _) rfl λs z=>z
     nw:=r.xh x (λi hi e=>by rw[d i hi e];omega) (λi hi _=>c _ i hi rfl) rfl λs z=>z
     ob:=Y
     rb:=c _ _ I r.rb}
  .exact oD (by decide) (bE (fI (aC ⟨rfl, .inl ⟨N,rfl,o⟩⟩)))
end
section
def dO(e:iM):mS:=(e.1,e.2.1,(e.2.2.1.2.length:Int),())
def Si(len:Int):Int->List mS->Prop
 |_,[]=>True
 |at_,e::es=>at_<=e.1/\e.1<=e.2.1/\e.2.1<=len/\0<=e.2.2.1/\Si len e.2.1 es
theorem N1{len:Int}:∀{es:List iM} {at_:Int},uP len at_ es->Si len at_ (es.map dO)
 |[],_,_=>trivial
 |e::es,at_,⟨a,b,c,d⟩=>⟨a,b,c,by show(0:Int)<=(e.2.2.1.2.length:Int);omega,N1 d⟩
def AU(l:List mS):Int:=(l.map λe=>e.2.2.1-(e.2.1-e.1)).sum
theorem A3(e:mS)(l:List mS):AU (e::l)=(e.2.2.1-(e.2.1-e.1))+AU l:=by simp[AU]
theorem Gr{len:Int}:∀{l:List mS} {at_:Int},Si len at_ l->at_<=len->at_<=len+AU l
 |[],at_,_,h=>by simp[AU];exact h
 |e::l,at_,⟨a,b,c,d,f⟩,h=>by
  have:=Gr f c;rw[A3];omega
theorem Si.mb{len:Int}(j:len<=2199023255552):∀{l:List mS} {at_:Int},Si len at_ l->0<=at_->(∀e∈l,e.2.2.1<=2199023255552)->∀e∈l,0<=e.1/\e.1<=e.2.1/\e.2.1<=2199023255552/\0<=e.2.2.1/\e.2.2.1<=2199023255552
 |[],_,_,_,_=>λe he=>by cases he
 |x::l,at_,⟨a,b,c,d,f⟩,h0,g=>λe he=>by
  rcases eH.1 he with rfl|he
  .exact⟨by omega,b,by omega,d,g _ (eO ..)⟩
  .exact Si.mb j f (by omega) (λy o=>g y (eK _ o)) e he
theorem Py{len:Int}:∀{l:List mS} {at_ m:Int},Si len at_ l->m<at_->qU m l=(m,true)
 |[],_,_,_,_=>rfl
 |e::l,at_,m,⟨a,b,c,d,f⟩,h=>by
  have g:=Py (m:=m) f (by omega);show LY e (qU m l)=_;rw[g];unfold LY;rw[if_pos (show m<e.1 by omega)]
theorem Nm{len:Int}:∀{l:List mS} {at_ m:Int},Si len at_ l->at_<=m->m<=len->at_<=(qU m l).1/\(qU m l).1<=len+AU l
 |[],at_,m,_,h0,g=>by simp[qU,AU];omega
 |e::l,at_,m,⟨a,b,c,d,f⟩,h0,g=>by
  have p:=Gr f c;rw[A3];have j:qU m (e::l)=LY e (qU m l):=rfl;rw[j];by_cases hm:m<e.2.1
  .rw[Py f hm]
   unfold LY;dsimp only;split
   .dsimp only;omega
   .rw[if_neg (by omega)]
    dsimp only;omega
  .have o:=Nm (m:=m) f (by omega) g
   unfold LY;rw[if_neg (by omega),if_pos o.1];dsimp only;omega
theorem We{len:Int}:∀{l:List mS} {at_ sh:Int},Si len at_ l->Si (len+sh+AU l) (at_+sh) (qA sh l)
 |[],_,_,_=>trivial
 |e::l,at_,sh,⟨a,b,c,d,f⟩=>by
  have g:=We (sh:=sh+(e.2.2.1-(e.2.1-e.1))) f;have p:=Gr f c;rw[A3];have j:len+sh+(e.2.2.1-(e.2.1-e.1)+AU l)=len+(sh+(e.2.2.1-(e.2.1-e.1)))+AU l:=by omega
  have o:e.2.1+(sh+(e.2.2.1-(e.2.1-e.1)))=e.1+sh+e.2.2.1:=by omega
  rw[j];rw[o]at g;refine⟨?_,?_,?_,?_,g⟩
  .show at_+sh<=e.1+sh;omega
  .show e.1+sh<=e.1+sh+e.2.2.1;omega
  .show e.1+sh+e.2.2.1<=_;omega
  .show 0<=e.2.1-e.1;omega
theorem Oi:∀{l:List mS} {sh:Int},AU (qA sh l) = - AU l
 |[],_=>rfl
 |e::l,sh=>by
  have b:=Oi (l:=l) (sh:=sh+(e.2.2.1-(e.2.1-e.1)));show AU ((e.1+sh,e.1+sh+e.2.2.1,e.2.1-e.1,())::qA _ l)=_;rw[A3,A3,b];dsimp only;omega
end
section
theorem MK{E:List El}:∀{es:List iM} {at_:Int},uP E.length at_ es->0<=at_->((iY E es).length:Int)=E.length+AU (es.map dO)
 |[],_,_,_=>by simp[iY,AU]
 |e::es,at_,⟨a,b,c,d⟩,h0=>by
  have j:=MK (E:=E) d (by omega);have lo:=Gr (N1 d) c;rw[qE,fS,A3];have g:(DW (iY E es) e).length=min e.1.toNat (iY E es).length+e.2.2.1.2.length+((iY E es).length-e.2.1.toNat):=by simp[DW];omega
  rw[g];simp only[dO];omega
end
section
end
section
variable{P:Program}{S:cH}{h:aG}{Q:Nat->bG->aG->Prop}{n k:Nat}{rho:Nat->Nat}{X:Bk}
def oZ(e:iM):Bool:=decide (e.1<e.2.1) || decide (0<e.2.2.1.2.length)
theorem ji{b:Addr}{vs:bG}{o:KK}{x:GP}{K:Sl->aK}(ob:cA n 1 h ⟨some b,10,10⟩ vs)(c:vs[6]?=some (.pointer (some o.o)))(oo:cA n 1 h ⟨some o.o,10,10⟩ (BK o))(al:o.o.block≠b.block)
  (w:∀h',aV (λi=>i=o.o.block) h h'->(Sh.list jT).ok h' x) (hlen:x.2.length<=131072)
  (z:∀h' r,aV (λi=>i=o.o.block) h h'->JZ h.size h' r (x.2.map dO)->cA n 1 h' ⟨some o.o,10,10⟩ (BK {o with ch:=o.ch || x.2.any oZ})->(∀a,r.aD=some a->a.block=h.size)->wp P (K r) h' Q) :
  wp P (.mk 24 [aH 0,aH 0,aH 0] (aQ x.1.len) (aQ x.1.len) λ(J:Sl)=>.bind (.loop [tI] ((0:Int),()) λ(r:Int×Unit)=>aR (fH r.1 (aQ x.1.len))
   (.bind (bF (bN (aJ x.1.aD) (eV r.1 x.1.len))<|.load (.agg [.int .i64, .int .i64, .sl]) (aB x.1.aD (aZ (bQ r.1) 3)) λ(q:Int×Int×Sl×Unit)=>
    .alloc [aH 0,aH 0, .slice none 0 0] λa=>.store (some a) [aH q.1,aH q.2.1,dN q.2.2.1]<|
    .load (tI) (aB (some a) 0) λ(n1:Int)=>.load (tI) (aB (some a) 1) λ(n2:Int)=>.load (tS) (aB (some a) 2) λ(I:Sl)=>
    bF (bN (aJ J.aD) (eV r.1 J.len))<|.store (aB J.aD (aZ (bQ r.1) 3)) [aH n1,aH n2,aH (aQ I.len)]<|
    .bind (.load (tI) (aB (some a) 0) λ(n3:Int)=>.load (tI) (aB (some a) 1) λ(n4:Int)=>aR (fH n3 n4) (.ret 0 [.bool true])<|
     .load (tS) (aB (some a) 2) λ(l3:Sl)=>.ret 0 [.bool (sP (aQ l3.len) 0)]) λk1 a3=>aR (jL k1 0) (.cast [tB] a3 λ(r2:Bool×Unit)=>aR r2.1
      (bF (aJ (some b))<|bF (aJ (some b))<|.load (tP) (aB (some b) 6) λ(p:OA)=>bF (aJ p)<|bF (aJ p)<|.store (aB p 9) [.bool true]<|.ret 0 [])<|.ret 0 []) .fail)
    λk2 a4=>aR (jL k2 0) (.cast [] a4 λ_=>.ret 0 [aH (aT .i64 r.1 1)]) .fail)<|.ret 2 []) λk3 a5=>aR (jL k3 2) (.cast [] a5 λ_=>K J) .fail) h Q:=by
 have aw:=(w h (aV.refl _ _)).len;have hn:aQ x.1.len=(x.2.length:Int):=by rw[aN,aw]
 rw[hn];refine lu hlen λh1 r e1 z1 rb o1=>?_;have ao:o.o.block<h.size:=(oo.lt rfl).2;refine bL (λ(s:Int×Unit) h'=>aV (λi=>i=o.o.block) h h'/\h.size<h'.size/\∃i:Nat,s.1=i/\i<=x.2.length/\JZ h.size h' r ((x.2.take i).map dO++List.replicate (x.2.length-i) (0,0,0,()))/\cA n 1 h' ⟨some o.o,10,10⟩ (BK {o with ch:=o.ch || (x.2.take i).any oZ}))
  (λs _=>((x.2.length:Int)-s.1).toNat)
  (λt vs h'=>t=2/\vs=[]/\aV (λi=>i=o.o.block) h h'/\JZ h.size h' r (x.2.map dO)/\cA n 1 h' ⟨some o.o,10,10⟩ (BK {o with ch:=o.ch || x.2.any oZ}))
  ⟨aV.bD e1,by omega,0,rfl,cN _,by simpa using o1,by simpa using (aV.bD (F:=λ_=>False) e1).own oo λ_ _ x=>x⟩ ?_ ?_
 .rintro⟨(i':Int),u⟩ A ⟨c2,z2,i,hi,a6,o2,D⟩
  dsimp only at hi⊢;subst hi;refine aE (λY=>?_) λY=>?_
  .rw[aU]at Y
   have O:i<x.2.length:=by omega
   obtain⟨e,he⟩:∃e,x.2[i]?=some e:=⟨x.2[i]'O,cL O⟩;have g:=w A c2;have hle:=(g.el he).2.2.1.len;have M:cX .i64 e.1/\cX .i64 e.2.1:=⟨(g.el he).1,(g.el he).2.1⟩;have C:x.2.take (i+1)=x.2.take i++[e]:=by rw[eN,he];rfl
   have fin:∀c,aV (λi=>i=o.o.block) h c->h.size<c.size->JZ h.size c r ((x.2.take (i+1)).map dO++List.replicate (x.2.length-(i+1)) (0,0,0,()))->cA n 1 c ⟨some o.o,10,10⟩ (BK {o with ch:=o.ch || (x.2.take (i+1)).any oZ}) ->
     wp P (aR (jL 0 0) (.cast [] [] λ_=>.ret 0 [aH (aT .i64 (i:Int) 1)]) .fail) c (λtag vs h'=>
      (tag=0->∃s':Int×Unit,vs=Ts.inj [tI] s'/\(aV (λi=>i=o.o.block) h h'/\h.size<h'.size/\∃i:Nat,s'.1=i/\i<=x.2.length/\JZ h.size h' r ((x.2.take i).map dO++List.replicate (x.2.length-i) (0,0,0,()))/\cA n 1 h' ⟨some o.o,10,10⟩ (BK {o with ch:=o.ch || (x.2.take i).any oZ}))/\((x.2.length:Int)-s'.1).toNat<((x.2.length:Int)-(i:Int)).toNat) /\
      (tag≠0->tag=2/\vs=[]/\aV (λi=>i=o.o.block) h h'/\JZ h.size h' r (x.2.map dO)/\cA n 1 h' ⟨some o.o,10,10⟩ (BK {o with ch:=o.ch || x.2.any oZ}))):=by
    intro c c6 z6 m6 w6;refine bE (bO ?_);rw[aX (by omega) (by omega)];exact aC ⟨λ_=>⟨((i:Int)+1,()),rfl,⟨c6,z6,i+1,by simp,by omega,m6,w6⟩,by dsimp only;omega⟩,λw=>absurd rfl w⟩
   refine yC (DZ g he λa h3 E ha L=>?_);have l0:∀{K:Int->aK} {Q:Nat->bG->aG->Prop} {h'},cA A.size 1 h' ⟨some a,3,3⟩ [aH e.1,aH e.2.1,dN e.2.2.1.1]->wp P (K e.1) h' Q->wp P (.load (tI) (aB (some a) 0) K) h' Q:=λq z=>bC (b:=bI) _ e.1 rfl (aI.1 q.cells 0 _ rfl) z;have l1:∀{K:Int->aK} {Q:Nat->bG->aG->Prop} {h'},cA A.size 1 h' ⟨some a,3,3⟩ [aH e.1,aH e.2.1,dN e.2.2.1.1]->wp P (K e.2.1) h' Q->wp P (.load (tI) (aB (some a) 1) K) h' Q:=λq z=>bC (b:=bI) _ e.2.1 rfl (aI.1 q.cells 1 _ rfl) z;have I:∀{K:Sl->aK} {Q:Nat->bG->aG->Prop} {h'},cA A.size 1 h' ⟨some a,3,3⟩ [aH e.1,aH e.2.1,dN e.2.2.1.1]->wp P (K e.2.2.1.1) h' Q->wp P (.load (tS) (aB (some a) 2) K) h' Q:=λq z=>bC (b:=.sl) _ e.2.2.1.1 rfl (aI.1 q.cells 2 _ rfl) z;have hq:aQ e.2.2.1.1.len=(e.2.2.1.2.length:Int):=by rw[aN,hle]
   have a9:e.2.2.1.2.length<2^63:=by have h1:=(g.el he).2.2.1.2.1;have A:=(g.el he).2.2.1.2.2.1;omega
   refine l0 L (l1 L (I L ?_));rw[hq];have N:((x.2.take i).map dO).length=i:=by rw[cE,dJ];omega
   have Z:((x.2.take i).map dO++List.replicate (x.2.length-i) ((0,0,0,()):mS)).set i (dO e)=(x.2.take (i+1)).map dO++List.replicate (x.2.length-(i+1)) (0,0,0,()):=by
    rw[Ar (h:=by omega),N,sY,show x.2.length-i=(x.2.length-(i+1))+1 by omega,JN,wU,C,dP,dW];rfl
   have c3:aV (λi=>i=o.o.block) h h3:=c2.ext E;have w3:=(aV.bD (F:=λ_=>False) E).own D λ_ _ x=>x;refine bl (dO e) (o2.ext E) (by rw[bP,N,JT];omega) ⟨M.1,M.2,by show cX .i64 (e.2.2.1.2.length:Int);rw[eS];omega⟩ λW m4 u4 z4=>?_;rw[Z]at m4;have V:aV (λi=>i=h.size) h3 W:=aV.dK u4 λy d _=>rb y d;have ba:=E.1;have o4:cA A.size 1 W ⟨some a,3,3⟩ [aH e.1,aH e.2.1,dN e.2.2.1.1]:=V.own L λy d=>by cases d;exact Nat.ne_of_gt (mK z2 ha)
   have w4:=V.own w3 λy d=>by cases d;exact Nat.ne_of_lt ao
   have c4:aV (λi=>i=o.o.block) h W:=c3.trans V λj hj e=>by omega
   refine bZ (oZ e=true) (l0 o4 (l1 o4 (aE (λH=>aC ⟨rfl,Ext.refl _,true,rfl,?_⟩) λH=>I o4 (aC ⟨rfl,Ext.refl _,_,rfl,?_⟩)))) λbb h5 G hb=>?_
   .rw[aU]at H;simp[oZ,H]
   .rw[aY]at H
    rw[hq,dL];simp[oZ];omega
   have m5:=m4.ext G;have w5:=(aV.bD (F:=λ_=>False) G).own w4 λ_ _ x=>x;have U:=c4.ext G;have bd:=G.1;dsimp only;refine aE (λht=>?_) λhf=>aC (fin h5 U (by omega) m5 ?_)
   .have a0:=U.own ob λy d e=>by cases d;exact al e.symm
    refine aL rfl (aL rfl (bC (b:=.ptr) (b.add 6) (some o.o) rfl (aI.1 a0.cells 6 _ c) (aL rfl (aL rfl (fA (.bool true) w5 (by simp[BK]) rfl λc w6 u6=>?_)))));have B:aV (λi=>i=o.o.block) h5 c:=aV.dK u6 λy d _=>by cases d;rfl
    have bo:=B.1;refine aC (fin c (U.trans B λ_ _ x=>x) (by omega) (m5.oY B λy d e=>by have:=rb y d;omega) ?_);have:BK {o with ch:=o.ch || (x.2.take (i+1)).any oZ}=(BK {o with ch:=o.ch || (x.2.take i).any oZ}).set 9 (.bool true):=by
     rw[C,Ms];simp[BK,hb.1 ht]
    rw[this];exact w6
   .have ab:oZ e=false:=by
     cases w:oZ e with
     |false=>rfl
     |true=>rw[hb.2 w]at hf;cases hf
    have:BK {o with ch:=o.ch || (x.2.take (i+1)).any oZ}=BK {o with ch:=o.ch || (x.2.take i).any oZ}:=by
     rw[C,Ms];simp[ab]
    rw[this];exact w5
  .rw[aY]at Y
   have:i=x.2.length:=by omega
   subst this;rw[fF,sY,List.replicate_zero,kQ]at o2;rw[fF]at D;exact aC ⟨λw=>absurd w (by decide),λ_=>⟨rfl,rfl,c2,o2,D⟩⟩
 .rintro t vs h' ⟨rfl,rfl,c2,o2,D⟩
  exact bE (bO (z h' r c2 o2 D rb))
end
section
variable{P:Program}{S:cH}{h:aG}{Q:Nat->bG->aG->Prop}
end
section
variable{P:Program}{S:cH}{h:aG}{Q:Nat->bG->aG->Prop}
end
section
variable{P:Program}{S:cH}{h:aG}{Q:Nat->bG->aG->Prop}
structure zw(S:cH)(h h':aG)(enc depth:Int)(l:bB)(X:Bk):Prop where
 new:ng depth X.T X
 en:X.T.enc=enc
 li:X.T.limit=60000
 kept:X.T.kept=[]
 A:X.T.A=[]
 el:iG enc X.T.cur.ps=iH 0 0 (bH enc l)
 bytes:dR X.T.cur.ps=l
 r:∃n,h.size<=n/\∀(k:Nat) (rho:Nat->Nat),∃rho',cW k h rho h' rho'/\(∀i,i<h.size->rho' i=rho i)/\cO S n h' rho' k X
end
section
variable{P:Program}{S:cH}{h:aG}{Q:Nat->bG->aG->Prop}{n k:Nat}{rho:Nat->Nat}{X:Bk}
open Classical in
theorem cO.text{h1:aG}{T':TX}(r:cO S n h rho k X)(c:aV (rS X.T) h h1)(t:eP S n h1 T')(nx:MC X.T T' h.size) :
  ∃rho',cW k h rho h1 rho'/\(∀i,i<h.size->rho' i=rho i)/\cO S n h1 rho' k {X with T:=T'}:=by
 have o:∀i,i<h.size->rS X.T i->rho i=k+8:=λi _ hi=>r.rt i (JB r.t hi)
 let rho':Nat->Nat:=λi=>if i<h.size then rho i else if T'.Z i then k+8 else 0
 have hold:∀i,i<h.size->rho' i=rho i:=λi hi=>if_pos hi;have d:∀j i,i<h.size->rho i=j->rho' i=j:=λj i hi e=>by rw[hold i hi];exact e
 refine⟨rho',⟨c.mono λi hi g=>by rw[o i hi g];omega,λi hi _=>hold i hi,λi hi w=>?_⟩,hold,?_⟩
 .by_cases u:i<h.size
  .rw[hold i u];rcases w with w|w
   .omega
   .exact .inr w
  .show(if _ then _ else _)=0\/_<(if _ then _ else _)/\(if _ then _ else _)<=_
   rw[if_neg u];split
   .exact .inr (by omega)
   .exact .inl rfl
 .exact{
   t:=t
   rt:=λi y=>by
    by_cases u:i<h.size
    .rcases nx.zn i y with h1|h1
     .exact d _ i u (r.rt i h1)
     .omega
    .show(if _ then _ else _)=_
     rw[if_neg u,if_pos y]
   mp:=r.kx c λi hi g=>by rw[o i hi g];omega
   rm:=r.tw (d _)
   ow:=r.lj c λi hi g=>by rw[o i hi g];omega
   EO:=r.vc (d _)
   ou:=r.lg c λi hi g=>by rw[o i hi g];omega
   ru:=r.xp (d _)
   Lm:=r.tq c λi hi g=>by rw[o i hi g];omega
   rr:=r.xn (d _)
   gs:=r.kl c (λi hi g=>by rw[o i hi g];omega) (d _) nx.p λs x=>by rw[nx.kept];exact x
   nw:=r.xh c (λi hi g=>by rw[o i hi g];omega) (λi hi _=>hold i hi) nx.p λs x=>by rw[nx.kept];exact x
   ob:=by
    have:=r.z_ c λi hi g=>by rw[o i hi g];omega
    have e:oW {X with T:=T'}=oW X:=by simp[oW,nx.p]
    show cA n 1 h1 ⟨some X.b,10,10⟩ (oW {X with T:=T'});rw[e];exact this
   rb:=d _ _ (r.ob.lt rfl).2 r.rb}
abbrev yd(o:KK)(q:Sl)(m:Yn)(ch:Bool):KK:={o with mv:=(q,o.mv.2++[m]),ch:=ch}
abbrev chB(X:Bk)(o:KK)(T':TX)(q:Sl)(m:Yn)(ch:Bool):Bk:={X with T:=T',ms:=BG m.2 X.ms,ws:=lM m.2 X.ws,now:=some (yd o q m ch)}
structure yi(S:cH)(n k:Nat)(X:Bk)(o:KK)(es:List iM)(h:aG)(rho:Nat->Nat)(h':aG)(rho':Nat->Nat)(e:Int)(X':Bk):Prop where
 st:cW k h rho h' rho'
 r:cO S n h' rho' k X'
 ref:Lu X.T.enc X.T.limit (cQ X.T.enc X.T.cur.ps) es e
 nx:MC X.T X'.T h.size
 iG:iG X.T.enc X'.T.cur.ps=if e=0 then iY (iG X.T.enc X.T.cur.ps) es else iG X.T.enc X.T.cur.ps
 len:X'.T.A.length<=X.T.A.length+4*(aW es).length
 no:e≠0->X'={X with T:=X'.T}
 yes:e=0->∃q l,X'=chB X o X'.T q (l,es.map dO) (o.ch || es.any oZ)
theorem ss{len:Int}{es:List iM}(b:len<=2199023255552)(c:uP len 0 es)(hm:es.length<=70000)(o:(aW es).length<=200000000000):Ls (es.map dO):=by
 refine⟨by rw[cE];omega,Si.mb b (N1 c) (kR _) λe he=>?_⟩;obtain⟨x,d,rfl⟩:=dA.1 he;have:x.2.2.1.2.length<=(aW es).length:=by
  obtain⟨i,hi⟩:=List.mem_iff_getElem?.1 d;have g:=N5 hi;have j:=Jm es i;omega
 show(x.2.2.1.2.length:Int)<=_;omega
theorem Jj{n m size:Nat}{h:aG}{s:Sl}{vs:bG}(hm:n<=m)(b:cA m size h s vs):cA n size h s vs:=cA.mono b hm
theorem OJ{x:Sl}(r:cO S n h rho k X)(d:X.now=none):wp P (kD S (some X.b) x) h λtg vs h'=>tg=0/\vs=[aH 71]/\h'=h:=by
 unfold kD;exact r.rd (b:=.ptr) none (by simp[oW,d,B.inj]) (aE (λ_=>aC ⟨rfl,rfl,rfl⟩) λc=>by cases c)
open Classical in
theorem WZ(M:kB P S){o:KK}{x:GP}(r:cO S n h rho k X)(hn:X.now=some o)(ba:∀h',aV (λi=>k<rho i/\rho i<=k+10) h h'->(Sh.list jT).ok h' x)
  (hz:∀e,e∈x.2->e.2.2.1.2≠[]->∀a,e.2.2.1.1.aD=some a->rho a.block<=k\/k+10<rho a.block)
  (hA:X.T.A.length+4*(aW x.2).length<=400000000000) (b9:(dR X.T.cur.ps).length<=X.T.limit) (hlen:(iG X.T.enc X.T.cur.ps).length<=65536)
  (b2:∀e∈X.ms,0<=e.2.1/\e.2.1<=2199023255552) (cf:∀v∈X.ws,v<=2199023255552) (dr:o.mv.2.length<=1099511627776) :
  wp P (kD S (some X.b) x.1) h λtg vs h'=>tg=0/\∃e rho' X',vs=[aH e]/\yi S n k X o x.2 h rho h' rho' e X':=by
 unfold kD;have b3:n<=h.size:=dI (r.ob.lt rfl).1 (rV (r.ob.lt rfl).2);have Z:(oW X)[6]?=some (.pointer (some o.o)):=by simp[oW,hn]
 have cd:∀i,i<h.size->rS X.T i->rho i=k+8:=λi _ hi=>r.rt i (JB r.t hi);refine r.rd (b:=.ptr) (some o.o) Z (aE (λV=>by cases V) λ_=>r.rd (b:=.ptr) (some X.T.p) rfl ?_);refine eG (YI M r.t b3 (λh' c=>ba h' (c.mono λi hi C=>by rw[cd i hi C];omega)) (λe he W a ha cg=>by have w:=hz e he W a ha;have z:=r.rt _ cg;omega) hA b9) λtg vs w hx=>?_;obtain⟨rfl,c1,e,T',rfl,R⟩:=hx;refine⟨rfl,(e,()),rfl,?_⟩;obtain⟨D,a4,b0,E⟩:=r.text c1 R.t R.nx;refine aE (λV=>?_) λV=>?_
 .rw[kH]at V
  exact aC ⟨rfl,e,D,{X with T:=T'},rfl,a4,E,R.ref,R.nx,R.iG,R.len,λ_=>rfl,λh0=>absurd h0 V⟩
 rw[lQ]at V;dsimp only at V;subst V;have g:=E.nw o hn;have al:uP (iG X.T.enc X.T.cur.ps).length 0 x.2/\x.2.length<=70000:=by
  have hl:(cQ X.T.enc X.T.cur.ps).length=(iG X.T.enc X.T.cur.ps).length:=(yU ..).symm;cases R.ref with
  |ok a b c d=>rw[hl]at b;exact⟨b,a⟩
 have a9:Ls (x.2.map dO):=ss (by omega) al.1 al.2 (by omega);have a5:∀i,i<h.size->(k<D i/\D i<=k+10)->k<rho i/\rho i<=k+10:=λi hi hr=>by rw[b0 i hi]at hr;exact hr
 have bt:∀h',aV (λi=>k<D i/\D i<=k+10) w h'->(Sh.list jT).ok h' x:=λh' c=>ba h' (a4.c.trans c a5);have b6:o.o.block<w.size:=(g.ob.lt rfl).2;have W:o.o.block≠X.b.block:=λe=>by have w:=g.ro;have z:=E.rb;rw[e]at w;have z:D X.b.block=k+1:=z;omega
 refine ji E.ob (by simp[oW,hn]) g.ob W (λh' c=>bt h' (c.mono λi hi e=>by subst e;rw[g.ro];omega)) (by omega) λz l c2 m2 bd ao=>?_;have aw:cA n 1 z ⟨some X.b,10,10⟩ (oW X):=by
  have e:oW {X with T:=T'}=oW X:=by simp[oW,R.nx.p]
  have:=c2.own E.ob λa ha e=>by cases ha;exact W e.symm
  rw[e]at this;exact this
 have bs:∀{h':aG} {b:B} {i:Nat} (y:b.den) {K:b.den->aK} {Q:Nat->bG->aG->Prop},cA n 1 h' ⟨some X.b,10,10⟩ (oW X)->(oW X)[i]?=some (b.inj y)->wp P (K y) h' Q->wp P (bF (aJ (some X.b))<|bF (aJ (some X.b))<|.load (.one b) (aB (some X.b) i) K) h' Q:=
  @λh' b i y K Q ob hv hk=>aL rfl (aL rfl (bC (b:=b) (X.b.add i) y rfl (aI.1 ob.cells _ _ hv) hk))
 have c8:∀j,aB (aB (some o.o) 0) j=aB (some o.o) j:=λj=>by rw[pM,add_zero']
 refine bs (b:=.ptr) (some o.o) aw Z (bs (b:=.ptr) (some o.o) aw Z (aL rfl (aL rfl (aL rfl ?_))));simp only[c8];refine bC (b:=.sl) (o.o.add 4) o.mv.1 rfl (aI.1 bd.cells 4 _ rfl) ?_;refine λelem=>?_;have e3:Ext z (z.push (.cells [dN l].toArray elem)):=Ext.push ..;have bp:Rd 1 (z.push (.cells [dN l].toArray elem)) ⟨some ⟨z.size,0,none⟩,1,1⟩ [dN l]:=mI rfl;generalize z.push (.cells [dN l].toArray elem)=h3 at e3 bp⊢;have X3:∀{n size:Nat} {s:Sl} {vs:bG},cA n size z s vs->cA n size h3 s vs:=λho=>(aV.bD (F:=λ_=>False) e3).own ho λ_ _ x=>x;have a0:=X3 aw;have bo:=X3 bd;refine sR (aI.1 bo.cells 4 _ rfl) (sR (aI.1 a0.cells 6 _ Z) (sR (aI.1 a0.cells 6 _ Z) ?_));have a3:cA n 1 z o.mv.1 (o.mv.2.map λx=>dN x.1):=c2.own g.mv.own λa ha e=>by have w:=g.mv.role a ha;have z:=g.ro;rw[e,z]at w;omega
 have de:o.mv.1.len=o.mv.2.length:=by have:=a3.1;simpa using this
 have ds:=c1.1;have dx:=c2.1;have ec:=e3.1;refine iQ (X3 a3) (by omega) bp (by intro v hv;rw[dE.1 hv];rfl) rfl (by dsimp only;omega) (by dsimp only;omega) λq h4 o4 l4 u4 b4 _=>?_;have c4:aV (λi=>∃a,o.mv.1.aD=some a/\a.block=i) h3 h4:=aV.dK u4 λa ha _=>⟨a,ha,rfl⟩;have L:∀a,o.mv.1.aD=some a->a.block<w.size/\D a.block=k+7:=λa ha=>⟨(g.mv.own.lt ha).2,g.mv.role a ha⟩;have bb:=c4.own a0 λa ha ⟨y,J,e⟩=>by cases ha;have w:=(L y J).2;have z:=E.rb;rw[e]at w;have z:D X.b.block=k+1:=z;omega
 have ct:=c4.own bo λa ha ⟨y,J,e⟩=>by cases ha;have w:=(L y J).2;have z:=g.ro;rw[e]at w;omega
 refine sR (aI.1 bb.cells 6 _ Z) (aL rfl (aL rfl (aL rfl ?_)));refine fA (dN q) ct (by simp[BK]) rfl λO cx u5=>?_;have c5:aV (λi=>i=o.o.block) h4 O:=aV.dK u5 λa ha _=>by cases ha;rfl
 have eg:=c4.1;have eh:=c5.1
 let F:Nat->Prop:=λi=>i=o.o.block\/∃a,o.mv.1.aD=some a/\a.block=i
 have H:aV F w O:=(((c2.mono (G:=F) λi _ x=>.inl x).ext e3).trans (c4.mono (G:=F) λi _ x=>.inr x) λ_ _ x=>x).trans (c5.mono (G:=F) λi _ x=>.inl x) λ_ _ x=>x;have N:∀i,i<w.size->F i->D i=k+6\/D i=k+7:=λi hi C=>by
  rcases C with rfl|⟨a,ha,rfl⟩
  .exact .inl g.ro
  .exact .inr (L a ha).2
 let I:Nat->Nat:=λi=>if i<w.size then D i else if (∃a,q.aD=some a/\a.block=i) then k+7 else 0
 have hold:∀i,i<w.size->I i=D i:=λi hi=>if_pos hi;have u:∀j i,i<w.size->D i=j->I i=j:=λj i hi e=>by rw[hold i hi];exact e
 have b8:∀a,q.aD=some a->I a.block=k+7:=λa ha=>by
  rcases b4 a ha with hb|hb
  .exact u _ _ (L a hb).1 (L a hb).2
  .show(if _ then _ else _)=_
   rw[if_neg (by omega),if_pos ⟨a,ha,rfl⟩]
 have a6:∀a,l.aD=some a->I a.block=0:=λa ha=>by
  have hb:=ao a ha;have df:w.size<z.size:=by rw[<-hb];exact(m2.own.lt ha).2
  show(if _ then _ else _)=0;rw[if_neg (by omega),if_neg];rintro⟨y,J,e⟩;rcases b4 y J with h|h
  .have:=(L y h).1;omega
  .omega
 have c9:cW k w D O I:=⟨H.mono λi hi C=>by have:=N i hi C;omega,λi hi _=>hold i hi,λi hi U=>by
  by_cases ab:i<w.size
  .rw[hold i ab];rcases U with U|U
   .omega
   .exact .inr U
  .show(if _ then _ else _)=0\/_<(if _ then _ else _)/\(if _ then _ else _)<=_
   rw[if_neg ab];split
   .exact .inr (by omega)
   .exact .inl rfl⟩
 have m5:JZ w.size O l (x.2.map dO):=by
  refine((m2.ext e3).oY c4 λa ha ⟨y,J,e⟩=>?_).oY c5 λa ha e=>?_
  .have:=ao a ha;have:=(L y J).1;omega
  .have:=ao a ha;omega
 have cr:JZ n O l (x.2.map dO):=⟨Jj (by omega) m5.own,m5.fit⟩
 let Y:KK:=yd o q (l,x.2.map dO) (o.ch || x.2.any oZ)
 have c7:Us n O I k T' Y:={
  ob:=by
   have e:BK Y=(BK {o with ch:=o.ch || x.2.any oZ}).set 4 (dN q):=by simp[BK,Y,yd]
   rw[e];exact cx
  ro:=u _ _ b6 g.ro
  sn:=H.own g.sn λa ha C=>by cases ha;have w:=N _ (g.sn.lt rfl).2 C;have z:=g.rs;omega
  ks:=g.ks
  rs:=u _ _ (g.sn.lt rfl).2 g.rs
  mv:={
   own:=by
    have:=c5.own o4 λa ha e=>by
     rcases b4 a ha with hb|hb
     .have w:=(L a hb).2;have z:=g.ro;rw[e,z]at w;omega
     .omega
    show cA n 1 O q ((o.mv.2++[(l,x.2.map dO)]).map λx=>dN x.1);rw[dP];exact this
   role:=b8
   each:=λy J=>by
    rcases dH.1 J with J|J
    .obtain⟨y1,y2,y3⟩:=g.mv.each y J
     exact⟨y1.oY H λa ha C=>by have w:=N _ (y1.own.lt ha).2 C;have z:=y2 a ha;omega,λa ha=>u _ _ (y1.own.lt ha).2 (y2 a ha),y3⟩
    .rw[dE.1 J]
     exact⟨cr,a6,a9⟩}
  mp:=g.mp.oY H λC=>by have w:=N _ g.mp.lt C;have z:=g.rm;omega
  rm:=u _ _ g.mp.lt g.rm
  ow:=H.qH g.ow λa ha C=>by have w:=N _ (g.ow.own.lt ha).2 C;have z:=g.EO a ha;omega
  EO:=λa ha=>u _ _ (g.ow.own.lt ha).2 (g.EO a ha)}
 have r5:cO S n O I k {X with T:=T',now:=some Y}:={
  t:=E.tK H λi hi C=>by have:=N i hi C;omega
  rt:=E.vb (u _)
  mp:=E.kx H λi hi C=>by have:=N i hi C;omega
  rm:=E.tw (u _)
  ow:=E.lj H λi hi C=>by have:=N i hi C;omega
  EO:=E.vc (u _)
  ou:=E.lg H λi hi C=>by have:=N i hi C;omega
  ru:=E.xp (u _)
  Lm:=E.tq H λi hi C=>by have:=N i hi C;omega
  rr:=E.xn (u _)
  gs:=E.kl H (λi hi C=>by have:=N i hi C;omega) (u _) rfl λs hs=>hs
  nw:=λo1 ho=>by cases ho;exact c7
  ob:=by
   have e:oW {X with T:=T',now:=some Y}=oW X:=by simp[oW,hn,R.nx.p,Y,yd]
   show cA n 1 O ⟨some X.b,10,10⟩ (oW {X with T:=T',now:=some Y});rw[e];exact c5.own bb λa ha e=>by cases ha;exact W e.symm
  rb:=u _ _ (E.ob.lt rfl).2 E.rb}
 refine eG (Pp (X:={X with T:=T',now:=some Y}) (x:=(l,x.2.map dO)) r5 m5.ok (λh' c=>(m5.oY c λa ha C=>?_).ok) a9 b2 cf) λtg vs h6 hx=>?_
 .have w:=a6 a ha
  rcases C with e|⟨y,J,e⟩
  .have z:=r5.rm;rw[e]at w;rw[w]at z;omega
  .have z:=r5.EO y J;rw[e,w]at z;omega
 obtain⟨rfl,b1,y,rfl,r6⟩:=hx;refine⟨rfl,(),rfl,aC ⟨rfl,0,I,_,rfl,?_,r6,R.ref,R.nx,R.iG,R.len,λh0=>absurd rfl h0,λ_=>⟨q,l,rfl⟩⟩⟩;refine(a4.trans c9).trans ⟨b1.mono λi hi C=>?_,λ_ _ _=>rfl,λi hi U=>?_⟩
 .rcases C with rfl|⟨a,ha,rfl⟩
  .have:=r5.rm;rw[this];omega
  .have:=r5.EO a ha;rw[this];omega
 .by_cases ab:i<O.size
  .rcases U with U|U
   .omega
   .exact .inr U
  .left
   show(if _ then _ else _)=0;rw[if_neg (by omega),if_neg];rintro⟨a,ha,e⟩;have:=(o4.lt ha).2;omega
end
section
variable{P:Program}{S:cH}{h:aG}{Q:Nat->bG->aG->Prop}{n k:Nat}{rho:Nat->Nat}{X:Bk}
variable{i:Nat}
def zr(h:aG)(rho:Nat->Nat):Nat->Nat:=λi=>if i<h.size then rho i else 0
theorem sZ(hi:i<h.size):zr h rho i=rho i:=if_pos hi
theorem qJ(hi:h.size<=i):zr h rho i=0:=if_neg (by omega)
theorem cW.nH{h':aG}(e:Ext h h'):cW k h rho h' (zr h rho):=⟨aV.bD e,λi hi _=>sZ hi,λi hi b=>by
 by_cases c:i<h.size
 .rw[sZ c];rcases b with b|b
  .omega
  .exact .inr b
 .exact .inl (qJ (by omega))⟩
theorem cO.zr{h':aG}(r:cO S n h rho k X)(e:Ext h h'):cO S n h' (zr h rho) k X:=
 r.other (aV.bD (F:=λ_=>False) e) (λ_ _ x=>x.elim) λi hi _=>sZ hi
theorem W0{at_:Int}(r:cO S n h rho k X)(d:X.now=none):wp P (uG S (some X.b) at_) h λtg vs h'=>tg=0/\vs=[aH 71]/\h'=h:=by
 unfold uG;exact r.rd (b:=.ptr) none (by simp[oW,d,B.inj]) (aE (λ_=>aC ⟨rfl,rfl,rfl⟩) λc=>by cases c)
def TM(X:Bk)(g:HY):List HY:=if X.depth<(X.U.2.length:Int)+1 then (X.U.2++[g]).drop 1 else X.U.2++[g]
abbrev h_(X:Bk)(g:HY)(q:Sl):Bk:={X with T:=Tg X.T,U:=(q,TM X g),R:=(⟨none,0,0⟩,[]),now:=none,state:=X.last+1,last:=X.last+1}
structure vf(X:Bk)(o:KK)(at_:Int)(g:HY):Prop where
 sb:g.sb=o.sb
 sh:g.sh=X.T.cur
 bg:g.bg=o.bg
 en:g.en=at_
 mv:g.mv=o.mv
 old:g.old=o.old
 fresh:g.fresh=X.last+1
structure yk(X:Bk)(o:KK)(at_:Int)(X':Bk):Prop where
 no:o.ch=false->X'={X with now:=none}
 yes:o.ch=true->∃g q,vf X o at_ g/\X'=h_ X g q
theorem jh{o:KK}{bs:List B}(x:Bs.den bs){K:Bs.den bs->aK}(g:cA n 1 h ⟨some o.o,10,10⟩ (BK o))(d:Bs.inj bs x=(BK o).take 7)(c:wp P (K x) h Q):wp P (.load (.agg bs) (aB (some o.o) 0) K) h Q:=by
 refine⟨o.o.add 0,rfl,x,aI.2 λj v b=>?_,c⟩;rw[add_zero'];have b:(Bs.inj bs x)[j]?=some v:=b;rw[d,F3]at b;split at b
 .exact aI.1 g.cells j v b
 .cases b
open Classical in
theorem vn(C:WT P S){o:KK}{at_:Int}(r:cO S n h rho k X)(hn:X.now=some o)(kz:0<=X.last)(k0:X.last<=4611686018427387904)(hU:X.U.2.length<=1099511627776) :
  wp P (uG S (some X.b) at_) h λtg vs h'=>tg=0/\((¬qQ X at_/\vs=[aH 2]/\Ext h h')\/(qQ X at_/\vs=[aH 0]/\∃rho' X',cW k h rho h' rho'/\cO S n h' rho' k X'/\yk X o at_ X')):=by
 unfold uG;have ro:=r.nw o hn;have g4:X.b.block<h.size:=(r.ob.lt rfl).2;have k3:n<=h.size:=dI (r.ob.lt rfl).1 (rV g4);have c6:(oW X)[6]?=some (.pointer (some o.o)):=by simp[oW,hn]
 have g6:o.o.block≠X.b.block:=λe=>by have w:=ro.ro;have d:=r.rb;rw[e]at w;omega
 refine r.rd (b:=.ptr) (some o.o) c6 (aE (λM=>by cases M) λ_=>?_);refine aM (Ik (at_:=at_) r.ob rfl r.t) λ⟨(b1:Bool),_⟩ w e1 hb=>aE (λM=>aC ⟨rfl, .inl ⟨λY=>?_,rfl,e1⟩⟩) λM=>?_
 .rw[dF]at M
  have:=hb.2 Y;dsimp only at this M;rw[this]at M;cases M
 rw[eC]at M;have df:qQ X at_:=hb.1 M;have k4:=e1.1;have c5:=cW.nH (k:=k) (rho:=rho) e1;have dx:∀i,w.size<=i->Hist.zr h rho i=0:=λi hi=>qJ (by omega);have z:=r.zr e1;generalize Hist.zr h rho=D at c5 dx z;clear r ro;have ro:=z.nw o hn;have b3:=z.rb;have ey:X.b.block<w.size:=(z.ob.lt rfl).2;refine TZ (z.rd (b:=.ptr) (some o.o) c6 (aL rfl (aL rfl (bC (b:=.bool) (o.o.add 9) o.ch rfl (aI.1 ro.ob.cells 9 _ rfl) ?_))));refine aE (λM=>?_) λM=>?_
 .rw[dF]at M
  refine aC (Vm C z.ob λd b2 c2=>⟨rfl, .inr ⟨df,rfl,D,{X with now:=none},?_,?_,⟨λ_=>rfl,λY=>by rw[M]at Y;cases Y⟩⟩⟩)
  .exact c5.trans (cW.of c2 (λi hi e=>by rw[e,b3];omega) λi g5 ku=>dx i g5)
  .exact{
    t:=z.tK c2 λi hi e=>by rw[e];omega
    rt:=z.rt
    mp:=z.kx c2 λi hi e=>by rw[e];omega
    rm:=z.rm
    ow:=z.lj c2 λi hi e=>by rw[e];omega
    EO:=z.EO
    ou:=z.lg c2 λi hi e=>by rw[e];omega
    ru:=z.ru
    Lm:=z.tq c2 λi hi e=>by rw[e];omega
    rr:=z.rr
    gs:=z.kl c2 (λi hi e=>by rw[e];omega) (λ_ _ h=>h) rfl λs hs=>hs
    nw:=λo' cf=>by cases cf
    ob:=by
     have e:oW {X with now:=none}=(oW X).set 6 (.pointer none):=by simp[oW]
     show cA n 1 d ⟨some X.b,10,10⟩ (oW {X with now:=none});rw[e];exact b2
    rb:=b3}
 rw[eC]at M;refine z.rd (b:=bI) X.last rfl (aL rfl (aL rfl ?_));rw[aX (by omega) (by omega)];refine fA (aH (X.last+1)) z.ob (by simp[oW]) rfl λd b2 u2=>?_;have c2:aV (λi=>i=X.b.block) w d:=aV.dK u2 λa ha _=>by cases ha;rfl
 have js:=c2.own ro.ob λa ha e=>by cases ha;exact g6 e
 have W:∀{h':aG} {vs:bG} {b:B} {i:Nat} (y:b.den) {K:b.den->aK} {Q:Nat->bG->aG->Prop},cA n 1 h' ⟨some X.b,10,10⟩ vs->vs[i]?=some (b.inj y)->wp P (K y) h' Q->wp P (bF (aJ (some X.b))<|bF (aJ (some X.b))<|.load (.one b) (aB (some X.b) i) K) h' Q:=
  @λh' vs b i y K Q ob hv hk=>aL rfl (aL rfl (bC (b:=b) (X.b.add i) y rfl (aI.1 ob.cells _ _ hv) hk))
 have g8:=c2.1;refine W (b:=.ptr) (some o.o) b2 (by simp[oW,hn,B.inj]) (aL rfl (aL rfl (jh (some o.VN,none,o.bg,0,o.mv.1,o.old,0,()) js rfl ?_)));dsimp only;refine λelem=>?_;have e3:Ext d (d.push (.cells [.pointer none, .pointer none,aH 0,aH 0, .slice none 0 0,aH 0,aH 0].toArray elem)):=Ext.push ..;have ct:cA d.size 1 (d.push (.cells [.pointer none, .pointer none,aH 0,aH 0, .slice none 0 0,aH 0,aH 0].toArray elem)) ⟨some ⟨d.size,0,none⟩,7,7⟩ [.pointer none, .pointer none,aH 0,aH 0, .slice none 0 0,aH 0,aH 0]:=bR rfl (by decide) (by decide);generalize d.push (.cells [.pointer none, .pointer none,aH 0,aH 0, .slice none 0 0,aH 0,aH 0].toArray elem)=h3 at e3 ct⊢;have k5:d.size<h3.size:=(ct.lt rfl).2;refine Ak [.pointer (some o.VN), .pointer none,aH o.bg,aH 0,dN o.mv.1,aH o.old,aH 0] ct rfl (by intro v hv;simp only[eH,lG,or_false]at hv;rcases hv with rfl|rfl|rfl|rfl|rfl|rfl|rfl<;>rfl) λh4 ih u4 z4=>?_
 let F:Nat->Prop:=λi=>i=X.b.block\/∃a,X.U.1.aD=some a/\a.block=i
 have c9:aV (λi=>i=X.b.block) w h4:=(c2.ext e3).Hg u4 λx Y bt=>by cases Y;exact absurd bt (by dsimp only;omega)
 have ej:aV (λi=>i=d.size) d h4:=(aV.bD e3).Hg u4 λx Y _=>by cases Y;rfl
 have cr:=ej.own b2 λa ha e=>by cases ha;omega
 have t4:eP S n h4 X.T:=z.tK c9 λi hi e=>by rw[e];omega
 refine W (b:=.ptr) (some X.T.p) cr rfl (W (b:=bI) (X.last+1) cr rfl ?_);refine aM (YN t4) λ⟨(sp:OA),_⟩ h5 e5 g9=>?_;obtain⟨sn,rfl,b4⟩:=g9;have b4:GR h4.size h5 sn X.T.p X.T.cur:=b4;dsimp only;have X5:∀{m size:Nat} {s:Sl} {vs:bG},cA m size h4 s vs->cA m size h5 s vs:=λho=>(aV.bD (F:=λ_=>False) e5).own ho λ_ _ x=>x;have ec:=X5 cr;have k6:=e5.1;refine sR (aI.1 ec.cells 9 _ rfl) ?_;refine fA (.pointer (some sn)) (X5 ih) (by simp) rfl λh6 ix u6=>fA (aH at_) ix (by simp) rfl λh7 jl u7=>fA (aH (X.last+1)) jl (by simp) rfl λh8 eh u8=>?_;simp only[wU,List.set_cons_succ]at eh;have bd:aV (λi=>i=d.size) h5 h8:=((aV.dK (F:=λi=>i=d.size) u6 λa ha _=>by cases ha;rfl).trans (aV.dK (F:=λi=>i=d.size) u7 λa ha _=>by cases ha;rfl) λ_ _ x=>x).trans (aV.dK (F:=λi=>i=d.size) u8 λa ha _=>by cases ha;rfl) λ_ _ x=>x;have k7:=bd.1;have k8:h4.size<=sn.block/\sn.block<h5.size:=b4.lt rfl;have j0:=bd.own b4 λa ha e=>by cases ha;omega
 have eg:=bd.own ec λa ha e=>by cases ha;omega
 have gv:aV (λi=>i=X.b.block) w h8:=(c9.ext e5).trans bd λi hi e=>by omega
 refine W (b:=bI) (X.last+1) eg rfl (aL rfl (aL rfl (fA (aH (X.last+1)) eg (by simp[oW]) rfl λh9 hz u9=>aL rfl (aL rfl (fA (.slice none 0 0) hz (by simp[oW]) rfl λO cg j1=>?_)))));have cb:∀{g g':aG} {m c:Nat},jU ⟨some X.b,m,c⟩ g g'->aV (λi=>i=X.b.block) g g':=λu=>aV.dK u λa ha _=>by cases ha;rfl
 have ab:aV (λi=>i=X.b.block) h8 O:=(cb u9).trans (cb j1) λ_ _ x=>x;have j9:=ab.1;have ei:aV (λi=>i=X.b.block) w O:=gv.trans ab λ_ _ x=>x;have e9:=ab.own eh λa ha e=>by cases ha;have e:d.size=X.b.block:=e;omega
 have fy:=ab.own j0 λa ha e=>by cases ha;have e:sn.block=X.b.block:=e;omega
 refine W (b:=.sl) X.U.1 cg (by simp[oW,B.inj]) ?_;refine λelem=>?_;have bo:Ext O (O.push (.cells [.pointer (some ⟨d.size,0,none⟩)].toArray elem)):=Ext.push ..;have c4:Rd 1 (O.push (.cells [.pointer (some ⟨d.size,0,none⟩)].toArray elem)) ⟨some ⟨O.size,0,none⟩,1,1⟩ [.pointer (some ⟨d.size,0,none⟩)]:=mI rfl;generalize O.push (.cells [.pointer (some ⟨d.size,0,none⟩)].toArray elem)=bs at bo c4⊢;have kd:=bo.1;have b8:=ei.ext bo;have cx:cA n 1 bs X.U.1 (oO X.U.2):=z.lg b8 λi hi e=>by rw[e];omega
 have hl:X.U.1.len=X.U.2.length:=by have:=cx.1;simpa[oO] using this
 have a4:∀a,X.U.1.aD=some a->D a.block=k+4/\a.block<w.size:=λa ha=>⟨z.ru a ha,(z.ou.lt ha).2⟩;refine iQ cx (by omega) c4 (by intro v hv;rw[dE.1 hv];rfl) rfl (by dsimp only;omega) (by dsimp only;omega) λq g1 ft hp j2 c7 _=>?_;have al:aV (λi=>∃a,X.U.1.aD=some a/\a.block=i) bs g1:=aV.dK j2 λa ha _=>⟨a,ha,rfl⟩;have ke:=al.1;have b6:∀{m size:Nat} {s:Sl} {vs:bG},cA m size O s vs->cA m size bs s vs:=λho=>(aV.bD (F:=λ_=>False) bo).own ho λ_ _ x=>x;have e6:=al.own (b6 cg) λa ha ⟨y,hy,e⟩=>by cases ha;have w:=(a4 y hy).1;rw[e]at w;omega
 have fj:=al.own (b6 e9) λa ha ⟨y,hy,e⟩=>by cases ha;have w:=(a4 y hy).2;have e:y.block=d.size:=e;omega
 have gf:=al.own (b6 fy) λa ha ⟨y,hy,e⟩=>by cases ha;have w:=(a4 y hy).2;omega
 have dr:∀a,q.aD=some a->(D a.block=k+4/\a.block<w.size)\/bs.size<=a.block:=λa ha=>(c7 a ha).imp (a4 a) id;have I:∀a,q.aD=some a->a.block≠X.b.block/\a.block≠d.size/\a.block≠sn.block:=λa ha=>by
  rcases dr a ha with⟨w,d⟩|w
  .refine⟨λe=>?_,by omega,by omega⟩
   rw[e]at w;omega
  .omega
 refine aL rfl (aL rfl (fA (dN q) e6 (by simp[oW]) rfl λa0 N j3=>?_));have ao:=cb j3;have kk:=ao.1;have fv:=ao.own ft λa ha e=>(I a ha).1 e;have fl:=ao.own fj λa ha e=>by cases ha;have e:d.size=X.b.block:=e;omega
 have gg:=ao.own gf λa ha e=>by cases ha;have e:sn.block=X.b.block:=e;omega
 have gw:aV F w a0:=((b8.mono (G:=F) λi _ x=>.inl x).trans (al.mono (G:=F) λi _ x=>.inr x) λ_ _ x=>x).trans (ao.mono (G:=F) λi _ x=>.inl x) λ_ _ x=>x
 let g:HY:={pt:=⟨d.size,0,none⟩,VN:=o.VN,vk:=sn,sb:=o.sb,sh:=X.T.cur,bg:=o.bg,en:=at_,mv:=o.mv,old:=o.old,fresh:=X.last+1}
 have a9:cA n 1 a0 q (oO (X.U.2++[g])):=by
  have:oO (X.U.2++[g])=oO X.U.2++[.pointer (some ⟨d.size,0,none⟩)]:=by simp[oO,g]
  rw[this];exact fv
 let V:Sl->bG:=λH=>((((((oW X).set 9 (aH (X.last+1))).set 7 (aH (X.last+1))).set 3 (.slice none 0 0)).set 2 (dN H)))
 have N:cA n 1 a0 ⟨some X.b,10,10⟩ (V q):=N;refine dB (λtg vs h'=>tg=0/\vs=[]/\∃H,cA n 1 h' H (oO (TM X g))/\H.aD=q.aD/\cA n 1 h' ⟨some X.b,10,10⟩ (V H)/\aV (λi=>i=X.b.block\/∃a,q.aD=some a/\a.block=i) a0 h') ?_ ?_
 .refine W (b:=.sl) q N (by simp[V,oW,B.inj]) (W (b:=bI) X.depth N (by simp[V,oW,B.inj]) ?_)
  have ds:q.len=X.U.2.length+1:=by rw[hp,hl]
  refine aE (λhd=>?_) λhd=>?_
  .rw[dL,aN,ds]at hd
   have a6:TM X g=(X.U.2++[g]).drop 1:=if_pos (by omega);refine W (b:=.sl) q N (by simp[V,oW,B.inj]) ?_;obtain⟨g0,bp,de⟩:∃g0 bp,X.U.2++[g]=g0::bp:=by
    cases hh:X.U.2 with
    |nil=>exact⟨g,[],rfl⟩
    |cons a l=>exact⟨a,l++[g],rfl⟩
   rw[de]at a9;refine Ui (YJ (v:=.pointer (some g0.pt)) (vs:=oO bp) a9 (by intro u hu;obtain⟨y,_,rfl⟩:=dA.1 hu;rfl)) λ⟨(H:Sl),_⟩ g2 c8 Y=>?_;obtain⟨ba,Z⟩:=Y;have Z:H.aD=q.aD:=Z;have ba:cA n 1 g2 H (oO bp):=ba;dsimp only;have e7:=c8.own N λa ha ⟨y,hy,e⟩=>by cases ha;exact(I y hy).1 e
   refine aL rfl (aL rfl (fA (dN H) e7 (by simp[V,oW]) rfl λg3 bb j4=>?_));have aw:=cb j4;refine aC ⟨rfl,rfl,H,?_,Z,?_,(c8.mono λi _ x=>.inr x).trans aw λi _ x=>.inl x⟩
   .rw[a6,de]
    exact aw.own ba λa ha e=>(I a (by rw[<-Z];exact ha)).1 e
   .have:V H=(V q).set 2 (dN H):=by simp[V,oW]
    rw[this];exact bb
  .rw[gD,aN,ds]at hd
   have a6:TM X g=X.U.2++[g]:=if_neg (by omega);exact aC ⟨rfl,rfl,q,by rw[a6];exact a9,rfl,N,aV.refl _ _⟩
 rintro tg vs g3 ⟨rfl,rfl,H,e2,b0,bb,aw⟩;refine bE (bO (aC (Vm C bb λa3 e8 b9=>⟨rfl, .inr ⟨df,rfl,?_⟩⟩)));have kp:=aw.1;have kt:=b9.1
 let G:Nat->Prop:=λi=>i=X.b.block\/∃a,q.aD=some a/\a.block=i
 have a5:aV G a0 a3:=(aw.mono (G:=G) λ_ _ x=>x).trans (b9.mono (G:=G) λi _ e=>.inl e) λ_ _ x=>x;have cT:aV F w a3:=gw.trans a5 λi hi hg=>by
  rcases hg with rfl|⟨a,ha,rfl⟩
  .exact .inl rfl
  .rcases c7 a ha with h|h
   .exact .inr ⟨a,h,rfl⟩
   .omega
 have hF:∀i,i<w.size->F i->D i=k+1\/D i=k+4:=λi hi J=>by
  rcases J with rfl|⟨a,ha,rfl⟩
  .exact .inl b3
  .exact .inr (a4 a ha).1
 have fm:=a5.own fl λa ha hg=>by
  cases ha;rcases hg with e|⟨y,hy,e⟩
  .have e:d.size=X.b.block:=e;omega
  .exact(I y hy).2.1 e
 have gm:=a5.own gg λa ha hg=>by
  cases ha;rcases hg with e|⟨y,hy,e⟩
  .omega
  .exact(I y hy).2.2 e
 have e4:=b9.own e2 λa ha e=>(I a (by rw[<-b0];exact ha)).1 e
 let E:Nat->Nat:=λi=>if i<w.size then (if D i=k+7 then 0 else D i) else if (∃a,q.aD=some a/\a.block=i) then k+4 else 0
 have hold:∀i,i<w.size->E i=if D i=k+7 then 0 else D i:=λi hi=>if_pos hi
 have A:∀j,j≠k+7->∀i,i<w.size->D i=j->E i=j:=λj hj i hi e=>by rw[hold i hi,e,if_neg hj]
 have cd:∀i,w.size<=i->(∀a,q.aD=some a->a.block≠i)->E i=0:=λi hi hq=>by
  show(if _ then _ else _)=0;rw[if_neg (by omega),if_neg];rintro⟨a,ha,e⟩;exact hq a ha e
 have g7:∀a,q.aD=some a->E a.block=k+4:=λa ha=>by
  rcases dr a ha with⟨w,d⟩|w
  .exact A _ (by omega) _ d w
  .show(if _ then _ else _)=_
   rw[if_neg (by omega),if_pos ⟨a,ha,rfl⟩]
 have r0:E d.size=0:=cd _ g8 λa ha e=>(I a ha).2.1 e;have jx:E sn.block=0:=cd _ (by omega) λa ha e=>(I a ha).2.2 e;have gR:Uq n a3 E (Tg X.T) g:={
  ob:=Jj (by omega) fm
  s1:=cT.own ro.sn λa ha J=>by cases ha;have w:=hF _ (ro.sn.lt rfl).2 J;have d:=ro.rs;omega
  s2:=Jj (by omega) gm
  k1:=eK _ ro.ks
  k2:=eO ..
  mv:=ro.mv.aP cT (λi hi J=>⟨by have:=hF i hi J;omega,λa ha e=>by have w:=ro.mv.role a ha;have:=hF i hi J;rw[e]at w;omega⟩) (A 0 (by omega)) λa ha=>by
   rw[hold _ (ro.mv.own.lt ha).2,if_pos (ro.mv.role a ha)]
  r0:=⟨r0,A 0 (by omega) _ (ro.sn.lt rfl).2 ro.rs,jx⟩}
 refine⟨E,h_ X g H,c5.trans ⟨cT.mono λi hi J=>by have:=hF i hi J;omega,λi hi ho=>A _ (by omega) i hi rfl,λi hi hj=>?_⟩,?_,⟨λY=>absurd (M.symm.trans Y) (by decide),λ_=>⟨g,H,⟨rfl,rfl,rfl,rfl,rfl,rfl,rfl⟩,rfl⟩⟩⟩
 .by_cases bt:i<w.size
  .rw[hold i bt]
   split
   .exact .inl rfl
   .rcases hj with hj|hj
    .omega
    .exact .inr hj
  .show(if _ then _ else _)=0\/_<(if _ then _ else _)/\(if _ then _ else _)<=_
   rw[if_neg bt];split
   .exact .inr (by omega)
   .exact .inl rfl
 .have er:∀g',g'∈X.U.2\/g'∈X.R.2->Uq n a3 E (Tg X.T) g':=z.kl cT (λi hi J=>by have:=hF i hi J;omega) (A 0 (by omega)) rfl λs hs=>eK _ hs
  exact{
   t:=(z.tK cT λi hi J=>by have:=hF i hi J;omega).aP
   rt:=z.vb (A _ (by omega))
   mp:=z.kx cT λi hi J=>by have:=hF i hi J;omega
   rm:=z.tw (A _ (by omega))
   ow:=z.lj cT λi hi J=>by have:=hF i hi J;omega
   EO:=z.vc (A _ (by omega))
   ou:=e4
   ru:=λa ha=>g7 a (by rw[<-b0];exact ha)
   Lm:=cA.nil _ _ _
   rr:=λa ha=>by cases ha
   gs:=λg' L=>by
    rcases L with L|L
    .have L:g'∈TM X g:=L
     have hm:g'∈X.U.2++[g]:=by
      unfold TM at L;split at L
      .exact BD L
      .exact L
     rcases dH.1 hm with hm|hm
     .exact er g' (.inl hm)
     .rw[dE.1 hm];exact gR
    .cases L
   nw:=λo' cf=>by cases cf
   ob:=by
    have:oW (h_ X g H)=(V H).set 6 (.pointer none):=by simp[oW,V]
    show cA n 1 a3 ⟨some X.b,10,10⟩ (oW (h_ X g H));rw[this];exact e8
   rb:=A _ (by omega) _ ey b3}
end
end Go.Sw.Hist
