
/- Steps. -/
import Derived.Test.YtncolficnfcdcaaGreatSwG0
import Derived.Test.YtncolficnfcdcaaGreatSwU6
set_option linter.unusedVariables false
set_option linter.unusedSimpArgs false
set_option maxRecDepth 100000
set_option maxHeartbeats 1000000
namespace Go.Sw.Piece
open Go.Sw.Any Go.Sw.Codec
open Go.Sw.Tree (iv fR jR jX mX oS kM rO kK dQ lB)
section
variable{P:Program}{S:cH}{h:aG}{Q:Nat->bH->aG->Prop}
variable{q:Pc}{i:Nat}
def FB(enc:Int)(q:Pc)(n:Nat):Pc:=(FA enc q.1 q.2 n,q.2.take (dM ((bJ enc q.2).take n)))
def FX(enc:Int)(q:Pc)(n:Nat):Pc:=(He enc q.1 q.2 n,q.2.drop (dM ((bJ enc q.2).take n)))
theorem Xr{enc:Int}(hb:cC q.2){n:Nat}(b:n<=(bJ enc q.2).length):zM enc (FB enc q n)=(zM enc q).take n:=by
 unfold zM FB;dsimp only;rw[Gv hb n b,Px];rfl
theorem Xs{enc:Int}(hb:cC q.2){n:Nat}(b:n<=(bJ enc q.2).length):zM enc (FX enc q n)=(zM enc q).drop n:=by
 unfold zM FX;dsimp only;rw[(pQ hb n b).2,J4];show iH (Ks q.1.2.1 _) 0 _=_;rw[Ng]
theorem Jf{ts:List (Int×Int)}(h:TI ts)(b:0<ts.length):0<dM ts:=by
 cases ts with
 |nil=>simp at b
 |cons t ts=>have:=h t (eO ..);rw[nB];omega
theorem A3.aD{T:TX}{q:Pc}(r:A3 h T q):∃a,q.1.1.aD=some a:=by
 obtain⟨a,e,_⟩:=r.lO.rd.at (i:=0) r.ne;exact⟨a,e⟩
theorem A3.head{T:TX}(r:A3 h T q){n:Nat}(h0:0<n)(d:n<=(bJ T.enc q.2).length):A3 h T (FB T.enc q n):=by
 have hb:=r.bytes;have j:=oO (enc:=T.enc) hb;have x:=(pQ (enc:=T.enc) hb n d).1.le hb;have z:=Jf (j.take n) (by rw[dJ];omega);have g:=Gv (enc:=T.enc) hb n d;have hlen:=r.lO.len;have w:=r.lO.cap;have y:=r.lO.max;have A:=r.tag;have C:=r.len;unfold FB FA;generalize B:dM ((bJ T.enc q.2).take n)=k at *;have c:(q.2.take k).length=k:=by rw[dJ];omega
 refine⟨r.lO.take x (bM _) (by omega),by dsimp only;omega,?_,?_,by dsimp only;omega,λa ha=>?_⟩
 .dsimp only;rw[g];rfl
 .dsimp only;rw[c]
  show -1<=q.1.2.1/\q.1.2.1+(k:Int)<=65536;omega
 .obtain⟨o,p,t⟩:=r.MO a ha
  refine⟨o,p,λb hb DO=>?_⟩;obtain⟨u,b5⟩:=t b hb DO;exact⟨u,by dsimp only;omega⟩
theorem A3.tail{T:TX}{q:Pc}(r:A3 h T q){n:Nat}(I:n<(bJ T.enc q.2).length):A3 h T (FX T.enc q n):=by
 have hb:=r.bytes;have t:=oO (enc:=T.enc) hb;have A:=(pQ (enc:=T.enc) hb n (by omega)).1.le hb;have p:=(pQ (enc:=T.enc) hb n (by omega)).2;have C:=Gu (enc:=T.enc) hb;have o:=jO ((bJ T.enc q.2).take n) ((bJ T.enc q.2).drop n);rw[eY]at o;have D:=Jf (t.drop n) (by rw[cW];omega);have hlen:=r.lO.len;have z:=r.lO.cap;have B:=r.lO.max;have E:=r.tag;have H:=r.len;unfold FX He;generalize G:dM ((bJ T.enc q.2).take n)=k at *;have j:(q.2.drop k).length=q.2.length-k:=cW;obtain⟨d,c⟩:=r.aD;have g:bE q.1.1.aD q.1.1.cap k 1=some (d.add k):=by unfold bE;rw[if_neg (by omega),c];simp
 refine⟨r.lO.tail (i:=k) A,by dsimp only;omega,?_,?_,by dsimp only;omega,λa ha=>?_⟩
 .dsimp only;rw[p];rfl
 .dsimp only;rw[j]
  show -1<=Ks q.1.2.1 k/\Ks q.1.2.1 k+((q.2.length-k:Nat):Int)<=65536;unfold Ks;split<;>omega
 .have ha:bE q.1.1.aD q.1.1.cap k 1=some a:=ha
  rw[g]at ha;cases ha;obtain⟨u,w,x⟩:=r.MO d c;rw[iT];refine⟨u,w,λb hb DO=>?_⟩;obtain⟨y,b5⟩:=x b hb DO;refine⟨MK y _,?_⟩;rw[VN];show d.off+k+(q.2.drop k).length<=_;omega
theorem pL(enc:Int)(a b:List Pc):iG enc (a++b)=iG enc a++iG enc b:=by simp[iG]
theorem IP(enc:Int)(q:Pc):iG enc [q]=zM enc q:=by simp[iG]
theorem Py{enc:Int}{ps:List Pc}(c:ps[i]?=some q):iG enc ps=iG enc (ps.take i)++zM enc q++iG enc (ps.drop (i+1)):=by
 have b:=(cQ.1 c).1;have he:=(cQ.1 c).2;have d:ps=ps.take i++[q]++ps.drop (i+1):=by
  rw[<-he,dX];show ps=ps.take i++(ps[i]::ps.drop (i+1));rw[<-gY b,eY]
 conv=>lhs;rw[d]
 rw[pL,pL,IP]
theorem Fv(enc:Int)(q:Pc):(zM enc q).length=(bJ enc q.2).length:=Fu ..
theorem S1{enc:Int}{ps:List Pc}{at_:Int}{n:Nat}(f:Sr enc ps at_ i n)(h0:0<=at_):(iG enc ps).take at_.toNat=iG enc (ps.take i)++(match ps[i]? with|some q=>(zM enc q).take n|none=>[]) /\
  (iG enc ps).drop at_.toNat=(match ps[i]? with|some q=>(zM enc q).drop n|none=>[])++iG enc (ps.drop (i+1))/\(∀q,ps[i]?=some q->n<=(bJ enc q.2).length):=by
 obtain⟨f1,f2,f3,f4⟩:=f;have d:at_.toNat=(iG enc (ps.take i)).length+n:=by rw[yW];omega
 cases c:ps[i]? with
 |none=>
  by_cases h:0<at_
  .obtain⟨q,b,_⟩:=f4 h;rw[c]at b;cases b
  .obtain⟨rfl,rfl⟩:=f3 (by omega)
   have:ps=[]:=by
    cases ps with
    |nil=>rfl
    |cons q ps=>simp at c
   subst this;exact⟨by simp[iG],by simp[iG],λq c=>(by cases c)⟩
 |some q=>
  have g:n<=(zM enc q).length:=by
   rw[Fv];by_cases h:0<at_
   .obtain⟨p,b,_,o⟩:=f4 h;rw[c]at b;cases b;exact o
   .obtain⟨_,rfl⟩:=f3 (by omega);exact cO _
  have j:=Py (enc:=enc) c;refine⟨?_,?_,λp b=>by cases b;rw[<-Fv];exact g⟩
  .rw[j,d,dX,JN,iY (by omega),Ar,As g]
  .rw[j,d,dX,R6,uM (by omega),Ar,R7 g,GB]
theorem Xx{enc:Int}{ps:List Pc}{a b:Int}{n j m:Nat}(f:Sr enc ps a i n)(g:Sr enc ps b j m)(h0:0<=a)(DO:a<=b):i<=j:=by
 obtain⟨f1,f2,f3,f4⟩:=f;obtain⟨t,u,w,d⟩:=g;by_cases ha:0<a
 .obtain⟨q,x,z,A⟩:=f4 ha
  obtain⟨r,hr,m0,y⟩:=d (by omega);by_cases c:i<=j
  .exact c
  .have o:=HR (enc:=enc) hr
   have p:(cV enc (ps.take (j+1))).length<=(cV enc (ps.take i)).length:=by
    have:ps.take (j+1)=(ps.take i).take (j+1):=by rw[JP,F5 (by omega)]
    rw[this];exact Hf _ _
   rw[o,bQ]at p;omega
 .have:=(f3 (by omega)).1;omega
theorem Nf(tag:Int):∀(ts:List (Int×Int)) (o:Nat),(iH tag o ts).map (·.1)=ts.map (·.1)
 |[],_=>rfl
 |t::ts,o=>by simp only[iH,fT,Nf tag ts]
theorem Gt{enc:Int}(he:eM enc):∀{ps:List Pc},(∀q,q∈ps->cC q.2)->cV enc ps=((iG enc ps).map (·.1)).map (tk enc)/\dR ps=((iG enc ps).map (·.1)).flatMap (dA enc)/\∀a,a∈(iG enc ps).map (·.1)->0<bX enc a
 |[],_=>⟨rfl,rfl,λa ha=>(by cases ha)⟩
 |q::ps,hb=>by
  have b:=WL he (hb q (eO ..));obtain⟨i1,i2,i3⟩:=Gt he (ps:=ps) λx g=>hb x (eK _ g);have e:iG enc (q::ps)=zM enc q++iG enc ps:=by simp[iG]
  have c:(zM enc q).map (·.1)=(bJ enc q.2).map (·.1):=by unfold zM;rw[Nf]
  have d:bJ enc q.2=((bJ enc q.2).map (·.1)).map (tk enc):=by
   rw[sZ]
   conv=>lhs;rw[<-List.map_id (bJ enc q.2)]
   refine JQ λt ht=>?_;show t=(t.1,bX enc t.1);rw[<-(b.1 t ht).2]
  rw[e,dP,dP,gX,c];refine⟨?_,?_,λa ha=>?_⟩
  .rw[<-d,<-i1];simp[cV]
  .rw[<-i2,List.flatMap_map,b.2];simp[dR]
  .rcases dH.1 ha with ha|ha
   .obtain⟨t,ht,rfl⟩:=dB.1 ha
    exact(b.1 t ht).1
   .exact i3 a ha
theorem Zi{enc:Int}(h:q.1.2.1 = -1):zM enc q=(bJ enc q.2).map λt=>(t.1, -1):=by
 unfold zM;rw[h];have:∀(b:List (Int×Int)) (o:Nat),iH (-1) o b=b.map λt=>(t.1, -1):=by
  intro b
  induction b with
  |nil=>intro o;rfl
  |cons t b c=>intro o;simp only[iH,fT,c];rw[if_pos (by decide)]
 exact this _ _
theorem V7{enc:Int}:∀{qs:List Pc},(∀q,q∈qs->q.1.2.1 = -1)->iG enc qs=(cV enc qs).map λt=>(t.1, -1)
 |[],_=>rfl
 |q::qs,h=>by
  have:=V7 (enc:=enc) (qs:=qs) λx b=>h x (eK _ b);unfold iG cV at this⊢;rw[gD,gD,dP,this,Zi (h q (eO ..))]
structure MD(T T':TX)(m:Nat):Prop where
 p:T'.p=T.p
 enc:T'.enc=T.enc
 limit:T'.limit=T.limit
 kept:T'.kept=T.kept
 zm:∀i,T.Z i->T'.Z i
 zn:∀i,T'.Z i->T.Z i\/m<=i
 adc:∀b,T'.ad.aD=some b->T.ad.aD=some b\/m<=b.block
theorem MD.refl(T:TX)(m:Nat):MD T T m:=⟨rfl,rfl,rfl,rfl,λ_ h=>h,λ_ h=>.inl h,λ_ h=>.inl h⟩
theorem MD.trans{T T' c:TX}{m d:Nat}(a:MD T T' m)(b:MD T' c d)(hm:m<=d):MD T c m:=
 ⟨b.p.trans a.p,b.enc.trans a.enc,b.limit.trans a.limit,b.kept.trans a.kept,λi hi=>b.zm i (a.zm i hi),λi hi=>(b.zn i hi).elim (a.zn i) λh=>.inr (dI hm h),
  λx g=>(b.adc x g).elim (a.adc x) λh=>.inr (dI hm h)⟩
theorem MD.yz{T T':TX}{m:Nat}(a:MD T T' m)(hi:rU T' i):rU T i\/m<=i:=by
 rcases hi with rfl|⟨b,hb,rfl⟩
 .rw[a.p];exact .inl (.inl rfl)
 .exact(a.adc b hb).imp (λh=>.inr ⟨b,h,rfl⟩) id
end
section
variable{P:Program}{S:cH}{h:aG}{Q:Nat->bH->aG->Prop}
theorem dW{m:aK}{tys:List Ty}{K:Ts.den tys->aK}{R:Nat->bH->aG->Prop}(g:wp P m h R)(b:∀t vs h',R t vs h'->t=0/\∃x,vs=Ts.inj tys x/\wp P (K x) h' Q):wp P (.call m tys K) h Q:=cN m b g
theorem Wj{n:Nat}{Z:Nat->Prop}{s:Sl}{l:List Part}(o:zL n h s l)(hw:∀x,x∈l->VS (WN x) (Jt x)):Pn (part S Z) h s l:=⟨o.rd,o.2.1,o.2.2.1,hw⟩
theorem Rl{T:TX}:∀{ps:List Pc},(∀q,q∈ps->A3 h T q)->ps.length<=(dR ps).length
 |[],_=>bM _
 |q::ps,b=>by
  have c:=Rl (ps:=ps) λx d=>b x (eK _ d);have g:=(b q (eO ..)).ne;unfold dR at c⊢;rw[gD,bQ,fM];omega
theorem tN(a b:List Pc):dR (a++b)=dR a++dR b:=by simp[dR]
theorem Pp{ps qs:List Pc}(b:qs.Sublist ps):(dR qs).length<=(dR ps).length:=by
 induction b with
 |slnil=>exact bM _
 |cons q b c=>unfold dR at c⊢;rw[gD,bQ];omega
 |cons_cons q b c=>unfold dR at c⊢;rw[gD,gD,bQ,bQ];omega
theorem PZ{n:Nat}{T:TX}{d:aG}{m:Nat}{root:OA}{o:Bt Part}{ps':List Pc}(t:eQ S n h T)(hm:∀i,T.Z i->i<m)(H:n<=m/\m<=h.size)
  (nd:Nd (part S λi=>T.Z i\/m<=i) h root o) (ls:o.list=ps'.map (·.1)) (Cx:∀q,q∈ps'->A3 h T q) (small:(dR ps').length<=1099511627776)
  (o2:cA n 1 d ⟨some T.p,4,4⟩ [aH T.enc,aH T.limit, .pointer root,dN T.ad]) (u:jU ⟨some T.p,4,4⟩ h d) :
  eQ S n d {T with cur:=⟨root,o,ps'⟩,Z:=λi=>(T.Z i\/m<=i)/\i<d.size}:=by
 have J:T.p.block<h.size:=(t.lo _ t.zp).2;have A:(⟨T.p.block,0,none⟩:Addr)=T.p:=by
  obtain⟨_,_,_,G⟩:=t.ob;obtain⟨e0,D,_⟩:=G;show(⟨T.p.block,0,none⟩:Addr)=⟨T.p.block,T.p.off,T.p.spot⟩;rw[e0,D]
 have B:∀b,(⟨some T.p,4,4⟩:Sl).aD=some b->∃k x,Sw.cell h ⟨b.block,0,none⟩=some (.int k x):=λb hb=>by
  cases hb;have c:=t.c0;rw[add_zero']at c;rw[A];exact⟨_,_,c⟩
 have I:=u.1;have C:∀{q},A3 h T q->A3 d {T with cur:=⟨root,o,ps'⟩,Z:=λi=>(T.Z i\/m<=i)/\i<d.size} q:=λ{q} g=>
  ⟨g.lO.blocks λa ha E=>u.2.1 _ E λb hb=>by cases hb;exact λe=>(g.MO a ha).2.1 e.symm,g.ne,g.is,g.tag,g.len,λa ha=>⟨⟨.inl (g.MO a ha).1,by have:=(t.lo _ (g.MO a ha).1).2;omega⟩,(g.MO a ha).2⟩⟩
 have st:∀{s},Lv S h T s->Lv S d {T with cur:=⟨root,o,ps'⟩,Z:=λi=>(T.Z i\/m<=i)/\i<d.size} s:=λ{s} j=>⟨yC (j.nd.Vz u B) λi hi z=>⟨.inl z,hi⟩,j.ls,λq y=>C (j.Cx q y),j.small⟩;refine⟨t.enc,t.A4,o2,t.ad.Hg u λa b ha hb=>by cases hb;exact λe=>t.ed a ha e.symm,t.ed,t.vb,⟨yC (nd.Vz u B) λi hi z=>⟨z,hi⟩,ls,λq y=>C (Cx q y),small⟩,λs j=>st (t.kept s j),⟨.inl t.zp,show T.p.block<d.size by omega⟩,λb hb=>⟨.inl (t.za b hb),by have:=(t.lo _ (t.za b hb)).2;omega⟩,λi hi=>?_⟩;obtain⟨hi|hi,w⟩:=hi
 .exact⟨(t.lo i hi).1,w⟩
 .exact⟨by omega,w⟩
def mU(enc:Int)(ps:List Pc)(i n:Nat):List Pc:=match ps[i]? with|some q=>if 0<n then [FB enc q n] else []|none=>[]
def lS(enc:Int)(ps:List Pc)(j m:Nat):List Pc:=match ps[j]? with|some q=>if m<(bJ enc q.2).length then [FX enc q m] else []|none=>[]
theorem Xk(M:kJ P S){n:Nat}{T:TX}{from_ to:Int}{put:Sl}{l:bB}(t:eQ S n h T)(hn:n<=h.size)(hp:kW .i64 h put l)(N:∀a,a∈l->0<bX T.enc a)(hA:T.A.length+4*l.length<=1099511627776)
  (hz:l≠[]->∀a,put.aD=some a->¬T.Z a.block) (h0:0<=from_) (h1:from_<=to) (h2:to<=(iG T.enc T.cur.ps).length) (fv:(dR T.cur.ps).length+4*l.length<=500000000000) :
  wp P (vG S (some T.p) from_ to put) h λtg vs h'=>tg=0/\vs=[]/\aV (rU T) h h'/\∃T',eQ S n h' T'/\MD T T' h.size/\T'.A=T.A++l.flatMap (dA T.enc) /\
   iG T.enc T'.cur.ps=(iG T.enc T.cur.ps).take from_.toNat++l.map (λa=>(a, -1))++(iG T.enc T.cur.ps).drop to.toNat:=by
 unfold vG;have g4:(cV T.enc T.cur.ps).length=(iG T.enc T.cur.ps).length:=(yW ..).symm;have gf:=Rl t.cur.Cx;have gg:=HI N;refine aM (Qn t h0 (by omega)) λ⟨(i':Int),(n':Int),_⟩ ha ea ⟨i,ni,hi,bt,fi⟩=>aM (Qn (t.ext ea) (by omega) (by omega)) λ⟨(j':Int),(m':Int),_⟩ hb eb ⟨j,o,hj,bo,fj⟩=>?_;have hi:i'=i:=hi;have bt:n'=ni:=bt;have hj:j'=j:=hj;have bo:m'=o:=bo;subst hi;subst bt;subst hj;subst bo;dsimp only;have gw:=Xx fi fj h0 h1;obtain⟨eT,_,V⟩:=S1 fi h0;obtain⟨_,eD,bp⟩:=S1 fj (by omega:0<=to);have aw:=ea.trans eb;have G:=t.ext aw;have O:∀Z,(part S Z).Ok P:=λZ=>Ch S Z;have g0:=fi.1;have g1:=fj.1;have a9:=t.cur.bytes;have ft:∀q,q∈mU T.enc T.cur.ps i ni->A3 h T q:=λq c=>by
  unfold mU at c;cases w:T.cur.ps[i]? with
  |none=>rw[w]at c;cases c
  |some x=>
   rw[w]at c;dsimp only at c;split at c
   .rw[dE.1 c];exact(t.cur.Cx x (eL w)).head (by omega) (V x w)
   .cases c
 refine cZ (λtg vs h'=>tg=0/\Ext hb h'/\∃s,vs=[dN s]/\zL hb.size h' s ((mU T.enc T.cur.ps i ni).map (·.1))) ?_ ?_
 .cases c:T.cur.ps[i]? with
  |none=>
   have al:mU T.enc T.cur.ps i ni=[]:=by unfold mU;rw[c]
   refine uL G (aM (R:=λ(y:Part×Bool×Unit) _=>y.1=zP/\y.2.1=false) (UC (O T.Z) G.cur.nd (rX (G.cur.room G.A4.2)) (by omega) (.inr ?_)) λ⟨(y:Part),(ok:Bool),_⟩ h5 K ⟨Y,u⟩=>?_)
   .have h1:T.cur.t.list.length<=i:=by rw[t.cur.ls,cE];exact WW.1 c
    show((List.length T.cur.t.list:Nat):Int)<=_;omega
   .have u:ok=false:=u
    subst u;dsimp only;refine gO (bs:=PB) zP (by decide) λh6 e6 o6=>mY (bs:=PB) y o6 (xF _) λL o7 u7=>?_;have z:Ext hb L:=jU.jQ (K.trans e6) u7 (by intro x d;cases d;exact K.size);refine bZ False (lW (aC ⟨rfl,Ext.refl _,false,rfl,Iff.intro (λh=>by cases h) False.elim⟩)) λbb h8 e8 a0=>aE (λd=>(a0.1 d).elim) λ_=>aC ⟨rfl,z.trans e8,⟨none,0,0⟩,rfl,?_⟩;rw[al];exact cA.nil _ _ _
  |some q=>
   have d:T.cur.t.list[((i:Int)).toNat]?=some q.1:=by rw[cR,t.cur.ls,gQ,c];rfl
   refine uL G (aM (R:=λ(y:Part×Bool×Unit) _=>y.1=q.1/\y.2.1=true) (oh (O T.Z) G.cur.nd G.cur.wf (rX (G.cur.room G.A4.2)) (by omega) d) λ⟨(y:Part),(ok:Bool),_⟩ h5 K ⟨Y,u⟩=>?_);have u:ok=true:=u;have Y:y=q.1:=Y;subst u;subst Y;dsimp only;refine gO (bs:=PB) zP (by decide) λh6 e6 o6=>mY (bs:=PB) q.1 o6 (xF _) λL o7 u7=>?_;have z:Ext hb L:=jU.jQ (K.trans e6) u7 (by intro x d;cases d;exact K.size);have t7:=G.ext z;have a3:=eL c;refine bZ (0<ni) (mW (aC ⟨rfl,Ext.refl _,_,rfl,by rw[dL];omega⟩)) λbb h8 e8 a0=>aE (λd=>?_) λd=>?_
   .have ct:=a0.1 d
    have al:mU T.enc T.cur.ps i ni=[FB T.enc q ni]:=by unfold mU;rw[c];dsimp only;rw[if_pos ct]
    have t8:=t7.ext e8;have pc:=t8.cur.Cx q a3;refine cZ (λtg vs h'=>tg=0/\Ext h8 h'/\∃A:Addr,vs=[.pointer (some A)]/\EM h8.size h' A (FA T.enc q.1 q.2 ni)) ?_ ?_
    .refine UL M (fin:=λA B=>.ret 0 [.pointer (some A)]) t8 (x:=q.1) (bs:=q.2) pc (o7.ext e8) (by omega) (by have:=V q c;omega) λh9 A B e9 oA oB=>aC ⟨rfl,e9,A,rfl,?_⟩
     rw[cR]at oA;exact oA
    .rintro tg vs h9 ⟨rfl,e9,A,rfl,oA⟩
     refine bG (Cn (tys:=[tP]) (some A,()) rfl ?_);dsimp only;refine hS (bs:=PB) oA ?_;have C:=(z.trans e8).trans e9;refine Mc (n:=hb.size) (old:=[]) (new:=Bs.inj PB (FA T.enc q.1 q.2 ni)) (cA.nil _ _ _) C.size rfl (xF _) rfl (by decide) (by decide) λr a6 a5 c5 b8 d10=>aC ⟨rfl,?_,r,rfl,?_⟩
     .exact jU.jQ C b8 (by intro x d;cases d)
     .rw[al]
      show cA hb.size 7 a6 r (cP [FA T.enc q.1 q.2 ni]);rw[Qj];simpa using a5
   .have al:mU T.enc T.cur.ps i ni=[]:=by unfold mU;rw[c];dsimp only;rw[if_neg λk=>by rw[a0.2 k]at d;cases d]
    refine aC ⟨rfl,z.trans e8,⟨none,0,0⟩,rfl,?_⟩;rw[al];exact cA.nil _ _ _
 rintro tg vs hc ⟨rfl,ec,s,rfl,os⟩;refine bG (Cn (tys:=[tS]) (s,()) rfl ?_);dsimp only;have D:=aw.trans ec;have tc:=t.ext D;have ej:n<=hc.size:=dI hn D.size;refine dW (gl M tc ej (hp.ext D) N hA hz) λtg vs h' d=>?_;obtain⟨rfl,cd,g,rfl,F⟩:=d;refine⟨rfl,(g.ps,()),rfl,?_⟩;dsimp only;have td:=F.t;have cT:aV (rU T) h h':=aV.pre D cd;have e1:∀{x:Addr},hb.size<=x.block->¬rU T x.block:=λ{x} d hw=>by have:=(G.lo _ (Jz G hw)).2;omega
 have fm:zL hb.size h' s ((mU T.enc T.cur.ps i ni).map (·.1)):=cd.own os λx d hw=>e1 (os.lt d).1 hw;have fy:(mU T.enc T.cur.ps i ni).length<=1:=by unfold mU;split;split<;>simp;simp
 have e2:=zL.len os;rw[cE]at e2;have de:=zL.len F.op;rw[cE]at de;have g3:g.qs.length<=4*l.length:=by
  have h1:=Rl λq c=>(F.Cx q c).1;rw[F.put]at h1;omega
 refine GA fm (dI ec.size cd.1) F.op.rd (VT _) rfl (by show(s.len+g.ps.len)*64<=_;omega) (by omega) λr1 he a1 b1 u1 d1=>?_;rw[<-Ge,<-dP]at a1;have ce:aV (λi=>∃b,s.aD=some b/\b.block=i) h' he:=aV.dK u1 λx d _=>⟨x,d,rfl⟩;have b6:∀b,s.aD=some b->¬g.Z b.block:=λb hb hz=>by
  have h1:=(os.lt hb);rcases F.zn _ hz with d|d
  .have:=(G.lo _ d).2;omega
  .omega
 have H:eQ S n he (T.at_ g):=td.oZ ce λi hi ⟨b,hb,e⟩=>b6 b hb (e ▸ hi);have cx:∀q,q∈g.qs->A3 he (T.at_ g) q:=λq c=>(F.Cx q c).1.oZ ce λi hi ⟨b,hb,e⟩=>b6 b hb (e ▸ hi);have E:∀b,r1.aD=some b->¬g.Z b.block/\hb.size<=b.block:=λb hb=>by
  refine⟨λhz=>?_,(a1.lt hb).1⟩;rcases d1 b hb with d|d
  .exact b6 b d hz
  .have:=(td.lo _ hz).2;omega
 refine cZ (λtg vs h'=>tg=0/\aV (λi=>∃b,r1.aD=some b/\b.block=i) he h'/\∃r2,vs=[dN r2]/\zL hb.size h' r2 ((mU T.enc T.cur.ps i ni++g.qs++lS T.enc T.cur.ps j o).map (·.1))/\∀b,r2.aD=some b->¬g.Z b.block) ?_ ?_
 .cases c:T.cur.ps[j]? with
  |none=>
   have ao:lS T.enc T.cur.ps j o=[]:=by unfold lS;rw[c]
   refine uL (T:=T.at_ g) H (aM (R:=λ(y:Part×Bool×Unit) _=>y.1=zP/\y.2.1=false) (UC (O g.Z) H.cur.nd (rX (H.cur.room H.A4.2)) (by omega) (.inr ?_)) λ⟨(y:Part),(ok:Bool),_⟩ h5 K ⟨Y,u⟩=>?_)
   .have h1:T.cur.t.list.length<=j:=by rw[t.cur.ls,cE];exact WW.1 c
    show((List.length T.cur.t.list:Nat):Int)<=_;omega
   .have u:ok=false:=u
    subst u;dsimp only;refine gO (bs:=PB) zP (by decide) λh6 e6 o6=>mY (bs:=PB) y o6 (xF _) λL o7 u7=>?_;have z:Ext he L:=jU.jQ (K.trans e6) u7 (by intro x d;cases d;exact K.size);refine lW (aC ⟨rfl,aV.bD z,r1,rfl,?_,λb hb=>(E b hb).1⟩);rw[ao,kQ];exact a1.ext z
  |some q=>
   have d:T.cur.t.list[((j:Int)).toNat]?=some q.1:=by rw[cR,t.cur.ls,gQ,c];rfl
   refine uL (T:=T.at_ g) H (aM (R:=λ(y:Part×Bool×Unit) _=>y.1=q.1/\y.2.1=true) (oh (O g.Z) H.cur.nd H.cur.wf (rX (H.cur.room H.A4.2)) (by omega) d) λ⟨(y:Part),(ok:Bool),_⟩ h5 K ⟨Y,u⟩=>?_);have u:ok=true:=u;have Y:y=q.1:=Y;subst u;subst Y;dsimp only;refine gO (bs:=PB) zP (by decide) λh6 e6 o6=>mY (bs:=PB) q.1 o6 (xF _) λL o7 u7=>mW ?_;have z:Ext he L:=jU.jQ (K.trans e6) u7 (by intro x d;cases d;exact K.size);have t7:=H.ext z;have a3:=eL c;have pc:=t7.cur.Cx q a3;have g2:=bp q c;refine cZ (λtg vs h'=>tg=0/\Ext L h'/\∃B:Addr,vs=[.pointer (some B)]/\EM L.size h' B (He T.enc q.1 q.2 o)) ?_ ?_
   .refine UL M (T:=T.at_ g) (fin:=λA B=>.ret 0 [.pointer (some B)]) t7 (x:=q.1) (bs:=q.2) pc o7 (by omega) (show((o:Nat):Int)<=((bJ T.enc q.2).length:Nat) by omega) λh9 A B e9 oA oB=>aC ⟨rfl,e9,B,rfl,?_⟩
    rw[cR]at oB;exact oB
   .rintro tg vs h9 ⟨rfl,e9,B,rfl,oB⟩
    refine bG (Cn (tys:=[tP]) (some B,()) rfl ?_);dsimp only;have C:=z.trans e9;have fl:=oO (enc:=T.enc) (a9 q a3);have b9:Sw.cell h9 ((B.add 2).add 0)=some (aH ((bJ T.enc q.2).drop o).length):=by
     rw[add_zero'];have:=aI.1 oB.cells 2 _ rfl;rw[this];show some (Value.int .i64 (rA ((bJ T.enc q.2).drop o)).1)=_;rw[(Ea (fl.drop o)).1]
    refine aL rfl (aL rfl (bC (b:=bI) ((B.add 2).add 0) _ rfl b9 (aE (λd=>?_) λd=>?_)))
    .rw[dL,cW]at d
     have ao:lS T.enc T.cur.ps j o=[FX T.enc q o]:=by unfold lS;rw[c];dsimp only;rw[if_pos (by omega)]
     refine hS (bs:=PB) oB ?_;have b0:=zL.len a1;rw[cE,bQ]at b0;refine Mc (n:=hb.size) (new:=Bs.inj PB (He T.enc q.1 q.2 o)) (a1.ext C) (dI (dI ec.size cd.1) (dI ce.1 C.size)) rfl (xF _) rfl (by show(r1.len+1)*64<=_;omega) (by omega) λr2 a6 a5 c5 b8 d10=>aC ⟨rfl,?_,r2,rfl,?_,λb hb=>?_⟩
     .exact(aV.bD C).trans (aV.dK b8 λx d _=>⟨x,d,rfl⟩) λi _ x=>x
     .rw[ao,dP]
      show cA hb.size 7 a6 r2 (cP (_++[He T.enc q.1 q.2 o]));rw[Ge,Qj];exact a5
     .rcases d10 b hb with d|d
      .exact(E b d).1
      .intro hz;have:=(H.lo _ hz).2;have:=C.size;omega
    .rw[gF,cW]at d
     have ao:lS T.enc T.cur.ps j o=[]:=by unfold lS;rw[c];dsimp only;rw[if_neg (by omega)]
     refine aC ⟨rfl,aV.bD C,r1,rfl,?_,λb hb=>(E b hb).1⟩;rw[ao,kQ];exact a1.ext C
 rintro tg vs N ⟨rfl,cf,r2,rfl,a2,z2⟩;refine bG (Cn (tys:=[tS]) (r2,()) rfl ?_);dsimp only;have tf:eQ S n N (T.at_ g):=H.oZ cf λi hi ⟨b,hb,e⟩=>(E b hb).1 (e ▸ hi);have c4:∀q,q∈g.qs->A3 N (T.at_ g) q:=λq c=>(cx q c).oZ cf λi hi ⟨b,hb,e⟩=>(E b hb).1 (e ▸ hi);have b3:∀q,q∈lS T.enc T.cur.ps j o->A3 N (T.at_ g) q:=λq c=>by
  unfold lS at c;cases w:T.cur.ps[j]? with
  |none=>rw[w]at c;cases c
  |some x=>
   rw[w]at c;dsimp only at c;split at c
   .rename_i bd
    rw[dE.1 c];exact A3.tail (T:=T.at_ g) (tf.cur.Cx x (eL w)) bd
   .cases c
 have ba:∀q,q∈mU T.enc T.cur.ps i ni->A3 N (T.at_ g) q:=λq c=>by
  unfold mU at c;cases w:T.cur.ps[i]? with
  |none=>rw[w]at c;cases c
  |some x=>
   rw[w]at c;dsimp only at c;split at c
   .rename_i bd
    rw[dE.1 c];exact A3.head (T:=T.at_ g) (tf.cur.Cx x (eL w)) bd (V x w)
   .cases c
 have U:∀q,q∈mU T.enc T.cur.ps i ni++g.qs++lS T.enc T.cur.ps j o->A3 N (T.at_ g) q:=λq c=>by
  rcases dH.1 c with c|c
  .rcases dH.1 c with c|c
   .exact ba q c
   .exact c4 q c
  .exact b3 q c
 have cg:T.cur.t.list.length=T.cur.ps.length:=by rw[t.cur.ls,cE]
 refine uL (T:=T.at_ g) tf (uL (T:=T.at_ g) tf (aM (R:=λ(x:Int×Unit) _=>x.1=((T.cur.t.list.length:Nat):Int)) (Any.Hj (I:=part S g.Z) tf.cur.nd) λ⟨(sz:Int),_⟩ hg eg a4=>?_));have a4:sz=_:=a4;rw[cg]at a4;subst a4;dsimp only;have tg:=tf.ext eg;refine sU tg.c2 ?_;rw[aW (by omega) (by omega),lB];have hJ:min ((j:Int)+1) (T.cur.ps.length:Int)=((min (j+1) T.cur.ps.length:Nat):Int):=by omega
 rw[hJ]
 let J:Nat->Prop:=λi=>g.Z i\/hg.size<=i
 have c9:oK (part S J) hg:=λi hi=>.inr hi;have e7:Nd (part S J) hg T.cur.root T.cur.t:=yC tg.cur.nd λi _ hi=>.inl hi;have e3:∀x,x∈(mU T.enc T.cur.ps i ni++g.qs++lS T.enc T.cur.ps j o).map (·.1)->VS (WN x) (Jt x):=λx d=>by
  obtain⟨q,c,rfl⟩:=dB.1 d;exact(U q c).wt.2
 have e4:Pn (part S J) hg r2 ((mU T.enc T.cur.ps i ni++g.qs++lS T.enc T.cur.ps j o).map (·.1)):=Wj (a2.ext eg) e3;have c6:=nj U;have dx:(dR (mU T.enc T.cur.ps i ni++g.qs++lS T.enc T.cur.ps j o)).length<=131072+4*l.length:=by
  have h1:(dR (mU T.enc T.cur.ps i ni)).length<=65536:=by
   unfold mU;split
   .rename_i q c
    split
    .have:=(t.cur.Cx q (eL c)).len
     show(dR [FB T.enc q ni]).length<=_;unfold dR FB;simp only[gD,List.flatMap_nil,kQ,dJ];omega
    .simp[dR]
   .simp[dR]
  have h2:(dR (lS T.enc T.cur.ps j o)).length<=65536:=by
   unfold lS;split
   .rename_i q c
    split
    .have:=(t.cur.Cx q (eL c)).len
     show(dR [FX T.enc q o]).length<=_;unfold dR FX;simp only[gD,List.flatMap_nil,kQ,cW];omega
    .simp[dR]
   .simp[dR]
  rw[tN,tN,bQ,bQ,F.put];omega
 have ei:=(FY (enc:=T.enc) λq c=>(U q c).bytes).1;have cr:=(t.cur.Yq t.A4.2).2;have c7:(part S J).W T.cur.t.list+(part S J).W ((mU T.enc T.cur.ps i ni++g.qs++lS T.enc T.cur.ps j o).map (·.1))<=4398046511104:=by
  have h1:(part S J).W T.cur.t.list<=1099511627776:=cr;have h2:(part S J).W ((mU T.enc T.cur.ps i ni++g.qs++lS T.enc T.cur.ps j o).map (·.1))=(cV T.enc (mU T.enc T.cur.ps i ni++g.qs++lS T.enc T.cur.ps j o)).length:=c6;rw[h2];refine dI (Nat.add_le_add h1 (dI ei dx)) ?_;omega
 have b2:=W7 (O J) (i:=(i:Int)) (j:=((min (j+1) T.cur.ps.length:Nat):Int)) e7 e4 tg.cur.wf (by omega) (by omega) (by show _<=((T.cur.t.list.length:Nat):Int);omega) c7 c9;rw[<-XF S J]at b2;refine aM (R:=λ(y:TR×Int×Unit) h'=>y.2.1=0/\∃t':Bt Part,Nd (part S J) h' y.1.1 t'/\t'.list=T.cur.t.list.take ((i:Int)).toNat++(mU T.enc T.cur.ps i ni++g.qs++lS T.enc T.cur.ps j o).map (·.1)++T.cur.t.list.drop (((min (j+1) T.cur.ps.length:Nat):Int)).toNat) (aS.mono b2 λy h' e ⟨h1,t',h2,h3,_⟩=>⟨h1,t',h2,h3⟩) λ⟨⟨(ab:OA),_⟩,(er:Int),_⟩ hh eh ⟨_,t',b4,df⟩=>?_;have b4:Nd (part S J) hh ab t':=b4;dsimp only;have th:=tg.ext eh;refine aL rfl (aL rfl (fB (.pointer ab) (show cA n 1 hh ⟨some T.p,4,4⟩ [aH T.enc,aH T.limit, .pointer T.cur.root,dN g.ad] from th.ob) (by simp) rfl λhk ok uk=>aC ⟨rfl,rfl,?_,?_⟩))
 .have c1:aV (rU T) h N:=(cT.trans ce λi hi ⟨b,hb,e⟩=>by have:=(os.lt hb).1;have:=aw.size;omega).trans cf λi hi ⟨b,hb,e⟩=>by have:=(E b hb).2;have:=aw.size;omega
  exact(c1.ext (eg.trans eh)).trans (pR uk) λi _ e=>.inl e
 .have ok:cA n 1 hk ⟨some T.p,4,4⟩ [aH T.enc,aH T.limit, .pointer ab,dN g.ad]:=ok
  have c8:T.cur.ps.drop (min (j+1) T.cur.ps.length)=T.cur.ps.drop (j+1):=by
   by_cases d:j+1<=T.cur.ps.length
   .rw[F5 d]
   .rw[Nat.min_eq_right (by omega),F6,uM (by omega)]
  have ds:t'.list=(T.cur.ps.take i++(mU T.enc T.cur.ps i ni++g.qs++lS T.enc T.cur.ps j o)++T.cur.ps.drop (j+1)).map (·.1):=by
   rw[df,t.cur.ls,cR,cR,<-Eg,<-Ml,c8];simp only[dP]
  have gm:=Pp (List.take_sublist i T.cur.ps);have gv:=Pp (List.drop_sublist (j+1) T.cur.ps);have hs:=PZ (T:=T.at_ g) (ps':=T.cur.ps.take i++(mU T.enc T.cur.ps i ni++g.qs++lS T.enc T.cur.ps j o)++T.cur.ps.drop (j+1)) th (m:=hg.size) (λi hi=>(tg.lo i hi).2) ⟨by have:=D.size;have:=cd.1;have:=ce.1;have:=cf.1;have:=eg.size;omega,eh.size⟩ b4 ds
   (λq c=>by
    rcases dH.1 c with c|c
    .rcases dH.1 c with c|c
     .exact th.cur.Cx q (rW c)
     .exact(U q c).oZ (aV.bD (F:=λ_=>False) (eg.trans eh)) λ_ _ x=>x
    .exact th.cur.Cx q (BE c))
   (by rw[tN,tN,bQ,bQ];omega) ok uk
  refine⟨_,hs,⟨rfl,rfl,rfl,rfl,λi hi=>⟨.inl (F.zm i hi),?_⟩,λi hi=>?_,λb hb=>?_⟩,F.all,?_⟩
  .have h1:=(t.lo i hi).2;have:=D.size;have:=cd.1;have:=ce.1;have:=cf.1;have:=eg.size;have:=eh.size;have:=uk.1;omega
  .rcases hi.1 with d|d
   .exact(F.zn i d).imp id λh=>by have:=D.size;omega
   .right;have:=D.size;have:=cd.1;have:=ce.1;have:=cf.1;have:=eg.size;omega
  .exact(F.adc b hb).imp id λh=>by have:=D.size;omega
  .show iG T.enc (T.cur.ps.take i++(mU T.enc T.cur.ps i ni++g.qs++lS T.enc T.cur.ps j o)++T.cur.ps.drop (j+1))=_
   have ey:iG T.enc g.qs=l.map λa=>(a, -1):=by
    rw[V7 λq c=>(F.Cx q c).2,F.uv,sZ];rfl
   have dr:iG T.enc (mU T.enc T.cur.ps i ni)=(match T.cur.ps[i]? with|some q=>(zM T.enc q).take ni|none=>[]):=by
    unfold mU;cases c:T.cur.ps[i]? with
    |none=>rfl
    |some q=>
     dsimp only;by_cases d:0<ni
     .rw[if_pos d,IP,Xr (a9 q (eL c)) (V q c)]
     .rw[if_neg d,show ni=0 by omega];simp[iG]
   have b0:iG T.enc (lS T.enc T.cur.ps j o)=(match T.cur.ps[j]? with|some q=>(zM T.enc q).drop o|none=>[]):=by
    unfold lS;cases c:T.cur.ps[j]? with
    |none=>rfl
    |some q=>
     dsimp only;by_cases d:o<(bJ T.enc q.2).length
     .rw[if_pos d,IP,Xs (a9 q (eL c)) (bp q c)]
     .rw[if_neg d,uM (by rw[Fv];omega)];simp[iG]
   rw[pL,pL,pL,pL,ey,dr,b0,eT,eD];simp only[dX]
   all_goals rfl
end
section
variable{P:Program}{S:cH}{h:aG}{Q:Nat->bH->aG->Prop}
variable{e:iM}
abbrev El:=Int×Int
def DX(E:List El)(e:iM):List El:=E.take e.1.toNat++e.2.2.1.2.map (λa=>(a, -1))++E.drop e.2.1.toNat
def jA(E:List El)(es:List iM):List El:=es.foldr (λe E=>DX E e) E
theorem qI(E:List El)(e:iM)(es:List iM):jA E (e::es)=DX (jA E es) e:=rfl
def lE(enc:Int)(E:List El):Nat:=((E.map (·.1)).flatMap (dA enc)).length
theorem lU(enc:Int)(a b:List El):lE enc (a++b)=lE enc a+lE enc b:=by simp[lE]
theorem Bc{T:TX}{s:St}(r:Lv S h T s)(he:eM T.enc):lE T.enc (iG T.enc s.ps)=(dR s.ps).length:=by
 unfold lE;rw[<-(Gt he r.bytes).2.1]
theorem YF{enc:Int}{E:List El}(g:jV enc e.2.2.1.2)(h0:0<=e.1)(h1:e.1<=e.2.1):lE enc (DX E e)<=lE enc E+4*e.2.2.1.2.length:=by
 unfold DX;have c:=lU enc (E.take e.1.toNat) (E.drop e.1.toNat);rw[eY]at c;have d:=lU enc ((E.drop e.1.toNat).take (e.2.1.toNat-e.1.toNat)) ((E.drop e.1.toNat).drop (e.2.1.toNat-e.1.toNat));rw[eY,Ej,show e.1.toNat+(e.2.1.toNat-e.1.toNat)=e.2.1.toNat by omega]at d;have j:lE enc (e.2.2.1.2.map λa=>((a, -1):El))<=4*e.2.2.1.2.length:=by
  have:=(HI g).2;unfold lE;rw[sZ];have b:(List.map ((λx:El=>x.1)∘λa=>((a, -1):El)) e.2.2.1.2)=e.2.2.1.2:=by
   conv=>rhs;rw[<-List.map_id e.2.2.1.2]
   rfl
  rw[b];exact this
 rw[lU,lU];omega
theorem N6{es:List iM}{i:Nat}(hi:es[i]?=some e):(aX (es.drop i)).length=e.2.2.1.2.length+(aX (es.drop (i+1))).length:=by
 have b:=(cQ.1 hi).1;have he:=(cQ.1 hi).2;rw[gY b,he];simp[aX]
theorem Jk(es:List iM)(i:Nat):(aX (es.drop i)).length<=(aX es).length:=by
 have:aX es=aX (es.take i)++aX (es.drop i):=by unfold aX;rw[<-gX,eY]
 rw[this,bQ];omega
structure ez(S:cH)(n:Nat)(T:TX)(h0 h:aG)(es:List iM)(r:Int)(T':TX):Prop where
 ref:Lu T.enc T.limit (cV T.enc T.cur.ps) es r
 t:eQ S n h T'
 nx:MD T T' h0.size
 iG:iG T.enc T'.cur.ps=if r=0 then jA (iG T.enc T.cur.ps) es else iG T.enc T.cur.ps
 len:T'.A.length<=T.A.length+4*(aX es).length
theorem YL(M:kJ P S){n:Nat}{T:TX}{x:GO}(t:eQ S n h T)(hn:n<=h.size)(Y:∀h',aV (rU T) h h'->(Sh.list jT).ok h' x)(hz:∀e,e∈x.2->e.2.2.1.2≠[]->∀a,e.2.2.1.1.aD=some a->¬T.Z a.block)
  (hA:T.A.length+4*(aX x.2).length<=400000000000) (b3:(dR T.cur.ps).length<=T.limit) :
  wp P (yM S (some T.p) x.1) h λtg vs h'=>tg=0/\aV (rU T) h h'/\∃r T',vs=[aH r]/\ez S n T h h' x.2 r T':=by
 unfold yM;have ho:=Y h (aV.refl _ _);have b8:=ho.len;have cr:=ho.2.1;have c6:=ho.2.2.1;refine aM (Y4 M t ho (by omega) b3) λ⟨(r:Int),_⟩ h1 e1 hr=>?_;have hr:Lu T.enc T.limit (cV T.enc T.cur.ps) x.2 r:=hr;dsimp only;refine aE (λB=>?_) λB=>?_
 .rw[kG]at B
  exact aC ⟨rfl,aV.bD e1,r,T,rfl,hr,t.ext e1,MD.refl _ _,by rw[if_neg B],by omega⟩
 rw[lQ]at B;subst B;obtain⟨cg,ab,a6,_⟩:x.2.length<=70000/\uQ (cV T.enc T.cur.ps).length 0 x.2/\jV T.enc (aX x.2)/\True:=by
  cases hr with
  |ok a b c d=>exact⟨a,b,c,trivial⟩
 have hlen:(cV T.enc T.cur.ps).length=(iG T.enc T.cur.ps).length:=(yW ..).symm;have c7:=Bc t.cur t.enc;have ct:=t.A4;have al:bK .i64 (aQ x.1.len) 1=(x.2.length:Int)-1:=by rw[aN,b8,bY (by omega) (by omega)]
 rw[al];refine dQ (G:=Nat×TX) (λg (s:Int×Unit) h'=>s.1=(g.1:Int)-1/\g.1<=x.2.length/\aV (rU T) h h'/\eQ S n h' g.2/\MD T g.2 h.size/\iG T.enc g.2.cur.ps=jA (iG T.enc T.cur.ps) (x.2.drop g.1) /\
   dG 0 (x.2.take g.1)<=(iG T.enc g.2.cur.ps).length/\(dR g.2.cur.ps).length<=(dR T.cur.ps).length+4*(aX (x.2.drop g.1)).length/\g.2.A.length<=T.A.length+4*(aX (x.2.drop g.1)).length) (λg=>g.1)
  (λtg vs h'=>tg=2/\vs=[]/\aV (rU T) h h'/\∃T',eQ S n h' T'/\MD T T' h.size/\iG T.enc T'.cur.ps=jA (iG T.enc T.cur.ps) x.2/\T'.A.length<=T.A.length+4*(aX x.2).length)
  (x.2.length,T) ⟨rfl,bM _,aV.bD e1,t.ext e1,MD.refl _ _,by rw[F6];rfl,?_,Em _ _,Em _ _⟩ ?_ ?_
 .rw[fH,<-hlen]
  have:∀(es:List iM) (a L:Int),a<=L->uQ L a es->dG a es<=L:=by
   intro es
   induction es with
   |nil=>intro a L h _;exact h
   |cons e es ih=>intro a L h ⟨_,_,I,h4⟩;exact ih _ _ I h4
  exact this _ _ _ (by omega) ab
 .rintro⟨k,o⟩ ⟨(s:Int),u⟩ h2 ⟨hs,J,c2,t2,nx,V,a0,bs,O⟩
  dsimp only at hs J t2 nx V a0 bs O⊢;subst hs;refine aE (λB=>?_) λB=>?_
  .rw[dD]at B
   obtain⟨i,rfl⟩:∃i,k=i+1:=⟨k-1,by omega⟩;have hi:((i+1:Nat):Int)-1=(i:Int):=by omega
   rw[hi];obtain⟨e,j⟩:∃e,x.2[i]?=some e:=⟨x.2[i]'(by omega),cK (by omega)⟩;have aw:=eL j;have a4:=ab.at j;have cx:=Dd (ab.take i);have b4:x.2.take (i+1)=x.2.take i++[e]:=by rw[eN,j];rfl
   rw[b4,zT]at a0;have bt:x.2.drop i=e::x.2.drop (i+1):=by
    have b1:=(cQ.1 j).1;have he:=(cQ.1 j).2;rw[gY b1,he]
   have df:=N6 j;have de:=Jk x.2 i;have W:jV T.enc e.2.2.1.2:=λa ha=>a6 a (by unfold aX;exact GC.2 ⟨e,aw,ha⟩);have C:jA (iG T.enc T.cur.ps) (x.2.drop i)=DX (iG T.enc o.cur.ps) e:=by rw[bt,qI,<-V]
   have a9:dG 0 (x.2.take i)<=(DX (iG T.enc o.cur.ps) e).length:=by
    unfold DX;rw[bQ,bQ,dJ];omega
   refine cZ (λtg vs h'=>tg=0/\vs=[]/\aV (rU T) h h'/\∃z,eQ S n h' z/\MD T z h.size/\iG T.enc z.cur.ps=jA (iG T.enc T.cur.ps) (x.2.drop i)/\(dR z.cur.ps).length<=(dR T.cur.ps).length+4*(aX (x.2.drop i)).length/\z.A.length<=T.A.length+4*(aX (x.2.drop i)).length) ?_ ?_
   .refine D4 (Y h2 c2) j λa I e3 _ o3=>?_
    have l0:∀{K:Int->aK} {Q:Nat->bH->aG->Prop} {h'},Ext I h'->wp P (K e.1) h' Q->wp P (.load (tI) (aB (some a) 0) K) h' Q:=λq J=>bC (b:=bI) _ e.1 rfl (aI.1 (o3.ext q).cells 0 _ rfl) J;have l1:∀{K:Int->aK} {Q:Nat->bH->aG->Prop} {h'},Ext I h'->wp P (K e.2.1) h' Q->wp P (.load (tI) (aB (some a) 1) K) h' Q:=λq J=>bC (b:=bI) _ e.2.1 rfl (aI.1 (o3.ext q).cells 1 _ rfl) J;have l2:∀{K:Sl->aK} {Q:Nat->bH->aG->Prop} {h'},Ext I h'->wp P (K e.2.2.1.1) h' Q->wp P (.load (tS) (aB (some a) 2) K) h' Q:=λq J=>bC (b:=.sl) _ e.2.2.1.1 rfl (aI.1 (o3.ext q).cells 2 _ rfl) J;have N:∀{h'},aV (rU T) h h'->kW .i64 h' e.2.2.1.1 e.2.2.1.2:=λc=>Sh.lO ((Y _ c).el j).2.2.1;have c8:=(N c2).len;have c3:=c2.ext e3;have E3:=Ext.refl I;refine bZ (e.1<e.2.1\/0<e.2.2.1.2.length) ?_ λbb h4 H hb=>aE (λD=>?_) λD=>?_
    .refine l0 E3 (l1 E3 (aE (λD=>aC ⟨rfl,Ext.refl _,true,rfl,?_⟩) λD=>l2 E3 (aC ⟨rfl,Ext.refl _,_,rfl,?_⟩)))
     .rw[aU]at D;exact Iff.intro (λ_=>.inl D) λ_=>rfl
     .rw[aY]at D;rw[dL,aN];omega
    .have c4:=c3.ext H
     have t4:=(t2.ext e3).ext H;have b2:o.p=T.p:=nx.p;have w:o.enc=T.enc:=nx.enc;refine l0 H (l1 H (l2 H ?_));rw[<-b2];refine dW (Xk M (T:=o) t4 (dI hn c4.1) (N c4) (by rw[w];exact W) (by omega) (λa3 b hb cd=>?_) (by omega) a4.2.1 (by rw[w];omega) (by omega)) λtg vs h5 b6=>?_
     .have h0:b.block<h.size:=by
       have b0:=N (aV.refl _ _);obtain⟨y,l',b9⟩:∃y l',e.2.2.1.2=y::l':=by
        cases hh:e.2.2.1.2 with
        |nil=>exact absurd hh a3
        |cons y l'=>exact⟨y,l',rfl⟩
       obtain⟨b',eb,cb⟩:=b0.rd.at (i:=0) (by rw[b9];simp);rw[hb]at eb;cases eb;have:=BY cb;rw[iT]at this;exact this
      rcases nx.zn _ cd with hy|hy
      .exact hz e aw a3 b hb hy
      .omega
     .obtain⟨rfl,rfl,c5,z,t5,a5,bo,U⟩:=b6
      refine⟨rfl,(),rfl,aC ⟨rfl,rfl,?_,z,t5,nx.trans a5 c4.1,?_,?_,?_⟩⟩
      .exact c4.trans c5 λi hi hw=>(nx.yz hw).elim id λh=>by omega
      .rw[C];rw[w]at U;exact U
      .have h6:=Bc t5.cur t5.enc
       have h7:=Bc t2.cur t2.enc;rw[a5.enc,w]at h6;rw[w]at h7 U;rw[<-h6,U];have h8:=YF (E:=iG T.enc o.cur.ps) W (by omega) a4.2.1;unfold DX at h8;rw[h7]at h8;omega
      .rw[bo,bQ]
       have:=(HI W).2;rw[w];omega
    .have c9:¬(e.1<e.2.1\/0<e.2.2.1.2.length):=λk=>by rw[hb.2 k]at D;cases D
     have ba:e.2.2.1.2=[]:=At (by omega);refine aC ⟨rfl,rfl,c3.ext H,o,(t2.ext e3).ext H,nx,?_,by omega,by omega⟩;rw[C];unfold DX;rw[ba,show e.2.1=e.1 by omega];simp
   .rintro tg vs I ⟨rfl,rfl,c3,z,t3,cf,ao,bp,bd⟩
    refine bG (bO ?_);rw[bY (by omega) (by omega)];exact aC ⟨λ_=>⟨(i,z),((i:Int)-1,()),rfl,⟨rfl,by dsimp only;omega,c3,t3,cf,ao,by dsimp only;rw[ao,C];exact a9,bp,bd⟩,by dsimp only;omega⟩,λh=>absurd rfl h⟩
  .rw[eS]at B
   have:k=0:=by omega
   subst this;exact aC ⟨λh=>absurd h (by decide),λ_=>⟨rfl,rfl,c2,o,t2,nx,V,O⟩⟩
 .rintro tg vs h2 ⟨rfl,rfl,c2,o,t2,nx,V,O⟩
  exact bG (bO (aC ⟨rfl,c2,0,o,rfl,hr,t2,nx,by rw[if_pos rfl];exact V,O⟩))
end
section
variable{P:Program}{S:cH}{h:aG}{Q:Nat->bH->aG->Prop}
variable{i:Int}
structure Clb(P:Program)(S:cH):Prop where
 it:∀(y:Value) (a b:OA),dz P (.func (.func S.jJ) #[] #[.pointer a, .pointer b]) [y] (Aw S y a b)
 wk:∀(p:OA) (i:Int) (a b:OA),dz P (.func (.func S.mM) #[] #[.pointer a, .pointer b]) [.pointer p,iv i] (xD S p i a b)
structure Cl0(P:Program)(S:cH):Prop extends Clb P S where
 atoms:∀(a t:Int) (p:OA),dz P (.func (.func S.wJ) #[] #[.pointer p]) [iv a,iv t] (ES S a t p)
structure z8(P:Program)(S:cH):Prop extends Cl0 P S where
 tags:∀(a t:Int) (p:OA),dz P (.func (.func S.tQ) #[] #[.pointer p]) [iv a,iv t] (Co S a t p)
structure Yu(P:Program)(S:cH):Prop extends Clb P S where
 tags:∀(a t:Int) (p:OA),dz P (.func (.func S.tQ) #[] #[.pointer p]) [iv a,iv t] (Co S a t p)
instance:Coe (z8 P S) (Cl0 P S):=⟨z8.toCl0⟩
instance:Coe (Cl0 P S) (Clb P S):=⟨Cl0.toClb⟩
instance:Coe (Yu P S) (Clb P S):=⟨Yu.toClb⟩
theorem Clb.yw(C:Clb P S)(Z:Nat->Prop):my P (part S Z):=⟨λy a b=>C.it y a b,λp i a b=>C.wk p i a b⟩
structure ItR(h:aG)(root:OA)(i:Int)(a b:Addr):Prop where
 ca:Sw.cell h a=some (.pointer root)
 cb:Sw.cell h b=some (iv i)
theorem YP{p:OA}:aS P (qO S (p,()) i) [.one .any] h λ(y:Value×Unit) h'=>∃a b,y.1 = .func (.func S.jJ) #[] #[.pointer (some a), .pointer (some b)]/\ItR h' p i a b/\h.size<=a.block/\h.size<=b.block:=by
 unfold qO aS;refine jR p λc g o1=>λel=>?_;have d:Ext c (c.push (.cells [iv i].toArray el)):=Ext.push ..;have j:cA c.size 1 (c.push (.cells [iv i].toArray el)) ⟨some ⟨c.size,0,none⟩,1,1⟩ [iv i]:=bR rfl (by decide) (by decide);generalize(c.push (.cells [iv i].toArray el))=o at d j⊢;exact aC ⟨rfl,g.trans d,(_,()),rfl,_,_,rfl,⟨kK (o1.ext d),kK j⟩,bM _,g.size⟩
theorem Yn(C:Clb P S){n:Nat}{T:TX}{a b:Addr}{body:OA×Unit->aK}{K:Nat->aK}(t:eQ S n h T)(hi:cY .i64 i)(it:ItR h T.cur.root i a b)(J:Nat->aG->Prop)(F:Nat->aG->Prop)
  (y:∀k a b,J k a->aV (own h.size 4) a b->J k b) (sF:∀k a b,F k a->aV (own h.size 4) a b->F k b)
  (hr:∀k q d c,(T.cur.ps.drop i.toNat)[k]?=some q->J k d->h.size+4<=d.size->EM (h.size+4) d c q.1->wp P (body (some c,())) d λtag _ g=>iI (λi=>own h.size 4 i\/((T.Z i\/i=a.block\/i=b.block)/\i<h.size)) d g/\(tag=0->J (k+1) g)/\(tag≠0->F tag g))
  (j0:J 0 h)
  (Y:∀j o,h.size+2<=o.size->(j=0/\J (T.cur.ps.drop i.toNat).length o\/j≠0/\F j o)->wp P (K j) o λt vs D=>iI (own h.size 1) o D/\∀E,aV (own h.size 1) D E->E.size=D.size->Q t vs E) :
  wp P (.range (.func (.func S.jJ) #[] #[.pointer (some a), .pointer (some b)]) [.agg PB] [tP] (λ(r:Part×Unit)=>
   .alloc (Bs.inj PB zP) λ(c:Addr)=>.store (some c) (Bs.inj PB r.1)<|.ret 0 [.pointer (some c)]) body K) h Q:=by
 let Z:Nat->Prop:=λi=>T.Z i\/i=a.block\/i=b.block
 have nd:Nd (part S Z) h T.cur.root T.cur.t:=yC t.cur.nd λ_ _ h=>.inl h;have U:=U6 (Ch S Z (P:=P)) (C.yw Z) nd (rX (t.cur.room t.A4.2)) hi it.ca it.cb (.inr (.inl rfl)) (.inr (.inr rfl));refine dw (A:=AL (part S Z) (T.cur.t.list.drop i.toNat)) (N:=(T.cur.t.list.drop i.toNat).length) (Z:=Z) (m:=2) (h0:=h) U (iI.refl _ _) J F y sF (λk hp d args ⟨r,_,e⟩=>⟨(r,()),e⟩) ?_ j0 ?_
 .rintro k hp d ⟨x,u⟩ ab j al c ao a0 ⟨r,M,L⟩
  have G:Bs.inj PB x=Bs.inj PB r:=by
   have d:=congrArg (λl=>l.head?) L;simp only[Ts.inj,List.head?_cons,gP]at d;have g:(Value.agg (Bs.inj PB x).toArray)=Value.agg (Bs.inj PB r).toArray:=d;injection g with g;exact List.toArray_inj g
  dsimp only;rw[G];have p:∃q,(T.cur.ps.drop i.toNat)[k]?=some q/\r=q.1:=by
   have d:(T.cur.t.list.drop i.toNat)[k]?=some r:=M;rw[t.cur.ls,<-Ml,gQ]at d;cases p:(T.cur.ps.drop i.toNat)[k]? with
   |none=>rw[p]at d;cases d
   |some q=>rw[p]at d;exact⟨q,rfl,(dU d).symm⟩
  obtain⟨q,p,rfl⟩:=p;refine gO (bs:=PB) zP (by decide) λg H o2=>mY (bs:=PB) q.1 o2 (xF _) λW o3 V=>aC ⟨rfl,(some ⟨d.size,0,none⟩,()),rfl,?_,λI c3 aw=>?_⟩
  .exact iI.bD (jU.jQ H V (by intro z w;cases w;exact bM _))
  .have B:Ext d W:=jU.jQ H V (by intro z w;cases w;exact bM _)
   refine hr k q I _ p ?_ (by have:=B.size;omega) ((c3.own o3 λz w hw=>by cases w;have:=hw.2;dsimp only at this;omega).mono (by omega));exact y _ _ _ (y _ _ _ (y _ _ _ j c) (aV.bD B)) c3
 .intro j o O a3 G
  refine Y j o O ?_;have:(T.cur.t.list.drop i.toNat).length=(T.cur.ps.drop i.toNat).length:=by rw[t.cur.ls,cW,cW,cE]
  rw[<-this];exact G
theorem av{n:Nat}{k:IntKind}{s x:Sl}{pre mid post l:bB}{i:Nat}{K:Nat->aK}(o:bV n k h s (pre++mid++post))(A:kW k h x l)(Y:l.length=mid.length)(h0:0<l.length)(hi:i=pre.length)
  (O:∀h',bV n k h' s (pre++l++post)->jU s h h'->h'.size=h.size->wp P (K l.length) h' Q):wp P (.copy 1 ⟨bE s.aD s.cap i 1,cS s.len i,cS s.cap i⟩ x K) h Q:=by
 subst hi;have M:=A.len;have L:=o.len;simp only[bQ]at L;obtain⟨o1,o2,U,p⟩:=o.own;cases hb:s.aD with
 |none=>rw[hb]at p;simp only at p;omega
 |some a=>
  rw[hb]at p;obtain⟨b,off,spot⟩:=a;obtain⟨e0,D,E,cs,elem,G,H,I⟩:=p;simp only at e0 D E G;subst e0;subst D;have u:bE (some (⟨b,0,none⟩:Addr)) s.cap pre.length 1=some ⟨b,pre.length,none⟩:=by
   unfold bE;rw[if_neg (by omega)];simp[pK]
  rw[u];have g:min x.len (cS s.len pre.length)=l.length:=by unfold cS;omega
  obtain⟨w,C,c1,c2,c3,B,W,N⟩:=mH (vs:=l.map (.int k)) (i:=0) (off:=pre.length) G (by intro y c;obtain⟨z,_,rfl⟩:=dB.1 c;rfl) (by rw[cE];simp at H;omega);refine⟨l.map (.int k),?_,?_⟩
  .rw[g]
   have:=A.rd.Hs;rw[M]at this;exact this
  .dsimp only
   rw[g];refine⟨w,O _ ⟨⟨by simp at o1⊢;omega,o2,U,?_⟩,?_⟩ ⟨by unfold nZ;omega,λj d J=>N j λe=>(J _ hb) e.symm,λa e=>by unfold nZ;rw[jH];exact e⟩ (by unfold nZ;omega)⟩
   .rw[hb]
    refine⟨rfl,rfl,E,C,elem,c1,by rw[c2,H],λj v d=>?_⟩;rw[dP,dP]at d;by_cases t:j<pre.length
    .rw[dX,mL (by rw[cE];exact t)]at d
     rw[B j (by omega)];exact I j v (by rw[dP,dP,dX,mL (by rw[cE];exact t)];exact d)
    .by_cases V:j<pre.length+l.length
     .rw[mL (by simp;omega),jZ (by simp;omega),cE]at d
      have:=c3 (j-pre.length) v d;rw[show pre.length+0+(j-pre.length)=j by omega]at this;exact this
     .rw[jZ (by simp;omega)]at d
      rw[B j (by simp;omega)];refine I j v ?_;rw[dP,dP,jZ (by simp;omega)];simp only[bQ,cE]at d⊢;rw[show j-(pre.length+mid.length)=j-(pre.length+l.length) by omega];exact d
   .intro y c
    rcases dH.1 c with c|c
    .rcases dH.1 c with c|c
     .exact o.wf y (oW _ (oW _ c))
     .exact A.wf y c
    .exact o.wf y (qM _ c)
end
section
variable{P:Program}{S:cH}{h:aG}{Q:Nat->bH->aG->Prop}
variable{a:Addr}
theorem bj{k:IntKind}{bytes n:Nat}{K:Sl->aK}(h1:n<2^63)(b:bytes*n<=2^48)(c:∀h' r,Ext h h'->bV h.size k h' r (List.replicate n 0)->wp P (K r) h' Q):wp P (.mk bytes [.int k 0] (n:Int) (n:Int) K) h Q:=by
 refine⟨⟨by omega,kR _,by omega,by exact_mod_cast b⟩,λelem=>c _ _ (Ext.push ..) ⟨⟨by simp,by simp,by dsimp only;omega,?_⟩,λx d=>by rw[(Sb.1 d).2];exact qJ k⟩⟩;refine⟨rfl,rfl,bM _,_,elem,Ef,?_,λi v hi=>?_⟩
 .rw[P7];simp
 .rw[P7]
  rw[List.map_replicate]at hi;rw[RY];simpa using hi
theorem Od(v:Value){K:Addr->aK}(b:∀h',Ext h h'->cA h.size 1 h' ⟨some ⟨h.size,0,none⟩,1,1⟩ [v]->h'.size=h.size+1->wp P (K ⟨h.size,0,none⟩) h' Q):wp P (.alloc [v] K) h Q:=
 λel=>b _ (Ext.push ..) (bR rfl (by decide) (by decide)) (by simp)
abbrev Pm(n:Nat)(h:aG)(a:Addr)(v:Value):Prop:=cA n 1 h ⟨some a,1,1⟩ [v]
theorem Dm{n:Nat}{b:B}{x:b.den}{K:b.den->aK}(o:Pm n h a (b.inj x))(c:wp P (K x) h Q):wp P (.load (.one b) (some a) K) h Q:=bC a x rfl (kK o) c
theorem Jo{n:Nat}{v:Value}(w:Value){K:aK}(o:Pm n h a v)(hw:flat w=true)(b:∀h',Pm n h' a w->jU ⟨some a,1,1⟩ h h'->wp P K h' Q):wp P (.store (some a) [w] K) h Q:=
 fR [w] o rfl (by intro u hu;rw[dE.1 hu];exact hw) b
theorem T6(z w:Value){K:Addr->aK}(hw:flat w=true)(d:∀h',Ext h h'->Pm h.size h' ⟨h.size,0,none⟩ w->wp P (K ⟨h.size,0,none⟩) h' Q):wp P (.alloc [z] λa=>.store (some a) [w] (K a)) h Q:=
 Od z λo b o1 _=>Jo w o1 hw λc o2 j=>d c (jU.jQ b j (by intro x g;cases g;exact bM _)) o2
theorem gZ.oZ{n:Nat}{F:Nat->Prop}{a b c:aG}(k:gZ n a b)(d:aV F b c)(j:n<=b.size)(g:∀i,F i->n<=i):gZ n a c:=gZ.trans k (d.aP j λi hi x=>by have:=g i x;omega)
end
section
variable{P:Program}{S:cH}{h:aG}{Q:Nat->bH->aG->Prop}
variable{l:bB}{q:Part}
theorem S0(tag:Int):∀(ts:List (Int×Int)) (o w:Nat) (t:Int×Int),ts[w]?=some t->(iH tag o ts)[w]?=some (t.1,if tag<0 then -1 else tag+((o+dM (ts.take w):Nat):Int))
 |[],o,w,t,h=>by simp at h
 |x::ts,o,0,t,h=>by simp at h;subst h;simp[iH,dM]
 |x::ts,o,w+1,t,h=>by
  have:=S0 tag ts (o+x.2.toNat) w t (by simpa using h);simp only[iH,R8,JM,nB];rw[this,BD]
structure yd(P:Program)(see:Value)(f:El->Int)(cc:Addr):Prop where
 flat:flat see=true
 go:∀(h:aG) (m:Nat) (e:El) (s:Sl) (l:bB) (Q:Nat->bH->aG->Prop) (K:Unit->aK),m<=h.size->Pm m h cc (dN s)->bV m .i64 h s l->cY .i64 e.1->cY .i64 e.2->l.length<=1099511627776->(∀x,s.aD=some x->x.block≠cc.block) ->
  (∀h' s',Pm m h' cc (dN s')->bV m .i64 h' s' (l++[f e])->aV (λi=>i=cc.block\/∃x,s.aD=some x/\x.block=i) h h'->(∀x,s'.aD=some x->s.aD=some x\/h.size<=x.block)->wp P (K ()) h' Q)->wp P (.kB see [iv e.1,iv e.2] [] K) h Q
theorem T9{m:Nat}{cc:Addr}{s:Sl}{v:Int}{K:aK}(hm:m<=h.size)(oc:Pm m h cc (dN s))(ol:bV m .i64 h s l)(w:cY .i64 v)(E:l.length<=1099511627776)(d:∀x,s.aD=some x->x.block≠cc.block)
  (u:∀h' g,Pm m h' cc (dN g)->bV m .i64 h' g (l++[v])->aV (λi=>i=cc.block\/∃x,s.aD=some x/\x.block=i) h h'->(∀x,g.aD=some x->s.aD=some x\/h.size<=x.block)->wp P K h' Q) :
  wp P (.load (tS) (some cc) λ(A:Sl)=>.alloc [iv v] λ(a2:Addr)=>.append 1 8 [iv 0] A ⟨some a2,1,1⟩ λ(B:Sl)=>.store (some cc) [dN B] K) h Q:=by
 refine Dm (b:=.sl) (x:=s) oc (HN ol hm w (by omega) (by omega) λr p k1 o1 C j=>?_);have c1:aV (λi=>∃x,s.aD=some x/\x.block=i) h p:=aV.dK C λx c _=>⟨x,c,rfl⟩;have D:cc.block<h.size:=(oc.lt rfl).2;refine Jo (dN r) (c1.own oc λx c ⟨y,z,e⟩=>by cases c;exact d y z e) rfl λt o2 o=>u t r o2 (o1.Hg o λa b ha hb=>?_) ?_ j
 .cases hb
  rcases j a ha with c|c
  .exact(d a c).symm
  .omega
 .exact(c1.mono λi _ e=>.inr e).trans ((pR o).mono λi _ e=>.inl e) λi _ x=>x
theorem XZ(C:Cl0 P S)(cc:Addr):yd P (.func (.func S.wJ) #[] #[.pointer (some cc)]) (·.1) cc:=
 ⟨rfl,λh m e s l Q K hm oc ol j u p g o=>Kx (C.atoms _ _ _) (T9 hm oc ol j p g λh' t a b c d=>aC ⟨rfl,(),rfl,o h' t a b c d⟩)⟩
theorem X4(C:Yu P S)(cc:Addr):yd P (.func (.func S.tQ) #[] #[.pointer (some cc)]) (·.2) cc:=
 ⟨rfl,λh m e s l Q K hm oc ol u j p g o=>Kx (C.tags _ _ _) (T9 hm oc ol j p g λh' t a b c d=>aC ⟨rfl,(),rfl,o h' t a b c d⟩)⟩
def OP(E:List El)(from_ to:Int):List El:=(E.take (min to E.length).toNat).drop (max from_ 0).toNat
structure WJ(S:cH)(P:Program)(n:Nat)(T:TX)(h0:aG)(hr m0:Nat)(a1 a2 a7 a8 cc:Addr)(see:Value)(f:El->Int)(R:List El)(m cnt v:Nat)(h:aG)(s:Sl):Prop where
 c:aV (λi=>i=cc.block) h0 h
 sz:hr<=h.size
 t:eQ S n h T
 o1:Pm h0.size h a1 (.pointer (some T.p))
 o2:Pm h0.size h a2 see
 o7:Pm h0.size h a7 (aH ((m-v:Nat):Int))
 o8:Pm h0.size h a8 (aH ((cnt-(v-m):Nat):Int))
 oc:Pm m0 h cc (dN s)
 ol:bV m0 .i64 h s (((R.take v).drop m).map f)
 sb:∀x,s.aD=some x->hr+4<=x.block/\0<((R.take v).drop m).length
 lt:a1.block<hr/\a2.block<hr/\a7.block<hr/\a8.block<hr/\cc.block<h0.size/\h0.size<=hr
variable{n:Nat}{T:TX}{h0:aG}{hr m0:Nat}{a1 a2 a7 a8 cc:Addr}{see:Value}{f:El->Int}{R:List El}{m cnt v:Nat}{s:Sl}
theorem WJ.oZ{h':aG}{F:Nat->Prop}(j:WJ S P n T h0 hr m0 a1 a2 a7 a8 cc see f R m cnt v h s)(c:aV F h h')(d:∀i,F i->hr<=i/\∀x,s.aD=some x->x.block≠i)(g:∀i,T.Z i->i<h0.size):WJ S P n T h0 hr m0 a1 a2 a7 a8 cc see f R m cnt v h' s:=by
 obtain⟨o,p,u,w,lc,z⟩:=j.lt;exact⟨j.c.trans (c.mono λi _ x=>x) λi hi x=>by have:=(d i x).1;omega,dI j.sz c.1,j.t.oZ c λi hi x=>by have:=(d i x).1;have:=g i hi;omega,
  c.own j.o1 λx b y=>by cases b;have:=(d _ y).1;omega,c.own j.o2 λx b y=>by cases b;have:=(d _ y).1;omega,c.own j.o7 λx b y=>by cases b;have:=(d _ y).1;omega,c.own j.o8 λx b y=>by cases b;have:=(d _ y).1;omega,
  c.own j.oc λx b y=>by cases b;have:=(d _ y).1;omega,c.qL j.ol λx b y=>(d _ y).2 x b rfl,j.sb,j.lt⟩
theorem WJ.ext{h':aG}(j:WJ S P n T h0 hr m0 a1 a2 a7 a8 cc see f R m cnt v h s)(c:Ext h h')(b:∀i,T.Z i->i<h0.size):WJ S P n T h0 hr m0 a1 a2 a7 a8 cc see f R m cnt v h' s:=
 j.oZ (F:=λ_=>False) (aV.bD c) (λi x=>x.elim) b
theorem tx{k:IntKind}{w:Nat}{c x:Addr}(o:bV m0 k h s l)(u:0<l.length)(d:s.aD=some x)(oc:EM w h c q):x.block≠c.block:=by
 intro e;obtain⟨_,_,_,g⟩:=id o.own;rw[d]at g;obtain⟨j,p,_⟩:=g;obtain⟨_,_,_,t⟩:=id oc;obtain⟨c0,c1,_⟩:=t;obtain⟨y,b,cy⟩:=o.lO.rd.at (i:=0) u;rw[d]at b;cases b;have cc:=aI.1 oc.cells 0 _ rfl;have:x=c:=by
  obtain⟨z,A,xs⟩:=x;obtain⟨cb,co,cs⟩:=c;dsimp only at e j p c0 c1;subst e;subst j;subst p;subst c0;subst c1;rfl
 rw[this]at cy;rw[cc]at cy;cases cy
theorem Yc{E:El}(b:R[v]?=some E)(hm:m<=v):(R.take (v+1)).drop m=(R.take v).drop m++[E]:=by
 rw[eN,b];rw[R7 (by rw[dJ];have:=(cQ.1 b).1;omega)];rfl
theorem Yb(hm:v<m):(R.take (v+1)).drop m=[]/\(R.take v).drop m=[]:=by
 constructor<;>exact uM (by rw[dJ];omega)
theorem qe(hs:yd P see f cc){c:Addr}{E:El}{tag at_:Int}{nr:Nat}{W:Nat->Prop}(j:WJ S P n T h0 hr m0 a1 a2 a7 a8 cc see f R m cnt v h s)(b4:m0<=h0.size)(hz:∀i,T.Z i->i<h0.size)(a9:¬T.Z cc.block)(hd:a1.block≠a7.block/\a1.block≠a8.block/\a2.block≠a7.block/\a2.block≠a8.block/\a7.block≠a8.block)
  (G:h0.size<=a1.block/\h0.size<=a2.block/\h0.size<=a7.block/\h0.size<=a8.block) (hv:R[v]?=some E) (b3:v-m<cnt) (bp:m<=1099511627776/\cnt<=1099511627776/\v<=1099511627776) (oc:EM (hr+4) h c q) (al:q.2.1=tag) (I:E.2=if tag<0 then -1 else tag+at_) (A:cY .i64 E.1/\cY .i64 E.2 /\ -9223372036854775808<=tag+at_/\tag+at_<=9223372036854775807)
  (J:∀i,W i->i≠a7.block/\i≠a8.block/\i≠cc.block/\i<hr+4) :
  wp P (.bind
     (.load (tI) (some a7) λ(aw:Int)=>
     aR (sN aw 0)
      (.load (tI) (some a7) λ(a0:Int)=>
      .store (some a7) [aH (bK .i64 a0 1)]<|
      .ret 0 [])<|
     .bind
      (bF (aJ (some c))<|
      .load (tI) (aB (some c) 1) λ(a3:Int)=>
      aR (fG a3 0)
       (.load (.one .any) (some a2) λ(Y:Value)=>
       .kB Y [aH E.1,aH (-1)] [] λ(bs:Unit)=>
       .ret 0 [])<|
      .load (.one .any) (some a2) λ(ab:Value)=>
      bF (aJ (some c))<|
      .load (tI) (aB (some c) 1) λ(a4:Int)=>
      .kB ab [aH E.1,aH (aT .i64 a4 at_)] [] λ(bt:Unit)=>
      .ret 0 []) λ(ao:Nat)=>
     λ(L:bH)=>
     aR (jI ao 0)
      (.cast [] L λ(b0:Unit)=>
      .load (tI) (some a8) λ(a5:Int)=>
      .store (some a8) [aH (bK .i64 a5 1)]<|
      .load (tI) (some a8) λ(a6:Int)=>
      aR (gN a6 0)
       (.ret 1 [])<|
      .ret 0 [])<|
     .fail) λk vs=>.ret k vs) h λtg vs h'=>vs=[]/\iI W h h'/\EM (hr+4) h' c q/\∃p,WJ S P n T h0 hr m0 a1 a2 a7 a8 cc see f R m cnt (v+1) h' p/\((tg=0/\v+1-m<cnt)\/(tg=1/\v+1=m+cnt)):=by
 obtain⟨l1,l2,l7,l8,lc,lh⟩:=j.lt;obtain⟨d17,d18,d27,d28,d78⟩:=hd;have b2:hr+4<=c.block:=(oc.lt rfl).1;refine cZ (λtg vs h'=>vs=[]/\iI W h h'/\EM (hr+4) h' c q/\∃p,WJ S P n T h0 hr m0 a1 a2 a7 a8 cc see f R m cnt (v+1) h' p/\((tg=0/\v+1-m<cnt)\/(tg=1/\v+1=m+cnt))) ?_ λt vs h' d=>aC d;refine Dm (b:=bI) (x:=((m-v:Nat):Int)) j.o7 (aE (λB=>?_) λB=>?_)
 .rw[dL]at B
  obtain⟨k1,k2⟩:=Yb (R:=R) (show v<m by omega);refine Dm (b:=bI) (x:=((m-v:Nat):Int)) j.o7 ?_;rw[bY (by omega) (by omega)];refine Jo (aH (((m-v:Nat):Int)-1)) j.o7 rfl λH o1 u1=>aC ⟨rfl,?_,?_,s,?_, .inl ⟨rfl,by omega⟩⟩
  .exact iI.NU (pR u1) λi hi hw e=>(J i hw).1 e
  .exact qW oc u1 λx d=>by cases d;omega
  .have g:aV (λi=>i=a7.block) h H:=pR u1
   refine⟨j.c.trans g λi hi e=>by have e:i=a7.block:=e;omega,dI j.sz g.1,j.t.oZ g λi hi e=>by have:=hz i hi;have e:i=a7.block:=e;omega,g.own j.o1 λx d e=>by cases d;exact d17 e,g.own j.o2 λx d e=>by cases d;exact d27 e,?_,?_,g.own j.oc λx d e=>by cases d;have e:cc.block=a7.block:=e;omega,?_,λx d=>?_,j.lt⟩
   .rw[show((m-(v+1):Nat):Int)=((m-v:Nat):Int)-1 by omega];exact o1
   .rw[show cnt-(v+1-m)=cnt-(v-m) by omega];exact g.own j.o8 λx d e=>by cases d;exact d78 e.symm
   .rw[k1,<-k2];exact g.qL j.ol λx d e=>by have:=(j.sb x d).1;have e:x.block=a7.block:=e;omega
   .have:=j.sb x d;rw[k2]at this;exact absurd this.2 (by simp)
 .rw[gF]at B
  have ba:m<=v:=by omega
  have M:=Yc hv ba;have bb:((R.take v).drop m).length=v-m:=by rw[cW,dJ];have:=(cQ.1 hv).1;omega
  have c1:Sw.cell h (c.add 1)=some (aH tag):=by rw[<-al];exact aI.1 oc.cells 1 _ rfl
  have bd:∀x,s.aD=some x->x.block≠c.block:=λx d=>tx j.ol (by rw[cE];exact(j.sb x d).2) d oc;have tell:∀{K:Unit->aK} {Q:Nat->bH->aG->Prop},(∀h' p,iI W h h'->EM (hr+4) h' c q->h.size<=h'.size->WJ S P n T h0 hr m0 a1 a2 a7 a8 cc see f R m (cnt+0) v h s->(aV (λi=>i=cc.block\/∃x,s.aD=some x/\x.block=i) h h')->Pm m0 h' cc (dN p)->bV m0 .i64 h' p (((R.take (v+1)).drop m).map f)->(∀x,p.aD=some x->s.aD=some x\/h.size<=x.block)->wp P (K ()) h' Q)->wp P (.kB see [iv E.1,iv E.2] [] K) h Q:=λhk=>
   hs.go h m0 E s _ _ _ (by have:=j.c.1;omega) j.oc j.ol A.1 A.2.1 (by rw[cE,bb];omega) (λx d=>by have:=(j.sb x d).1;omega) λh' p o1 o2 g C=>
    hk h' p (iI.NU g λi hi hw e=>by
     rcases e with e|⟨x,d,e⟩
     .exact(J i hw).2.2.1 e
     .have:=(j.sb x d).1;have:=(J i hw).2.2.2;omega) (g.own oc λx d e=>by
     cases d;rcases e with e|⟨y,z,e⟩
     .omega
     .exact bd y z e) g.1 j g o1 (by rw[M,dP];exact o2) C
  refine cZ (λtg vs h'=>tg=0/\vs=[]/\iI W h h'/\EM (hr+4) h' c q/\∃p,aV (λi=>i=cc.block\/∃x,s.aD=some x/\x.block=i) h h'/\Pm m0 h' cc (dN p)/\bV m0 .i64 h' p (((R.take (v+1)).drop m).map f)/\∀x,p.aD=some x->s.aD=some x\/h.size<=x.block) ?_ ?_
  .refine aL rfl (bC (b:=bI) (c.add 1) tag rfl c1 (aE (λB=>?_) λB=>?_))
   .rw[aU]at B
    rw[if_pos B]at I;rw[<-I];exact Dm (b:=.any) (x:=see) j.o2 (tell λh' p w o sz _ g o1 o2 C=>aC ⟨rfl,rfl,w,o,p,g,o1,o2,C⟩)
   .rw[aY]at B
    rw[if_neg (by omega)]at I;refine Dm (b:=.any) (x:=see) j.o2 (aL rfl (bC (b:=bI) (c.add 1) tag rfl c1 ?_));rw[aW A.2.2.1 A.2.2.2,<-I];exact tell λh' p w o sz _ g o1 o2 C=>aC ⟨rfl,rfl,w,o,p,g,o1,o2,C⟩
  .rintro tg vs H ⟨rfl,rfl,w1,bo,p,g,o1,o2,C⟩
   have N:Pm h0.size H a8 (aH ((cnt-(v-m):Nat):Int)):=g.own j.o8 λx d e=>by
    cases d;rcases e with e|⟨y,z,e⟩
    .omega
    .have:=(j.sb y z).1;omega
   refine bG (bO (Dm (b:=bI) (x:=((cnt-(v-m):Nat):Int)) N ?_));rw[bY (by omega) (by omega)];refine Jo (aH (((cnt-(v-m):Nat):Int)-1)) N rfl λD O u2=>?_;have e8:((cnt-(v-m):Nat):Int)-1=((cnt-(v+1-m):Nat):Int):=by omega
   have u:aV (λi=>i=a8.block) H D:=pR u2;have old:∀{a:Addr} {x:Value},Pm h0.size h a x->a.block<hr->h0.size<=a.block->a.block≠a8.block->Pm h0.size D a x:=λo q1 q2 q3=>u.own (g.own o λx d e=>by
    cases d;rcases e with e|⟨y,z,e⟩
    .omega
    .have:=(j.sb y z).1;omega) λx d e=>by cases d;exact q3 e
   have V:∀x,p.aD=some x->hr+4<=x.block:=λx d=>by
    rcases C x d with z|z
    .exact(j.sb x z).1
    .have:c.block<h.size:=(oc.lt rfl).2;omega
   have J2:WJ S P n T h0 hr m0 a1 a2 a7 a8 cc see f R m cnt (v+1) D p:=by
    refine⟨?_,?_,?_,old j.o1 l1 G.1 d18,old j.o2 l2 G.2.1 d28,?_,by rw[<-e8];exact O,u.own o1 λx d e=>by cases d;have e:cc.block=a8.block:=e;omega,u.qL o2 λx d e=>by have:=V x d;have e:x.block=a8.block:=e;omega,λx d=>⟨V x d,by rw[M,bQ];simp⟩,j.lt⟩
    .refine(j.c.trans g λi hi e=>?_).trans u λi hi e=>by have e:i=a8.block:=e;omega
     rcases e with e|⟨y,z,e⟩
     .exact e
     .have:=(j.sb y z).1;omega
    .have:=g.1;have:=u.1;have:=j.sz;omega
    .refine eQ.oZ (eQ.oZ j.t g λi hi e=>?_) u λi hi e=>by have:=hz i hi;have e:i=a8.block:=e;omega
     rcases e with e|⟨y,z,e⟩
     .exact a9 (e ▸ hi)
     .have:=(j.sb y z).1;have:=hz i hi;omega
    .have:=old j.o7 l7 G.2.2.1 d78
     rw[show m-(v+1)=m-v by omega];exact this
   have w2:iI W h D:=w1.trans (iI.NU u λi hi hw e=>(J i hw).2.1 e);have U:EM (hr+4) D c q:=u.own bo λx d e=>by cases d;have e:c.block=a8.block:=e;omega
   refine Dm (b:=bI) (x:=(((cnt-(v-m):Nat):Int)-1)) O (aE (λd=>?_) λd=>?_)
   .rw[cM]at d
    exact aC ⟨rfl,w2,U,p,J2, .inr ⟨rfl,by omega⟩⟩
   .rw[dS]at d
    exact aC ⟨rfl,w2,U,p,J2, .inl ⟨rfl,by omega⟩⟩
end
section
variable{P:Program}{S:cH}{h:aG}{Q:Nat->bH->aG->Prop}
variable{from_ to:Int}
theorem ir(a b:Int):Df a b=max a b:=by unfold Df;split<;>omega
theorem Zh{enc:Int}{q:Pc}{w:Nat}{t:Int×Int}(hw:(bJ enc q.2)[w]?=some t):(zM enc q)[w]?=some (t.1,if q.1.2.1<0 then -1 else q.1.2.1+(dM ((bJ enc q.2).take w):Int)):=by
 have:=S0 q.1.2.1 (bJ enc q.2) 0 w t hw;unfold zM;rw[this,JI]
theorem V2(M:kJ P S)(C:Clb P S){n m0:Nat}{T:TX}{see:Value}{f:El->Int}{cc:Addr}(t:eQ S n h T)(hs:yd P see f cc)(oc:Pm m0 h cc (dN ⟨none,0,0⟩))(dr:m0<=h.size)(b1:¬T.Z cc.block)(ec:cY .i64 to) :
  wp P (zG S (some T.p) from_ to see) h λtg vs h'=>tg=0/\vs=[]/\aV (λi=>i=cc.block) h h'/\∃s,Pm m0 h' cc (dN s)/\bV m0 .i64 h' s ((OP (iG T.enc T.cur.ps) from_ to).map f):=by
 unfold zG;rw[eV]at ec;have hf:=t.cur.Yq t.A4.2;have fv:(iG T.enc T.cur.ps).length=(cV T.enc T.cur.ps).length:=yW ..;have lo:=t.lo;have c7:cc.block<h.size:=(oc.lt rfl).2;refine Od _ λD e1 o1 z1=>aL hs.flat (Od _ λh2 e2 o2 z2=>?_);have bo:=e1.trans e2;refine Dm (b:=.ptr) (x:=some T.p) (o1.ext e2) (aM (VV (t.ext bo)) λ⟨(L:Int),_⟩ h3 e3 hL=>?_);have hL:L=(iG T.enc T.cur.ps).length:=hL;subst hL;dsimp only;rw[ir,lB];have z:=bo.trans e3;have a4:OP (iG T.enc T.cur.ps) from_ to=((iG T.enc T.cur.ps).take (min to (iG T.enc T.cur.ps).length).toNat).drop (max from_ 0).toNat:=rfl;refine aE (λhc=>?_) λhc=>?_
 .rw[dD]at hc
  refine aC ⟨rfl,rfl,aV.bD z,⟨none,0,0⟩,oc.ext z,?_⟩;have:OP (iG T.enc T.cur.ps) from_ to=[]:=by rw[a4];exact uM (by rw[dJ];omega)
  rw[this];exact bV.nil _ _ _
 rw[eS]at hc;generalize gg:max from_ 0=fr at *;generalize g4:min to ((iG T.enc T.cur.ps).length:Int)=tt at *;have cf:0<=fr:=by omega
 have fl:tt<=(iG T.enc T.cur.ps).length:=by omega
 have t3:=t.ext z;refine Dm (b:=.ptr) (x:=some T.p) (o1.ext (e2.trans e3)) (aM (Qn t3 cf (by omega)) λ⟨(i':Int),(m':Int),_⟩ K e4 ⟨i,m,hi,hm,fi⟩=>?_);have hi:i'=i:=hi;have hm:m'=m:=hm;subst hi;subst hm;dsimp only;have gm:=fi.1;have de:=fi.2.1;have fj:=Rl t.cur.Cx;have g0:=t.cur.small;refine T6 _ (aH (m:Int)) rfl λI e5 o5=>T6 _ (aH (bK .i64 tt fr)) rfl λh6 e6 o6=>?_;rw[bY (by omega) (by omega)]at o6;have a0:=(e4.trans e5).trans e6;have bp:=z.trans a0;refine Dm (b:=.ptr) (x:=some T.p) (o1.ext ((e2.trans e3).trans a0)) (uL (t.ext bp) (aM YP λ⟨y,_⟩ d e7 hy=>?_));obtain⟨a,b,hy,ej,ha,hb⟩:=hy;have hy:y=_:=hy;subst hy;dsimp only;have ao:=bp.trans e7;have t7:=t.ext ao;generalize hR:iG T.enc (T.cur.ps.drop i)=R;have O:iG T.enc T.cur.ps=iG T.enc (T.cur.ps.take i)++R:=by rw[<-hR,<-pL,eY]
 have fy:R.length+(iG T.enc (T.cur.ps.take i)).length=(iG T.enc T.cur.ps).length:=by rw[O,bQ];omega
 rw[<-yW]at de;have df:fr.toNat=(iG T.enc (T.cur.ps.take i)).length+m:=by omega
 generalize e9:(tt-fr).toNat=cnt;have cr:(R.take (m+cnt)).drop m=OP (iG T.enc T.cur.ps) from_ to:=by
  rw[a4];have D:tt.toNat=fr.toNat+cnt:=by omega
  have hd:∀A:List El,(A++R).drop (A.length+m)=R.drop m:=λA=>by rw[<-Ej,Ms rfl]
  rw[Mn,Mn,D,Ar,Ar,df,O,hd]
 have g6:=e1.size;have g7:=e3.size;have g8:=e5.size;have g1:D.size<h2.size+0:=by omega
 have p2:D.size<h2.size:=by omega
 have p5:K.size<I.size:=(o5.lt rfl).2;have p6:I.size<h6.size:=(o6.lt rfl).2;have s4:=e4.size;have s7:=e7.size
 let A1:Addr:=⟨h.size,0,none⟩
 let A2:Addr:=⟨D.size,0,none⟩
 let Y:Addr:=⟨K.size,0,none⟩
 let A8:Addr:=⟨I.size,0,none⟩
 let V:Nat->Nat:=λk=>(iG T.enc ((T.cur.ps.drop i).take k)).length
 let J:Nat->aG->Prop:=λk h'=>∃s,WJ S P n T h d.size m0 A1 A2 Y A8 cc see f R m cnt (V k) h' s/\V k-m<cnt
 let F:Nat->aG->Prop:=λtg h'=>tg=1/\∃s,WJ S P n T h d.size m0 A1 A2 Y A8 cc see f R m cnt (m+cnt) h' s
 have hz:∀i,T.Z i->i<h.size:=λi hi=>(lo i hi).2;have al:∀{v s a b},WJ S P n T h d.size m0 A1 A2 Y A8 cc see f R m cnt v a s->aV (own d.size 4) a b->WJ S P n T h d.size m0 A1 A2 Y A8 cc see f R m cnt v b s:=λj c=>
  j.oZ c (λi o=>⟨o.1,λx g e=>by have:=(j.sb x g).1;have:=o.2;omega⟩) hz
 have J0:J 0 d:=by
  refine⟨⟨none,0,0⟩,⟨aV.bD ao,bM _,t7,(o1.ext (((e2.trans e3).trans a0).trans e7)),(o2.ext ((e3.trans a0).trans e7)).mono e1.size,?_,?_,oc.ext ao,?_,λx g=>(by cases g),?_⟩,?_⟩
  .have:V 0=0:=rfl
   rw[this,Mj];exact(o5.ext (e6.trans e7)).mono (by have:=z.size;omega)
  .have D:V 0=0:=rfl
   rw[D,Nat.zero_sub,Mj];have h2:((cnt:Nat):Int)=tt-fr:=by omega
   rw[h2];exact(o6.ext e7).mono (by have:=z.size;omega)
  .have:V 0=0:=rfl
   rw[this];simp;exact bV.nil _ _ _
  .refine⟨?_,?_,?_,?_,c7,ao.size⟩
   .show h.size<d.size;omega
   .show D.size<d.size;omega
   .show K.size<d.size;omega
   .show I.size<d.size;omega
  .have:V 0=0:=rfl
   omega
 have b0:m<=1099511627776/\cnt<=1099511627776:=by omega
 refine Yn C t7 (i:=(i:Int)) (eV.2 (by omega)) ej J F (λk a b ⟨s,j,l⟩ c=>⟨s,al j c,l⟩) (λk a b ⟨D,s,j⟩ c=>⟨D,s,al j c⟩) ?_ J0 ?_
 .rintro k q h8 c hq ⟨s,j,a5⟩ dx er
  rw[cR]at hq;have b4:=BE (eL hq);have a9:=t.cur.Cx q b4;have N:=a9.bytes;have ey:=oO (enc:=T.enc) N;have c5:V (k+1)=V k+(bJ T.enc q.2).length:=by
   show(iG T.enc ((T.cur.ps.drop i).take (k+1))).length=(iG T.enc ((T.cur.ps.drop i).take k)).length+_;rw[eN,hq,pL,bQ]
   congr 1
   show(iG T.enc [q]).length=_;rw[IP,Fv]
  have bs:R=iG T.enc ((T.cur.ps.drop i).take k)++zM T.enc q++iG T.enc ((T.cur.ps.drop i).drop (k+1)):=by rw[<-hR];exact Py hq
  have c4:∀w E,(zM T.enc q)[w]?=some E->R[V k+w]?=some E:=λw E hE=>by
   have eh:=(cQ.1 hE).1;rw[bs,dX,jZ (by show(iG T.enc ((T.cur.ps.drop i).take k)).length<=V k+w;exact Em _ _)];have:V k+w-(iG T.enc ((T.cur.ps.drop i).take k)).length=w:=by show(iG T.enc ((T.cur.ps.drop i).take k)).length+w-_=w;omega
   rw[this,mL eh];exact hE
  have gf:V k+(bJ T.enc q.2).length<=R.length:=by
   rw[bs,bQ,bQ,Fv];show(iG T.enc ((T.cur.ps.drop i).take k)).length+_<=(iG T.enc ((T.cur.ps.drop i).take k)).length+_+_;omega
  let W:Nat->Prop:=λi=>own d.size 4 i\/((T.Z i\/i=a.block\/i=b.block)/\i<d.size)
  have hW:∀i,W i->i≠Y.block/\i≠A8.block/\i≠cc.block/\i<d.size+4:=λi hw=>by
   show i≠K.size/\i≠I.size/\i≠cc.block/\i<d.size+4;rcases hw with o|⟨a6|a6|a6,a5⟩
   .have:=o.1;have:=o.2;omega
   .have:=hz i a6;have:i≠cc.block:=λe=>b1 (e ▸ a6);omega
   .omega
   .omega
  refine dQ (G:=Nat) (λw (r:Int×Unit) h'=>w<=(bJ T.enc q.2).length/\r.1=dM ((bJ T.enc q.2).take w)/\iI W h8 h'/\EM (d.size+4) h' c q.1/\∃s,WJ S P n T h d.size m0 A1 A2 Y A8 cc see f R m cnt (V k+w) h' s/\V k+w-m<cnt) (λw=>(bJ T.enc q.2).length-w)
   (λtg vs h'=>vs=[]/\iI W h8 h'/\((tg=4/\J (k+1) h')\/(tg=1/\F 1 h'))) 0 ⟨cO _,rfl,iI.refl _ _,er,s,j,a5⟩ ?_ ?_
  .rintro w ⟨(at_:Int),u⟩ h9 ⟨hw,bt,H9,b9,s9,H,bb⟩
   dsimp only at bt⊢;subst bt;obtain⟨c6,b6⟩:=pQ (enc:=T.enc) N w hw;have hle:=c6.le N;have e8:=H.t.cur.Cx q b4;have b2:Sw.cell h9 (c.add 0)=some (dN q.1.1):=aI.1 b9.cells 0 _ rfl;have b3:=a9.lO.len;have hlen:=a9.len;refine aL rfl (bC (b:=.sl) (c.add 0) q.1.1 rfl b2 (aE (λhc=>?_) λhc=>?_))
   .rw[aU,aN,b3]at hc
    have gw:dM ((bJ T.enc q.2).take w)<q.2.length:=by omega
    have U:=jY (enc:=T.enc) (N.drop (dM ((bJ T.enc q.2).take w))) (by rw[cW];omega);rw[b6]at U;have B:w<(bJ T.enc q.2).length:=by
     by_cases g:w<(bJ T.enc q.2).length
     .exact g
     .rw[uM (by omega)]at U;cases U
    rw[gY B,JO]at U;have ba:=Zh (enc:=T.enc) (q:=q) (cK B);have g2:=ey _ (CK B);have c8:=P3 (enc:=T.enc) N _ (CK B);have cg:dM ((bJ T.enc q.2).take (w+1))=dM ((bJ T.enc q.2).take w)+(bJ T.enc q.2)[w].2.toNat:=by
     rw[eN,cK B,jO];simp[dM]
    refine Dm (b:=.ptr) (x:=some T.p) H.o1 (ax H.t (aL rfl (bC (b:=.sl) (c.add 0) q.1.1 rfl b2 (aM (Qm M e8.lO) λ⟨(x:Int),(sz:Int),_⟩ fm aw g=>?_))));have g:(x,sz)=eJ T.enc (q.2.drop (dM ((bJ T.enc q.2).take w))):=by
     rcases g with⟨ds,_,_⟩|⟨_,_,_,g⟩
     .rcases ds with h|h|h
      .exact absurd t.enc h
      .omega
      .omega
     .rw[cR]at g;exact g
    rw[<-U.1]at g;have ei:x=(bJ T.enc q.2)[w].1:=congrArg Prod.fst g;have g5:sz=(bJ T.enc q.2)[w].2:=congrArg Prod.snd g;dsimp only;generalize a3:((bJ T.enc q.2)[w].1,if q.1.2.1<0 then (-1:Int) else q.1.2.1+(dM ((bJ T.enc q.2).take w):Int))=E at ba;have cx:x=E.1:=by rw[ei,<-a3]
    have g3:=a9.tag;rw[cx];refine cZ _ (qe (nr:=0) (W:=W) (tag:=q.1.2.1) (at_:=(dM ((bJ T.enc q.2).take w):Nat)) (c:=c) (E:=E) hs (H.ext aw hz) dr hz b1 ⟨by show h.size≠K.size;have:=z.size;omega,by show h.size≠I.size;have:=z.size;omega,by show D.size≠K.size;omega,by show D.size≠I.size;omega,by show K.size≠I.size;omega⟩
     ⟨bM _,e1.size,by show h.size<=K.size;have:=z.size;omega,by show h.size<=I.size;have:=z.size;omega⟩ (c4 w E ba) bb ⟨b0.1,b0.2,by omega⟩ (b9.ext aw) rfl (by rw[<-a3]) ⟨by rw[<-a3];exact c8,by rw[<-a3,eV];dsimp only;split<;>omega,by omega,by omega⟩ hW) ?_
    rintro tg vs ft ⟨rfl,bd,ct,cd,b8,⟨rfl,ab⟩|⟨rfl,ab⟩⟩
    .have HH:=(H9.trans (iI.bD aw)).trans bd
     refine nP (by decide) (bG (bO ?_));rw[aW (by omega) (by omega)];refine aC ⟨λ_=>⟨w+1,(_,()),rfl,⟨B,?_,HH,ct,cd,b8,ab⟩,by omega⟩,λh=>absurd rfl h⟩;show _=((dM ((bJ T.enc q.2).take (w+1)):Nat):Int);rw[cg];omega
    .have HH:=(H9.trans (iI.bD aw)).trans bd
     refine bG (bO (aC ⟨λh=>absurd h (by decide),λ_=>⟨rfl,HH, .inr ⟨rfl,rfl,cd,?_⟩⟩⟩));rw[<-ab];exact b8
   .rw[aY,aN,b3]at hc
    have eg:w=(bJ T.enc q.2).length:=by
     have:(bJ T.enc q.2).drop w=[]:=by rw[<-b6];exact mJ (by rw[cW];omega)
     rw[Sa]at this;omega
    subst eg;refine aC ⟨λh=>absurd h (by decide),λ_=>⟨rfl,H9, .inl ⟨rfl,s9,?_⟩⟩⟩;show WJ S P n T h d.size m0 A1 A2 Y A8 cc see f R m cnt (V (k+1)) h9 s9/\V (k+1)-m<cnt;rw[c5];exact⟨H,bb⟩
  .rintro tg vs h9 ⟨rfl,H9,⟨rfl,H⟩|⟨rfl,f9⟩⟩
   .exact bG (bO (aC ⟨H9,λ_=>H,λh=>absurd rfl h⟩))
   .exact nP (by decide) (bG (bO (aC ⟨H9,λh=>absurd h (by decide),λ_=>f9⟩)))
 .intro k h8 dx g
  rcases g with⟨rfl,s,j,a5⟩|⟨gv,rfl,s,j⟩
  .exfalso
   have hV:V (T.cur.ps.drop i).length=R.length:=by
    show(iG T.enc ((T.cur.ps.drop i).take (T.cur.ps.drop i).length)).length=_;rw[fH,hR]
   rw[cR,hV]at a5;omega
  .refine bG (aC ⟨iI.refl _ _,λh9 c9 _=>?_⟩)
   have H:=al j (c9.mono λi _ o=>⟨o.1,by have:=o.2;omega⟩);refine⟨rfl,rfl,H.c,s,H.oc,?_⟩;have:=H.ol;rw[cr]at this;exact this
theorem fw(M:kJ P S)(C:Cl0 P S){n:Nat}{T:TX}(t:eQ S n h T)(d:cY .i64 to):aS P (AD S (some T.p) from_ to) [tS] h λ(y:Sl×Unit) h'=>bV h.size .i64 h' y.1 ((OP (iG T.enc T.cur.ps) from_ to).map (·.1)):=by
 unfold AD aS;refine Od _ λo c o1 w=>dW (V2 M C (t.ext c) (XZ C _) o1 c.size (λj=>by have:h.size<h.size:=(t.lo _ j).2;omega) d) λtg vs u g=>?_;obtain⟨rfl,rfl,c2,s,o2,ol⟩:=g;refine⟨rfl,(),rfl,Dm (b:=.sl) (x:=s) o2 (aC ⟨rfl,?_,(s,()),rfl,ol⟩)⟩;exact gZ.oZ (c.aP (bM _)) c2 c.size λi e=>Nat.le_of_eq e.symm
theorem gd(M:kJ P S)(C:Yu P S){n:Nat}{T:TX}(t:eQ S n h T)(d:cY .i64 to):aS P (BM S (some T.p) from_ to) [tS] h λ(y:Sl×Unit) h'=>bV h.size .i64 h' y.1 ((OP (iG T.enc T.cur.ps) from_ to).map (·.2)):=by
 unfold BM aS;refine Od _ λo c o1 w=>dW (V2 M C (t.ext c) (X4 C _) o1 c.size (λj=>by have:h.size<h.size:=(t.lo _ j).2;omega) d) λtg vs u g=>?_;obtain⟨rfl,rfl,c2,s,o2,ol⟩:=g;refine⟨rfl,(),rfl,Dm (b:=.sl) (x:=s) o2 (aC ⟨rfl,?_,(s,()),rfl,ol⟩)⟩;exact gZ.oZ (c.aP (bM _)) c2 c.size λi e=>Nat.le_of_eq e.symm
end
section
variable{P:Program}{S:cH}{h:aG}{Q:Nat->bH->aG->Prop}
variable{l:bB}
theorem XX{n:Nat}{k:IntKind}{s x:Sl}{old:bB}{K:Nat->aK}(c:bV n k h s old)(g:kW k h x l)(j:l.length=old.length)
  (d:∀h',bV n k h' s l->jU s h h'->wp P (K l.length) h' Q):wp P (.copy 1 s x K) h Q:=by
 cases l with
 |nil=>
  have h0:old=[]:=At j.symm;subst h0;have t:s.len=0:=c.len;have p:x.len=0:=g.len;have b:min x.len s.len=0:=by omega
  refine⟨[],?_,?_⟩
  .rw[b];have:=g.rd.Hs;rw[p]at this;exact this
  .rw[b]
   cases hb:s.aD with
   |none=>exact d h c ⟨bM _,λ_ _ _=>rfl,λ_ e=>e⟩
   |some a=>exact⟨trivial,d h c ⟨bM _,λ_ _ _=>rfl,λ_ e=>e⟩⟩
 |cons y l=>
  have:=av (P:=P) (Q:=Q) (K:=K) (s:=s) (x:=x) (pre:=[]) (mid:=old) (post:=[]) (l:=y::l) (i:=0) (by simpa using c) g j (by simp) rfl λh' o u z=>d h' (by simpa using o) u;rw[eX,show cS s.len 0=s.len from rfl,show cS s.cap 0=s.cap from rfl]at this;exact this
theorem K5(tag:Int):∀(a b:List (Int×Int)) (o:Nat),iH tag o (a++b)=iH tag o a++iH tag (o+dM a) b
 |[],b,o=>by simp[iH,dM]
 |x::a,b,o=>by simp only[Ee,iH,K5 tag a b,nB,BD]
def Ld(enc:Int)(lo:Sl)(l:bB)(q:Pc):Prop:=∃a e:Nat,a<e/\e<=l.length/\q.2=(l.take e).drop a/\q.1=XL ⟨bE lo.aD e a 1,e-a,e-a⟩ a (bJ enc q.2)
theorem ZK{m:Nat}{T:TX}{enc:Int}{lo:Sl}{q:Pc}(ol:bV m .u8 h lo l)(A:T.enc=enc)(u:T.ad=⟨none,0,0⟩)(z:∀b,lo.aD=some b->T.Z b.block/\b.block≠T.p.block)(hlen:l.length<=65536)(E:Ld enc lo l q):A3 h T q:=by
 obtain⟨a,e,G,y,t,o⟩:=E;have C:=ol.len;have B:=ol.lO.cap;have D:=ol.lO.max;have j:=(ol.lO.take (n:=e) (m:=e) y (bM _) (by omega)).tail (i:=a) (by rw[dJ];omega);dsimp only at j;have H:q.2.length=e-a:=by rw[t,cW,dJ];omega
 have hb:q.1.1=⟨bE lo.aD e a 1,e-a,e-a⟩:=by rw[o];rfl
 have ht:q.1.2.1=a:=by rw[o];rfl
 refine⟨by rw[hb,t];exact j,by omega,by rw[A,hb,ht];exact o,by rw[ht];omega,by omega,λx d=>?_⟩;rw[hb]at d;have d:bE lo.aD e a 1=some x:=d;unfold bE at d;rw[if_neg (by omega)]at d;cases g:lo.aD with
 |none=>rw[g]at d;simp at d
 |some b=>
  rw[g]at d;have d:b.add (a*1)=x:=dU d;subst d;rw[iT];exact⟨(z b g).1,(z b g).2,λc w=>by rw[u]at w;cases w⟩
inductive H6(S:cH)(h0 h:aG)(enc limit:Int)(l:bB):OA->Int->Prop where
 |enc:¬eM enc->H6 S h0 h enc limit l none 10
 |arg:eM enc->¬(0<=limit/\limit<=65536)->H6 S h0 h enc limit l none 1
 |full:eM enc->0<=limit/\limit<=65536->limit<l.length->H6 S h0 h enc limit l none 50
 |ok (T:TX):eM enc->0<=limit/\limit<=65536->l.length<=limit->eQ S h0.size h T->T.enc=enc->T.limit=limit->T.kept=[]->T.A=[]->iG enc T.cur.ps=iH 0 0 (bJ enc l)->dR T.cur.ps=l->(∀i,T.Z i->h0.size<=i)->H6 S h0 h enc limit l (some T.p) 0
theorem p_(M:kJ P S){enc limit:Int}{b:Sl}(hb:kW .u8 h b l) :
  aS P (AJ S enc b limit) [tP, tI] h λ(y:OA×Int×Unit) h'=>H6 S h h' enc limit l y.1 y.2.1:=by
 unfold AJ aS;have a3:=hb.len;have j:cC l:=hb.wf;refine bZ (¬eM enc) ?_ λbb h1 e1 bt=>aE (λc=>aC ⟨rfl,e1,(none,10,()),rfl, .enc (bt.1 c)⟩) λc=>?_
 .unfold eM
  refine aE (λd=>aC ⟨rfl,Ext.refl _,true,rfl,?_⟩) λd=>aC ⟨rfl,Ext.refl _,_,rfl,?_⟩
  .rw[aU]at d;exact Iff.intro (λ_=>by omega) λ_=>rfl
  .rw[aY]at d;rw[dL];omega
 have he:eM enc:=by
  by_cases O:eM enc
  .exact O
  .rw[bt.2 O]at c;cases c
 refine bZ (¬(0<=limit/\limit<=65536)) ?_ λbb h2 e2 b0=>aE (λc=>aC ⟨rfl,e1.trans e2,(none,1,()),rfl, .arg he (b0.1 c)⟩) λc=>?_
 .refine aE (λd=>aC ⟨rfl,Ext.refl _,true,rfl,?_⟩) λd=>aC ⟨rfl,Ext.refl _,_,rfl,?_⟩
  .rw[aU]at d;exact Iff.intro (λ_=>by omega) λ_=>rfl
  .rw[aY]at d;rw[dL];omega
 have V:0<=limit/\limit<=65536:=by
  by_cases O:0<=limit/\limit<=65536
  .exact O
  .rw[b0.2 O]at c;cases c
 have L:=e1.trans e2;refine aE (λd=>aC ⟨rfl,L,(none,50,()),rfl, .full he V (by rw[dL,aN,a3]at d;omega)⟩) λd=>?_;rw[gF,aN,a3]at d;have ct:aQ b.len=(l.length:Int):=by rw[aN,a3]
 rw[ct];have a6:=oO (enc:=enc) j;have gw:=Aa (enc:=enc) j;have al:=Gu (enc:=enc) j;refine bj (k:=.u8) (by omega) (by omega) λh3 lo e3 cg=>XX cg (hb.ext (L.trans e3)) (by simp) λo ba u4=>?_;have bs:Ext h2 o:=jU.jQ e3 u4 (λa ha=>(cg.own.lt ha).1);have cr:=ba.len;refine λel=>?_;have e5:Ext o (o.push (.cells [aH enc,aH limit, .pointer none, .slice none 0 0].toArray el)):=Ext.push ..;have o5:cA o.size 1 (o.push (.cells [aH enc,aH limit, .pointer none, .slice none 0 0].toArray el)) ⟨some ⟨o.size,0,none⟩,4,4⟩ [aH enc,aH limit, .pointer none, .slice none 0 0]:=bR rfl (by decide) (by decide);generalize o.push (.cells [aH enc,aH limit, .pointer none, .slice none 0 0].toArray el)=h5 at e5 o5⊢;have c4:=(L.trans bs).trans e5;have K:=ba.ext e5;have fm:=K.lO.cap;have ft:=K.lO.max;refine dQ (G:=Nat×List Pc) (λg (r:Sl×Int×Unit) h'=>g.1<=(bJ enc l).length/\r.2.1=dM ((bJ enc l).take g.1)/\Ext h5 h'/\zL h5.size h' r.1 (g.2.map (·.1))/\(∀q,q∈g.2->Ld enc lo l q)/\iG enc g.2=iH 0 0 ((bJ enc l).take g.1)/\dR g.2=l.take (dM ((bJ enc l).take g.1))/\g.2.length<=g.1) (λg=>(bJ enc l).length-g.1)
  (λtg vs h'=>tg=3/\Ext h5 h'/\∃(s:Sl) (ps:List Pc),vs=[dN s]/\zL h5.size h' s (ps.map (·.1))/\(∀q,q∈ps->Ld enc lo l q)/\iG enc ps=iH 0 0 (bJ enc l)/\dR ps=l) (0,[]) ⟨cO _,rfl,Ext.refl _,cA.nil _ _ _,(λq t=>by cases t),rfl,by simp[dR,dM],bM _⟩ ?_ ?_
 .rintro⟨k,ps⟩ ⟨(s:Sl),(at_:Int),u⟩ h6 ⟨O,b1,B,os,I,D,z,eg⟩
  dsimp only at O b1 os I D z eg⊢;subst b1;have c9:=pQ (enc:=enc) j k O;have gm:=c9.1.le j;have c7:aQ lo.len=(l.length:Int):=by rw[aN,cr]
  rw[c7];refine aE (λd=>?_) λd=>?_
  .rw[aU]at d
   have gf:k<(bJ enc l).length:=by
    by_cases c:k<(bJ enc l).length
    .exact c
    .rw[iY (by omega),al]at d;omega
   have e4:=K.ext B;refine dQ (G:=Nat) (λw (r:Int×Int×Unit) h'=>k+w<=(bJ enc l).length/\w<=128/\r.1=dM ((bJ enc l).take (k+w))/\r.2.1=w/\Ext h6 h') (λw=>(bJ enc l).length-w)
    (λtg vs h'=>tg=5/\Ext h6 h'/\∃w,1<=w/\k+w<=(bJ enc l).length/\vs=[aH (dM ((bJ enc l).take (k+w)))]) 0 ⟨by omega,by omega,rfl,rfl,Ext.refl _⟩ ?_ ?_
   .rintro w ⟨(en:Int),(n:Int),u⟩ h7 ⟨H,hw,b3,hn,C⟩
    dsimp only at b3 hn⊢;subst b3;subst hn;obtain⟨a4,ei⟩:=pQ (enc:=enc) j (k+w) H;have hle:=a4.le j;have fv:dM ((bJ enc l).take k)<=dM ((bJ enc l).take (k+w)):=by
     have:(bJ enc l).take k=((bJ enc l).take (k+w)).take k:=by rw[JP,F5 (by omega)]
     rw[this];exact wQ _ _
    refine bZ (dM ((bJ enc l).take (k+w))<l.length/\w<128) ?_ λbb N e8 b2=>aE (λc=>?_) λc=>?_
    .refine aE (λd=>aC ⟨rfl,Ext.refl _,_,rfl,?_⟩) λd=>aC ⟨rfl,Ext.refl _,false,rfl,?_⟩
     .rw[aU]at d⊢;omega
     .rw[aY]at d;exact Iff.intro (λh=>by cases h) λh=>by omega
    .obtain⟨ds,fy⟩:=b2.1 c
     have ab:k+w<(bJ enc l).length:=by
      by_cases c:k+w<(bJ enc l).length
      .exact c
      .rw[iY (by omega),al]at ds;omega
     have b8:=jY (enc:=enc) (j.drop (dM ((bJ enc l).take (k+w)))) (by rw[cW];omega);rw[ei,gY ab,JO]at b8;have gv:=a6 _ (CK ab);have cx:dM ((bJ enc l).take (k+(w+1)))=dM ((bJ enc l).take (k+w))+(bJ enc l)[k+w].2.toNat:=by
      rw[show k+(w+1)=(k+w)+1 by omega,eN,cK ab,jO];simp[dM]
     refine aM (Qm M (e4.ext (C.trans e8)).lO) λ⟨(x:Int),(sz:Int),_⟩ h9 e9 ao=>?_;have ao:(x,sz)=eJ enc (l.drop (dM ((bJ enc l).take (k+w)))):=by
      rcases ao with⟨a5,_,_⟩|⟨_,_,_,c⟩
      .rcases a5 with h|h|h
       .exact absurd he h
       .omega
       .omega
      .rw[cR]at c;exact c
     rw[<-b8.1]at ao;have g1:sz=(bJ enc l)[k+w].2:=congrArg Prod.snd ao;dsimp only;rw[aW (by omega) (by omega),aW (a:=(w:Int)) (by omega) (by omega)];refine aC ⟨λ_=>⟨w+1,(_,_,()),rfl,⟨by omega,by omega,?_,by dsimp only;omega,(C.trans e8).trans e9⟩,by omega⟩,λh=>absurd rfl h⟩;dsimp only;rw[cx];omega
    .have a5:¬(dM ((bJ enc l).take (k+w))<l.length/\w<128):=λk=>by rw[b2.2 k]at c;cases c
     refine aC ⟨λh=>absurd h (by decide),λ_=>⟨rfl,C.trans e8,w,?_,H,rfl⟩⟩;by_cases h0:w=0
     .subst h0;exact absurd ⟨by rw[F3];omega,by omega⟩ a5
     .omega
   .rintro tg vs h7 ⟨rfl,C,w,g0,H,rfl⟩
    refine bG (fJ ?_);have a4:=(pQ (enc:=enc) j (k+w) H).1;have hle:=a4.le j;have cf:=Gv (enc:=enc) j (k+w) H;have Y:((bJ enc l).take (k+w)).take k=(bJ enc l).take k:=by rw[JP,F5 (by omega)]
    have bo:=jO (((bJ enc l).take (k+w)).take k) (((bJ enc l).take (k+w)).drop k);rw[eY,Y]at bo;have gg:=Jf (((a6.take (k+w)).drop k)) (by rw[cW,dJ];omega);have cd:=(pQ (enc:=enc) (j.take (dM ((bJ enc l).take (k+w)))) k (by rw[cf,dJ];omega)).2;rw[cf,Y]at cd;generalize hA:dM ((bJ enc l).take k)=A at *;generalize hE:dM ((bJ enc l).take (k+w))=E at *;have c6:A<E:=by omega
    have tA:bP (A:Int)=A:=by rw[eP];omega
    have tE:bP (E:Int)=E:=by rw[eP];omega
    dsimp only;refine sV (fA.2 ⟨iP (by omega) (by omega),fA.2 ⟨iP (by omega) (by rw[tE];omega),iP (by omega) (by rw[tE];omega)⟩⟩) ?_;rw[tA,tE];have fj:=(K.ext B).ext C;have b4:=(fj.lO.take (n:=E) (m:=E) hle (bM _) (by omega)).tail (i:=A) (by rw[dJ];omega);dsimp only at b4;refine aM (Gf M he (tag:=(A:Int)) b4 (by rw[cW,dJ];omega)) λ⟨(y:Part),_⟩ N e8 hy=>?_;have hy:y=XL ⟨bE lo.aD E A 1,E-A,E-A⟩ A (bJ enc ((l.take E).drop A)):=hy;dsimp only;have a0:=C.trans e8;have eh:=zL.len os;rw[cE]at eh;refine Mc (n:=h5.size) (new:=Bs.inj PB y) (os.ext a0) (dI B.size a0.size) rfl (xF _) rfl (by show(s.len+1)*64<=_;omega) (by omega) λr h9 a9 b9 u9 d9=>aC ⟨λ_=>⟨(k+w,ps++[(y,(l.take E).drop A)]),(r,(E:Int),()),rfl,⟨H,by dsimp only;rw[hE],?_,?_,?_,?_,?_,by dsimp only;rw[bQ];simp;omega⟩,by dsimp only;omega⟩,λh=>absurd rfl h⟩
    .exact jU.jQ (B.trans a0) u9 (λa ha=>(os.lt ha).1)
    .rw[dP]
     show cA h5.size 7 h9 r (cP (_++[y]));rw[Ge,Qj];exact a9
    .intro q t
     rcases dH.1 t with t|t
     .exact I q t
     .rw[dE.1 t]
      exact⟨A,E,c6,hle,rfl,hy⟩
    .dsimp only
     rw[pL,IP,D];have h1:(bJ enc l).take (k+w)=(bJ enc l).take k++((bJ enc l).take (k+w)).drop k:=by rw[<-Y,eY]
     conv=>rhs;rw[h1]
     rw[K5,hA]
     congr 1
     unfold zM;dsimp only;rw[cd,hy];show iH (A:Int) 0 _=_;have:(A:Int)=Ks 0 A:=by unfold Ks;simp
     rw[this,Ng]
    .dsimp only
     rw[tN,z,hE];have:l.take A=(l.take E).take A:=by rw[JP,F5 (by omega)]
     rw[this];simp[dR,eY]
  .rw[aY]at d
   have df:k=(bJ enc l).length:=by
    by_cases c:k<(bJ enc l).length
    .have h1:=jO ((bJ enc l).take k) ((bJ enc l).drop k)
     rw[eY,al]at h1;have:=Jf (a6.drop k) (by rw[cW];omega);omega
    .omega
   subst df;rw[fH]at D z;rw[al,fH]at z;exact aC ⟨λh=>absurd h (by decide),λ_=>⟨rfl,B,s,ps,rfl,os,I,D,z⟩⟩
 .rintro tg vs h6 ⟨rfl,B,s,ps,rfl,os,I,D,z⟩
  refine bG (Cn (tys:=[tS]) (s,()) rfl ?_);dsimp only;have bp:=c4.trans B;have J:∀b,lo.aD=some b->h.size<=b.block/\b.block<o.size:=λb hb=>by have:=ba.own.lt hb;have:=L.size;omega
  have aw:=L.trans bs
  let Z:Nat->Prop:=λi=>h.size<=i
  let T0:TX:={p:=⟨o.size,0,none⟩,enc:=enc,limit:=limit,cur:=⟨none, .nil,ps⟩,kept:=[],ad:=⟨none,0,0⟩,A:=[],Z:=Z}
  have bd:∀q,q∈ps->A3 h6 T0 q:=λq t=>ZK (K.ext B) rfl rfl (λb hb=>⟨(J b hb).1,by show b.block≠o.size;have:=(J b hb).2;omega⟩) (by omega) (I q t);have ej:∀x,x∈ps.map (·.1)->VS (WN x) (Jt x):=λx c=>by
   obtain⟨q,t,rfl⟩:=dB.1 c;exact(bd q t).wt.2
  have er:Pn (part S Z) h6 s (ps.map (·.1)):=Wj os ej;have de:oK (part S Z) h6:=λi hi=>dI bp.size hi;have c8:((ps.map (·.1)).map WN).sum=(cV enc ps).length:=nj bd;have dx:=(FY (enc:=enc) λq t=>(bd q t).bytes).1;rw[z]at dx;have b6:=yv (Ch S Z (P:=P)) er (show(part S Z).W (ps.map (·.1))<=4398046511104 from by
   have:(part S Z).W (ps.map (·.1))=(cV enc ps).length:=c8;rw[this];omega) de
  rw[<-y5 S Z]at b6;refine aM (R:=λ(y:TR×Unit) h'=>∃U:Bt Part,Nd (part S Z) h' y.1.1 U/\U.list=ps.map (·.1)) (aS.mono b6 λy h' e ⟨U,q1,q2,_⟩=>⟨U,q1,q2⟩) λ⟨⟨(root:OA),_⟩,_⟩ h7 C ⟨U,nd,dr⟩=>?_;have nd:Nd (part S Z) h7 root U:=nd;dsimp only;have o7:=o5.ext (B.trans C);refine fB (.pointer root) o7 (by simp) rfl λN o8 u8=>?_;have o8:cA o.size 1 N ⟨some ⟨o.size,0,none⟩,4,4⟩ [aH enc,aH limit, .pointer root, .slice none 0 0]:=o8;have c5:Ext h N:=jU.jQ (bp.trans C) u8 (by intro x c;cases c;exact aw.size);have fl:bV h2.size .u8 N lo l:=((K.ext B).ext C).Hg u8 λx y c hy=>by cases hy;have:=(J x c).2;show o.size≠x.block;omega
  have ec:o.size<N.size:=(o8.lt rfl).2
  let T:TX:={p:=⟨o.size,0,none⟩,enc:=enc,limit:=limit,cur:=⟨root,U,ps⟩,kept:=[],ad:=⟨none,0,0⟩,A:=[],Z:=λi=>h.size<=i/\i<N.size}
  have ey:Nd (part S Z) N root U:=nd.Vz u8 λb hb=>by
   cases hb;have:=aI.1 o7.cells 0 _ rfl;rw[add_zero']at this;exact⟨_,_,this⟩
  refine aC ⟨rfl,c5,(some ⟨o.size,0,none⟩,0,()),rfl, .ok T he V (by omega) ⟨he,V,o8.mono aw.size,bV.nil _ _ _,λb hb=>(by cases hb),λb hb=>(by cases hb),⟨yC ey λi hi hz=>⟨hz,hi⟩,dr,λq t=>ZK fl rfl rfl (λb hb=>⟨⟨(J b hb).1,by have:=(J b hb).2;omega⟩,by show b.block≠o.size;have:=(J b hb).2;omega⟩) (by omega) (I q t),?_⟩,λs hs=>(by cases hs),⟨aw.size,ec⟩,λb hb=>(by cases hb),λi hi=>hi⟩ rfl rfl rfl rfl D z λi hi=>hi.1⟩;show(dR ps).length<=_;rw[z];omega
end
section
variable{P:Program}{S:cH}{h:aG}{Q:Nat->bH->aG->Prop}
abbrev GP(n:Nat)(h:aG)(a:Addr)(of:Addr)(s:St):Prop:=cA n 1 h ⟨some a,2,2⟩ [.pointer (some of), .pointer s.root]
theorem eQ.aP{n:Nat}{T:TX}(r:eQ S n h T):eQ S n h {T with kept:=T.cur::T.kept}:=by
 have d:∀{q},A3 h T q->A3 h {T with kept:=T.cur::T.kept} q:=λq=>⟨q.lO,q.ne,q.is,q.tag,q.len,q.MO⟩;have st:∀{s},Lv S h T s->Lv S h {T with kept:=T.cur::T.kept} s:=λs=>⟨s.nd,s.ls,λq c=>d (s.Cx q c),s.small⟩;refine⟨r.enc,r.A4,r.ob,r.ad,r.ed,r.vb,st r.cur,λs b=>?_,r.zp,r.za,r.lo⟩;rcases eH.1 b with rfl|b
 .exact st r.cur
 .exact st (r.kept s b)
theorem YQ{n:Nat}{T:TX}(t:eQ S n h T):aS P (zF S (some T.p)) [tP] h λ(y:OA×Unit) h'=>∃a,y.1=some a/\GP h.size h' a T.p T.cur:=by
 unfold zF aS;refine uL t λel=>?_;have b:Ext h (h.push (.cells [.pointer (some T.p), .pointer T.cur.root].toArray el)):=Ext.push ..;have o1:cA h.size 1 (h.push (.cells [.pointer (some T.p), .pointer T.cur.root].toArray el)) ⟨some ⟨h.size,0,none⟩,2,2⟩ [.pointer (some T.p), .pointer T.cur.root]:=bR rfl (by decide) (by decide);exact aC ⟨rfl,b,(some ⟨h.size,0,none⟩,()),rfl,_,rfl,o1⟩
theorem UD{n k:Nat}{T:TX}{a:Addr}{s:St}(t:eQ S n h T)(w:n<=h.size)(x:s∈T.kept)(sn:GP k h a T.p s) :
  wp P (uN S (some T.p) (some a)) h λtg vs h'=>tg=0/\vs=[aH 0]/\aV (rU T) h h'/\∃T',eQ S n h' T'/\MD T T' h.size/\T'.cur=s/\T'.A=T.A:=by
 unfold uN;refine bZ False (lW (aL rfl (aL rfl (bC (b:=.ptr) (a.add 0) (some T.p) rfl (aI.1 sn.cells 0 _ rfl) ?_)))) λB o d hb=>aE (λy=>(hb.1 y).elim) λ_=>?_
 .refine .inl ⟨rfl,aC ⟨rfl,Ext.refl _,_,rfl,?_⟩⟩
  have:(T.p == T.p)=true:=by simp
  rw[this];exact Iff.intro (λh=>by cases h) False.elim
 .have t1:=t.ext d
  have s1:=sn.ext d;refine aL rfl (aL rfl ⟨a.add 1,rfl,(s.root,()),aI.2 λj v c=>?_,?_⟩)
  .match j,c with
   |0,c=>simp[Ty.cells,Bs.inj]at c;subst c;rw[add_zero'];exact aI.1 s1.cells 1 _ rfl
   |j+1,c=>simp[Ty.cells,Bs.inj]at c
  .refine aL rfl (aL rfl (fB (.pointer s.root) t1.ob (by simp) rfl λu o2 g=>?_))
   have st:=t1.kept s x;have o2:cA n 1 u ⟨some T.p,4,4⟩ [aH T.enc,aH T.limit, .pointer s.root,dN T.ad]:=o2;have z:=PZ (T:=T) (ps':=s.ps) t1 (m:=o.size) (λi hi=>(t1.lo i hi).2) ⟨dI w d.size,bM _⟩ (yC st.nd λi _ hi=>.inl hi) st.ls st.Cx st.small o2 g;refine aC ⟨rfl,rfl,?_,_,z,⟨rfl,rfl,rfl,rfl,λi hi=>⟨.inl hi,by have:=(t1.lo i hi).2;have:=g.1;omega⟩,λi hi=>hi.1.imp id λh=>by have:=d.size;omega,λb hb=>.inl hb⟩,rfl,rfl⟩;exact(aV.bD d).trans (pR g) λi _ e=>.inl e
end
end Go.Sw.Piece
namespace Go.Sw.Hist
open Go.Sw.Any Go.Sw.Codec Go.Sw.Piece
open Go.Sw.Tree (iv fR jR jX mX oS kM rO kK dQ lB)
section
variable{P:Program}{S:cH}{h:aG}{Q:Nat->bH->aG->Prop}
abbrev Sv:Sh:=.str (.pair (.int .i64) (.pair (.int .i64) (.pair (.int .i64) .unit)))
abbrev mS:=Int×Int×Int×Unit
abbrev Yp:=Sl×List mS
def LZ(e:mS)(s:Int×Bool):Int×Bool:=
 if s.1<e.1 then s else if e.2.1<=s.1 then (s.1+(e.2.2.1-(e.2.1-e.1)),s.2) else (e.1+min (s.1-e.1) e.2.2.1,false)
def qX(m:Int)(l:List mS):Int×Bool:=l.foldr LZ (m,true)
def Ls(l:List mS):Prop:=l.length<=131072/\∀e∈l,0<=e.1/\e.1<=e.2.1/\e.2.1<=2199023255552/\0<=e.2.2.1/\e.2.2.1<=2199023255552
theorem Ls.tail{e:mS}{l:List mS}(b:Ls (e::l)):Ls l:=⟨by have:=b.1;simp at this;omega,λx c=>b.2 x (eK _ c)⟩
theorem Ls.drop{l:List mS}(b:Ls l)(i:Nat):Ls (l.drop i):=⟨by have:=b.1;rw[cW];omega,λx c=>b.2 x (BE c)⟩
theorem C4{m:Int}(h0:0<=m)(h1:m<=2199023255552):∀{l:List mS},Ls l->0<=(qX m l).1/\(qX m l).1<=4398046511104+l.length*2199023255552
 |[],_=>by simp[qX];omega
 |e::l,b=>by
  have d:=C4 h0 h1 b.tail;have hb:=b.2 e (eO ..);have c:qX m (e::l)=LZ e (qX m l):=rfl;rw[c];unfold LZ;rw[fM];push_cast;split
  .omega
  .split
   .dsimp only;omega
   .dsimp only;omega
theorem xw{x:Yp}{e:mS}{j:Int}{K:Addr->aK}(p:(Sh.list Sv).ok h x)(h0:0<=j)(g:x.2[j.toNat]?=some e)
  (o:∀a h',Ext h h'->cA h.size 1 h' ⟨some a,3,3⟩ [aH e.1,aH e.2.1,aH e.2.2.1]->wp P (K a) h' Q) :
  wp P (bF (bN (aJ x.1.aD) (eU j x.1.len))<|.load (.agg [.int .i64, .int .i64, .int .i64]) (aB x.1.aD (aZ (bP j) 3)) λ(r:Int×Int×Int×Unit)=>
   .alloc [aH 0,aH 0,aH 0] λa=>.store (some a) [aH r.1,aH r.2.1,aH r.2.2.1] (K a)) h Q:=by
 refine Rr (e:=Sv) (x:=x) p h0 g rfl (z:=(e.1,e.2.1,e.2.2.1,())) rfl ?_;dsimp only;refine λelem=>?_;have b:Ext h (h.push (.cells [aH 0,aH 0,aH 0].toArray elem)):=Ext.push ..;have o1:cA h.size 1 (h.push (.cells [aH 0,aH 0,aH 0].toArray elem)) ⟨some ⟨h.size,0,none⟩,3,3⟩ [aH 0,aH 0,aH 0]:=bR rfl (by decide) (by decide);generalize h.push (.cells [aH 0,aH 0,aH 0].toArray elem)=w at b o1⊢;exact Am [aH e.1,aH e.2.1,aH e.2.2.1] o1 rfl (by intro v c;simp only[eH,lG,or_false]at c;rcases c with rfl|rfl|rfl<;>rfl) λd o2 u y=>
  o _ d (jU.jQ b u (by intro x t;cases t;exact bM _)) o2
theorem Jq{n:Nat}{a:Addr}{e:mS}(o:cA n 1 h ⟨some a,3,3⟩ [aH e.1,aH e.2.1,aH e.2.2.1]) :
  (∀{K:Int->aK},wp P (K e.1) h Q->wp P (.load (tI) (aB (some a) 0) K) h Q)/\(∀{K:Int->aK},wp P (K e.2.1) h Q->wp P (.load (tI) (aB (some a) 1) K) h Q) /\
  (∀{K:Int->aK},wp P (K e.2.2.1) h Q->wp P (.load (tI) (aB (some a) 2) K) h Q):=
 ⟨λc=>bC (b:=bI) _ e.1 rfl (aI.1 o.cells 0 _ rfl) c,λc=>bC (b:=bI) _ e.2.1 rfl (aI.1 o.cells 1 _ rfl) c,
  λc=>bC (b:=bI) _ e.2.2.1 rfl (aI.1 o.cells 2 _ rfl) c⟩
theorem YY{x:Yp}{m:Int}(K:(Sh.list Sv).ok h x)(hb:Ls x.2)(h0:0<=m)(h1:m<=2199023255552) :
  aS P (rH S m x.1) [tI, tB] h λ(y:Int×Bool×Unit) _=>y.1=(qX m x.2).1/\y.2.1=(qX m x.2).2:=by
 have M:=K.len;have hlen:=hb.1;unfold rH aS;have hn:bK .i64 (aQ x.1.len) 1=(x.2.length:Int)-1:=by rw[aN,M];exact bY (by omega) (by omega)
 rw[hn];refine bL (λ(s:Int×Bool×Int×Unit) h'=>Ext h h'/\∃i:Nat,i<=x.2.length/\s.2.2.1=(i:Int)-1/\s.1=(qX m (x.2.drop i)).1/\s.2.1=(qX m (x.2.drop i)).2) (λs _=>(s.2.2.1+1).toNat)
  (λt vs h'=>Ext h h'/\t=2/\vs=[aH (qX m x.2).1, .bool (qX m x.2).2]) ⟨Ext.refl _,x.2.length,bM _,rfl,by simp[qX],by simp[qX]⟩ ?_ ?_
 .rintro⟨(p:Int),(A:Bool),(i':Int),u⟩ h2 ⟨B,i,hi,z,hm,g⟩
  dsimp only at z hm g⊢;subst z;refine aE (λD=>?_) λD=>?_
  .rw[dD]at D
   obtain⟨j,rfl⟩:∃j,i=j+1:=⟨i-1,by omega⟩;have hj:(((j+1:Nat):Int)-1)=(j:Int):=by omega
   rw[hj];obtain⟨e,he⟩:∃e,x.2[j]?=some e:=⟨x.2[j]'(by omega),cK (by omega)⟩;have c:x.2.drop j=e::x.2.drop (j+1):=by
    have J:=(cQ.1 he).1;rw[<-(cQ.1 he).2,<-gY J]
   have I:qX m (x.2.drop j)=LZ e (qX m (x.2.drop (j+1))):=by rw[c];rfl
   have al:=hb.2 e (eL he);have H:=C4 h0 h1 (hb.drop (j+1));have ao:(x.2.drop (j+1)).length<=131072:=(hb.drop (j+1)).1;rw[<-hm]at H;have ab:p<=4398046511104+131072*2199023255552:=by omega
   refine yE ?_;refine xw (K.ext B) (by omega) (by simpa using he) λa Z V o3=>?_;have fin:∀(v:Int×Bool),LZ e (qX m (x.2.drop (j+1)))=v->∀C,Ext Z C ->
     wp P (aR (jI 0 0) (.cast [tI, tB] [aH v.1, .bool v.2] λ(r:Int×Bool×Unit)=>.ret 0 [aH r.1, .bool r.2.1,aH (bK .i64 (j:Int) 1)]) .fail) C (λtag vs h'=>
      (tag=0->∃b,vs=Ts.inj [tI, tB, tI] b/\(Ext h h'/\∃i:Nat,i<=x.2.length/\b.2.2.1=(i:Int)-1/\b.1=(qX m (x.2.drop i)).1/\b.2.1=(qX m (x.2.drop i)).2)/\(b.2.2.1+1).toNat<((j:Int)+1).toNat) /\
      (tag≠0->Ext h h'/\tag=2/\vs=[aH (qX m x.2).1, .bool (qX m x.2).2])):=by
    intro v L C W;refine bG ⟨(v.1,v.2,()),rfl,?_⟩;dsimp only;rw[bY (by omega) (by omega)];refine aC ⟨λ_=>⟨(v.1,v.2,(j:Int)-1,()),rfl,⟨(B.trans V).trans W,j,by omega,rfl,by rw[I,L],by rw[I,L]⟩,by dsimp only;omega⟩,λE=>absurd rfl E⟩
   obtain⟨o,N,O⟩:=Jq (P:=P) (Q:=λt vs h'=>wp P ((λ(G:Nat) (w:bH)=>aR (jI G 0) (.cast [tI, tB] w λ(r:Int×Bool×Unit)=>.ret 0 [aH r.1, .bool r.2.1,aH (bK .i64 (j:Int) 1)]) .fail) t vs) h' (λtag vs h'=>
      (tag=0->∃b,vs=Ts.inj [tI, tB, tI] b/\(Ext h h'/\∃i:Nat,i<=x.2.length/\b.2.2.1=(i:Int)-1/\b.1=(qX m (x.2.drop i)).1/\b.2.1=(qX m (x.2.drop i)).2)/\(b.2.2.1+1).toNat<((j:Int)+1).toNat) /\
      (tag≠0->Ext h h'/\tag=2/\vs=[aH (qX m x.2).1, .bool (qX m x.2).2]))) o3
   have Y:qX m (x.2.drop (j+1))=(p,A):=by rw[hm,g]
   rw[Y]at fin;refine o (aE (λc=>aC (fin (p,A) ?_ _ (Ext.refl _))) λc=>N (aE (λd=>O (N (o ?_))) λd=>o (o (O ?_))))
   .rw[aU]at c;unfold LZ;rw[if_pos c]
   .rw[aY]at c
    rw[dD]at d;rw[bY (a:=e.2.1) (by omega) (by omega),bY (by omega) (by omega),aW (by omega) (by omega)];refine aC (fin (_,A) ?_ _ (Ext.refl _));unfold LZ;rw[if_neg (by omega),if_pos d]
   .rw[aY]at c
    rw[eS]at d;rw[bY (a:=p) (by omega) (by omega),lB,aW (by omega) (by omega)];refine aC (fin (_,false) ?_ _ (Ext.refl _));unfold LZ;rw[if_neg (by omega),if_neg (by omega)]
  .rw[eS]at D
   have:i=0:=by omega
   subst this;refine aC ⟨λE=>absurd E (by decide),λ_=>⟨B,rfl,?_⟩⟩;rw[hm,g];rfl
 .rintro t vs h' ⟨U,rfl,rfl⟩
  exact bG ⟨((qX m x.2).1,(qX m x.2).2,()),rfl,aC ⟨rfl,U,((qX m x.2).1,(qX m x.2).2,()),rfl,rfl,rfl⟩⟩
end
section
variable{P:Program}{S:cH}{h:aG}{Q:Nat->bH->aG->Prop}
variable{told l:fX}
def BG(x:List mS)(l:fX):fX:=l.map λe=>(e.1,(qX e.2.1 x).1,e.2.2)
def wv(x:List mS)(v:Int):Int:=if v<0 then v else if (qX v x).2 then (qX v x).1 else -1
def lM(x:List mS)(ws:bB):bB:=ws.map (wv x)
def Ay(m:Nat)(w:Sl)(i:Nat):Prop:=i=m\/∃a,w.aD=some a/\a.block=i
open Classical in
noncomputable def half(g:Int->Int)(told:fX)(l:fX):fX:=l.map λe=>if e∈told then (e.1,g e.2.1,e.2.2) else e
theorem ZD(g:Int->Int)(l:fX):half g [] l=l:=by simp[half]
theorem Td{g:Int->Int}(b:told.Perm l):half g told l=l.map λe=>(e.1,g e.2.1,e.2.2):=by
 unfold half;refine JQ λe he=>?_;rw[if_pos (b.mem_iff.2 he)]
theorem J6(g:Int->Int)(told l:fX):(half g told l).map (λe=>(e.1,e.2.2))=l.map (λe=>(e.1,e.2.2)):=by
 unfold half;rw[sZ];refine JQ λe he=>?_;simp only[Function.comp];split<;>rfl
theorem PD{g:Int->Int}{e:Int×Int×Nat}(he:e∈l)(b:e∉told):e∈half g told l:=by
 unfold half;exact dB.2 ⟨e,he,if_neg b⟩
theorem XM{g:Int->Int}:∀{l:fX} {e:Int×Int×Nat},(l.map (·.1)).Nodup->e∈l->FK e.1 (g e.2.1) (half g told l)=half g (told++[e]) l:=by
 intro l
 induction l with
 |nil=>intro e _ he;cases he
 |cons a l u=>
  intro e c he;simp only[fT,CF]at c;have e0:half g told (a::l)=(if a∈told then (a.1,g a.2.1,a.2.2) else a)::half g told l:=rfl;have o:half g (told++[e]) (a::l)=(if a∈told++[e] then (a.1,g a.2.1,a.2.2) else a)::half g (told++[e]) l:=rfl;rw[e0,o];have p:(if a∈told then (a.1,g a.2.1,a.2.2) else a).1=a.1:=by split<;>rfl
  have hb:(if a∈told then (a.1,g a.2.1,a.2.2) else a).2.2=a.2.2:=by split<;>rfl
  simp only[FK,p,hb];by_cases ha:a.1=e.1
  .rw[if_pos ha]
   have b:a=e:=by
    rcases eH.1 he with h|h
    .exact h.symm
    .exact absurd (by rw[ha];exact rV (f:=(·.1)) h) c.1
   subst b;rw[if_pos (dH.2 (.inr (dE.2 rfl)))]
   congr 1
   unfold half;refine JQ λx t=>?_;have j:x≠a:=λh=>c.1 (by rw[<-h];exact rV (f:=(·.1)) t);simp only[dH,dE,j,or_false]
  .rw[if_neg ha]
   have d:e∈l:=by
    rcases eH.1 he with h|h
    .exact absurd (by rw[h]) ha
    .exact h
   rw[u c.2 d]
   congr 1
   have b:a≠e:=λh=>ha (by rw[h]);simp only[dH,dE,b,or_false]
theorem ia{g:Int->Int}{c:Nat}(o:CQ l c)(p:∀e∈l,cY .i64 (g e.2.1)):CQ (half g told l) c:=by
 obtain⟨d,j⟩:=map_fst (J6 g told l);refine⟨by rw[d];exact o.keys,by rw[j];exact o.Ie,λe he=>?_,λe he=>?_⟩
 .obtain⟨x,b,rfl⟩:=dB.1 he
  have:=o.old x b;split<;>exact this
 .obtain⟨x,b,rfl⟩:=dB.1 he
  have:=o.fk x b;split
  .exact⟨this.1,p x b⟩
  .exact this
theorem YX{n E:Nat}{b:Addr}{vs:bH}{m:Nat}{w:Sl}{ws:bB}{x:Yp}(ob:cA n 1 h ⟨some b,10,10⟩ vs)(h4:vs[4]?=some (.map (some m)))(h5:vs[5]?=some (dN w))
  (hm:sI h m l) (hw:bV E .i64 h w ws) (bs:∀a,w.aD=some a->a.block≠b.block) (O:∀h',aV (Ay m w) h h'->(Sh.list Sv).ok h' x) (hb:Ls x.2)
  (hl:∀e∈l,0<=e.2.1/\e.2.1<=2199023255552) (b6:∀v∈ws,v<=2199023255552) :
  ET (Ay m w) P (lT S (some b) x.1) [] h λ_ h'=>sI h' m (BG x.2 l)/\bV E .i64 h' w (lM x.2 ws):=by
 unfold lT ET;have bp:m≠b.block:=by
  intro e;obtain⟨c,d,_⟩:=hm;obtain⟨_,_,_,o4⟩:=ob;obtain⟨_,_,_,cs,el,B,_⟩:=o4;rw[e]at d;rw[d]at B;cases B
 have a4:∀a,w.aD=some a->a.block≠m:=by
  intro a ha e;obtain⟨c,d,_⟩:=hm;obtain⟨_,_,_,o4⟩:=hw.own;rw[ha]at o4;obtain⟨_,_,_,cs,el,B,_⟩:=o4;rw[e,d]at B;cases B
 have al:¬Ay m w b.block:=λhf=>by
  rcases hf with h|⟨a,ha,h⟩
  .exact bp h.symm
  .exact bs a ha h
 have b9:vs.length=10:=by have:=ob.1;simpa using this.symm
 have a5:∀{h':aG} {K:Option Nat->aK} {Q:Nat->bH->aG->Prop},aV (Ay m w) h h'->wp P (K (some m)) h' Q->wp P (.load (.one .map) (aB (some b) 4) K) h' Q:=λu hk=>
  bC (b:=.map) (b.add 4) (some m) rfl (aI.1 (u.own ob (by intro a ha;cases ha;exact al)).cells 4 _ h4) hk
 have a6:∀{h':aG} {K:Sl->aK} {Q:Nat->bH->aG->Prop},aV (Ay m w) h h'->wp P (K w) h' Q->wp P (.load (tS) (aB (some b) 5) K) h' Q:=λu hk=>
  bC (b:=.sl) (b.add 5) w rfl (aI.1 (u.own ob (by intro a ha;cases ha;exact al)).cells 5 _ h5) hk
 have bo:∀{h':aG} {K:aK} {Q:Nat->bH->aG->Prop},aV (Ay m w) h h'->wp P K h' Q->wp P (.check (aB (some b) 4) [.map (some m)] K) h' Q:=λu hk=>
  sU (aI.1 (u.own ob (by intro a ha;cases ha;exact al)).cells 4 _ h4) hk
 have Z:∀v,0<=v->v<=2199023255552->cY .i64 (qX v x.2).1:=λv h0 d=>by
  have:=C4 h0 d hb;have:=hb.1;rw[eV];omega
 refine aL rfl (aL rfl (a5 (aV.refl _ _) ?_));have b1:=hm;obtain⟨c,C,ok⟩:=hm;have b2:=(wW.1 C).1;refine P6 (m:=m) (l:=l) b1 (by decide) (λtold d=>aV (λi=>i=m) h d/\∃c,d[m]?=some (lP (half (λv=>(qX v x.2).1) told l) c)/\h[m]?=some (lP l c))
  (λtold d ⟨_,c,A,D⟩=>⟨c,_,A,D,J6 _ _ _,λe he hn=>PD he hn⟩) (λtold d L ⟨u,c,A,D⟩ v=>⟨u.trans v λi hi e=>by omega,c,by rw[v.2.1 m (wW.1 A).1 (by omega)];exact A,D⟩)
  (λd e1 z1=>⟨aV.bD e1,c,by rw[e1.2.1 m b2,ZD];exact C,C⟩) (λtold e d ⟨u,j,A,D⟩ o he b3=>?_) λtold d hp ⟨u,j,A,D⟩=>?_
 .have W:aV (Ay m w) h d:=u.mono λi _ hi=>.inl hi
  have G:=hl e he;have ab:j=c:=by
   have:lP l j=lP l c:=dU (D.symm.trans C);unfold lP at this;injection this
  subst ab;refine aL rfl (aL rfl (a5 W ?_));refine aM (YY (m:=e.2.1) (O d W) hb G.1 G.2) λ⟨(r:Int),(hr:Bool),_⟩ L Y U=>?_;obtain⟨p, -⟩:=U;have p:r=(qX e.2.1 x.2).1:=p;subst p;dsimp only;refine bo (W.ext Y) ?_;have b8:jN e.1 (half (λv=>(qX v x.2).1) told l)=some e.2.1:=by
   obtain⟨k1,k2⟩:=map_fst (J6 (λv=>(qX v x.2).1) told l);rw[HC (by rw[k1];exact ok.keys)];exact⟨e.2.2,PD he b3⟩
  have g3:L[m]?=some (lP (half (λv=>(qX v x.2).1) told l) j):=by rw[Y.2.1 m (wW.1 A).1];exact A
  have ba:Jc e.1 (qX e.2.1 x.2).1 (half (λv=>(qX v x.2).1) told l) j=lP (half (λv=>(qX v x.2).1) (told++[e]) l) j:=by
   unfold Jc;rw[b8];exact congrArg (λz=>lP z j) (XM (g:=λv=>(qX v x.2).1) ok.keys he)
  refine⟨m,_,j,rfl,g3,?_⟩;rw[ba];have u3:aV (λi=>i=m) L (L.setIfInBounds m (lP (half (λv=>(qX v x.2).1) (told++[e]) l) j)):=(BZ g3 DT).mono λi _ hi=>by unfold own at hi;omega
  refine aC ⟨rfl,rfl,?_,?_,j,Bz g3,D⟩
  .rw[u3.2.1 h.size (mK o Y.1) (by omega),Y.2.1 h.size o]
  .exact(u.ext Y).trans u3 λi _ hi=>hi
 .refine bG (bO ?_)
  have W:aV (Ay m w) h d:=u.mono λi _ hi=>.inl hi;have m1:sI d m (BG x.2 l):=⟨j,by rw[Td hp]at A;exact A,by
   have ab:j=c:=by
    have:lP l j=lP l c:=dU (D.symm.trans C);unfold lP at this;injection this
   subst ab;have:=ia (told:=told) (g:=λv=>(qX v x.2).1) ok λy U=>Z _ (hl y U).1 (hl y U).2;rw[Td hp]at this;exact this⟩
  refine aL rfl (aL rfl (a6 W ?_));have ao:=hw.len;have b4:=hw.lO.cap;have cd:=hw.lO.max;rw[ao]at b4;have w1:bV E .i64 d w ws:=u.qL hw λa ha=>a4 a ha;refine bL (λ(s:Int×Unit) h'=>aV (Ay m w) h h'/\sI h' m (BG x.2 l)/\∃i:Nat,s.1=i/\i<=ws.length/\bV E .i64 h' w ((ws.take i).map (wv x.2)++ws.drop i)) (λs _=>((ws.length:Int)-s.1).toNat)
   (λt vs h'=>t=4/\vs=[]/\aV (Ay m w) h h'/\sI h' m (BG x.2 l)/\bV E .i64 h' w (lM x.2 ws)) ⟨W,m1,0,rfl,cO _,by simpa using w1⟩ ?_ ?_
  .rintro⟨(i':Int),u'⟩ L ⟨V,m2,i,hi,b0,H⟩
   dsimp only at hi⊢;subst hi;refine aE (λC=>?_) λC=>?_
   .rw[aU,aN,ao]at C
    have o:i<ws.length:=by omega
    have a9:((ws.take i).map (wv x.2)++ws.drop i).getD i 0=ws[i]:=by
     simp[List.getD,RW,F5 b0,cK o]
    have a3:((ws.take i).map (wv x.2)++ws.drop i).length=ws.length:=by simp;omega
    have bb:∀v,v=wv x.2 ws[i]->((ws.take i).map (wv x.2)++ws.drop i).set i v=(ws.take (i+1)).map (wv x.2)++ws.drop (i+1):=by
     rintro v rfl;have a0:((ws.take i).map (wv x.2)).length=i:=by rw[cE,dJ];omega
     rw[Au (h:=by rw[a0];exact bM _),a0,tC,gY o,wX,eN,cK o,HU,dP,dX];rfl
    have aw:wv x.2 ws[i]=ws[i]->(ws.take i).map (wv x.2)++ws.drop i=(ws.take (i+1)).map (wv x.2)++ws.drop (i+1):=by
     intro G;rw[gY o,eN,cK o,HU,dP,dX,Sc,G];rfl
    have fin:∀M,aV (Ay m w) h M->sI M m (BG x.2 l)->bV E .i64 M w ((ws.take (i+1)).map (wv x.2)++ws.drop (i+1)) ->
      wp P (aR (jI 0 0) (.cast [] [] λ_=>.ret 0 [aH (aT .i64 (i:Int) 1)]) .fail) M (λtag vs h'=>
       (tag=0->∃s':Int×Unit,vs=Ts.inj [tI] s'/\(aV (Ay m w) h h'/\sI h' m (BG x.2 l)/\∃i:Nat,s'.1=i/\i<=ws.length/\bV E .i64 h' w ((ws.take i).map (wv x.2)++ws.drop i))/\((ws.length:Int)-s'.1).toNat<((ws.length:Int)-(i:Int)).toNat) /\
       (tag≠0->tag=4/\vs=[]/\aV (Ay m w) h h'/\sI h' m (BG x.2 l)/\bV E .i64 h' w (lM x.2 ws))):=by
     intro M u3 m3 w3;refine bG (bO ?_);rw[aW (by omega) (by omega)];exact aC ⟨λ_=>⟨((i:Int)+1,()),rfl,⟨u3,m3,i+1,by simp,by omega,w3⟩,by dsimp only;omega⟩,λO=>absurd rfl O⟩
    refine yE (qZ H.lO (by omega) (by rw[a3];omega) λ_=>?_);rw[cR,a9];refine aE (λN=>aC (fin _ V m2 ?_)) λN=>?_
    .rw[aU]at N
     rw[<-aw (by unfold wv;rw[if_pos N])];exact H
    .rw[aY]at N
     have G:=b6 ws[i] (CK _);refine aM (YY (m:=ws[i]) (O L V) hb N G) λ⟨(r:Int),(hr:Bool),_⟩ M B U=>?_;obtain⟨p,I⟩:=U;have p:r=(qX ws[i] x.2).1:=p;have I:hr=(qX ws[i] x.2).2:=I;dsimp only;refine fL (tys:=[tI]) (λ(y:Int×Unit) _=>y.1=wv x.2 ws[i]) ?_ λ⟨(v:Int),_⟩ h4 e4 J=>?_
     .refine aE (λhn=>aC ⟨rfl,Ext.refl _,(-1,()),rfl,?_⟩) λhn=>aC ⟨rfl,Ext.refl _,(r,()),rfl,?_⟩
      .have:hr=false:=by cases hr<;>simp[cL]at hn⊢
       unfold wv;rw[if_neg (by omega),<-I,this];rfl
      .have:hr=true:=by cases hr<;>simp[cL]at hn⊢
       unfold wv;rw[if_neg (by omega),<-I,this,<-p];rfl
     .have J:v=wv x.2 ws[i]:=J
      dsimp only;have u4:=(V.ext B).ext e4;refine aL rfl (aL rfl (a6 u4 ?_));refine ly ((H.ext B).ext e4) (by omega) (by rw[a3];omega) ?_ λh5 o5 u5 z5=>?_
      .rw[J];unfold wv
       rw[if_neg (by omega)];split
       .exact Z _ N G
       .rw[eV];omega
      .rw[cR,bb v J]at o5
       have c5:aV (Ay m w) h4 h5:=aV.dK u5 λa ha _=>.inr ⟨a,ha,rfl⟩;have u6:=u4.trans c5 λi _ hi=>hi;refine aC (fin _ u6 ?_ o5);have bd:aV (λi=>∃a,w.aD=some a/\a.block=i) h4 h5:=aV.dK u5 λa ha _=>⟨a,ha,rfl⟩;exact((m2.ext B).ext e4).oZ bd λ⟨a,ha,hh⟩=>a4 a ha hh
   .rw[aY,aN,ao]at C
    have bt:i=ws.length:=by omega
    subst bt;rw[fH,F6,kQ]at H;exact aC ⟨λO=>absurd O (by decide),λ_=>⟨rfl,rfl,V,m2,H⟩⟩
  .rintro t vs h' ⟨rfl,rfl,V,m2,H⟩
   exact bG (bO (aC ⟨rfl,V,(),rfl,m2,H⟩))
end
section
variable{P:Program}{S:cH}{h:aG}{Q:Nat->bH->aG->Prop}
variable{s:Sl}{l:List mS}{i:Nat}{h':aG}
theorem qF{n size off:Nat}{pre mid post:bH}(new:bH){K:aK}(J:cA n size h s (pre++mid++post))(g:off=pre.length)(I:new.length=mid.length)(h0:mid≠[])(G:∀v∈new,flat v=true)
  (H:∀h',cA n size h' s (pre++new++post)->jU s h h'->h'.size=h.size->wp P K h' Q):wp P (.store (aB s.aD off) new K) h Q:=by
 subst g;obtain⟨o1,o2,C,d⟩:=J;obtain⟨aD,len,cap⟩:=s;cases aD with
 |none=>
  dsimp only at o1 o2 d;subst d;have:len=0:=by omega
  subst this;have hm:0<mid.length:=List.length_pos_iff.2 h0;simp only[Nat.zero_mul,bQ]at o1;omega
 |some a=>
  dsimp only at o1 o2 C d⊢;obtain⟨b,off,spot⟩:=a;obtain⟨e0,t,u,cs,elem,x,E,y⟩:=d;dsimp only at e0 t u x;subst e0;subst t;have hle:len*size<=cap*size:=JH _ o2;simp only[bQ]at o1;obtain⟨w,p,c1,c2,c3,o,L,D⟩:=mH (vs:=new) (i:=0) (off:=pre.length) x G (by omega);refine⟨⟨b,pre.length,none⟩,by rw[pO,pK];simp,w,H _ ⟨by simp only[bQ];omega,o2,C,rfl,rfl,u,p,elem,c1,by rw[c2,E],λj v c=>?_⟩
   ⟨by unfold nZ;omega,λi hi B=>D i λe=>B _ rfl e.symm,λa e=>by unfold nZ;rw[jH];exact e⟩ (by unfold nZ;omega)⟩
  by_cases z:j<pre.length
  .rw[o j (.inl (by omega))]
   refine y j v ?_;rw[dX,mL z]at c⊢;exact c
  .rw[dX,jZ (by omega)]at c
   by_cases A:j-pre.length<new.length
   .rw[mL A]at c
    have:=c3 _ _ c
    rwa [show pre.length+0+(j-pre.length)=j by omega]at this
   .rw[jZ (by omega)]at c
    rw[o j (.inr (by omega))];refine y j v ?_;rw[dX,jZ (by omega),jZ (by omega),<-I];exact c
abbrev Z0(e:mS):bH:=[aH e.1,aH e.2.1,aH e.2.2.1]
def l_(e:mS):Prop:=cY .i64 e.1/\cY .i64 e.2.1/\cY .i64 e.2.2.1
structure JX(n:Nat)(h:aG)(s:Sl)(l:List mS):Prop where
 own:cA n 3 h s (l.flatMap Z0)
 fit:∀e∈l,l_ e
theorem L3(l:List mS):(l.flatMap Z0).length=l.length*3:=by
 induction l with
 |nil=>rfl
 |cons e l b=>rw[gD,bQ,b,fM];simp only[fM,Mp];omega
theorem JX.len{n:Nat}{s:Sl}{l:List mS}(o:JX n h s l):s.len=l.length:=by have:=o.own.1;rw[L3]at this;omega
theorem t_{j:Nat}{e:mS}(hi:l[i]?=some e)(c:j<3):(l.flatMap Z0)[i*3+j]?=(Z0 e)[j]? := by
 have b:=(cQ.1 hi).1;have g:l=l.take i++(e::l.drop (i+1)):=by
  rw[<-(cQ.1 hi).2,<-gY b,eY]
 have d:((l.take i).flatMap Z0).length=i*3:=by rw[L3,dJ];omega
 rw[g,gX,gD,jZ (by omega),d,show i*3+j-i*3=j by omega,mL (by simpa using c)]
theorem JX.ok{n:Nat}{s:Sl}{l:List mS}(o:JX n h s l):(Sh.list Sv).ok h (s,l):=by
 have hlen:=o.len;obtain⟨⟨o1,o2,A,c⟩,of⟩:=o;refine⟨hlen,o2,A,λi y hi=>?_⟩;have d:=of y (eL hi);cases hb:s.aD with
 |none=>
  rw[hb]at c;have w:=(cQ.1 hi).1;dsimp only at c w;omega
 |some a=>
  rw[hb]at c;obtain⟨b,off,spot⟩:=a;obtain⟨e0,g,x,cs,elem,p,B,z⟩:=c;dsimp only at e0 g x p;subst e0;subst g;refine⟨_,rfl,aI.2 λj v t=>?_,d.1,d.2.1,d.2.2,trivial⟩;have u:j<3:=(cQ.1 t).1;have:=z (i*3+j) v (by rw[t_ hi u];exact t);rw[pK,pK];simpa[Sw.cell,p,Sh.size] using this
theorem JX.oZ{F:Nat->Prop}{n:Nat}(o:JX n h s l)(u:aV F h h')(b:∀a,s.aD=some a->¬F a.block):JX n h' s l:=⟨u.own o.own b,o.fit⟩
theorem JX.ext{n:Nat}(o:JX n h s l)(u:Ext h h'):JX n h' s l:=o.oZ (aV.bD (F:=λ_=>False) u) λ_ _ x=>x
theorem lu{n:Nat}{K:Sl->aK}(h1:n<=131072)(b:∀h' r,Ext h h'->h'.size=h.size+1->(∀a,r.aD=some a->a.block=h.size)->JX h.size h' r (List.replicate n (0,0,0,()))->wp P (K r) h' Q):wp P (.mk 24 [aH 0,aH 0,aH 0] (n:Int) (n:Int) K) h Q:=by
 refine⟨⟨by omega,kR _,by omega,by omega⟩,λelem=>b _ _ (Ext.push ..) (by simp) (by intro a ha;simp at ha;rw[<-ha]) ⟨?_,?_⟩⟩
 .have c:∀n,jP [aH 0,aH 0,aH 0] n=(List.replicate n ((0,0,0,()):mS)).flatMap Z0:=by
   intro n
   induction n with
   |zero=>rfl
   |succ n d=>rw[JL,gD,<-d];rfl
  rw[cR,c];exact bR (by rw[L3,JR]) (by decide) (by omega)
 .intro e he
  rw[(Sb.1 he).2];exact⟨qJ _,qJ _,qJ _⟩
theorem bn{n:Nat}(e:mS){K:aK}(o:JX n h s l)(hi:i<l.length)(u:l_ e)
  (w:∀h',JX n h' s (l.set i e)->jU s h h'->h'.size=h.size->wp P K h' Q) :
  wp P (bF (bN (aJ s.aD) (eU (i:Int) s.len)) (.store (aB s.aD (aZ (bP (i:Int)) 3)) [aH e.1,aH e.2.1,aH e.2.2.1] K)) h Q:=by
 have hlen:=o.len;have p:l=l.take i++(l[i]::l.drop (i+1)):=by rw[<-gY hi,eY]
 have c:l.set i e=l.take i++(e::l.drop (i+1)):=by
  conv=>lhs;rw[p]
  have j:(l.take i).length=i:=by rw[dJ];omega
  rw[Au (h:=by omega),j,tC,wX]
 have y:cA n 3 h s ((l.take i).flatMap Z0++Z0 l[i]++(l.drop (i+1)).flatMap Z0):=by
  have:=o.own;rw[p,gX,gD]at this;rw[dX];exact this
 have hb:aJ s.aD=true:=by
  cases hb:s.aD with
  |none=>
   have:=o.own.2.2.2;rw[hb]at this;have:=o.own.2.1;dsimp only at *;omega
  |some a=>rfl
 have g:eU (i:Int) s.len=true:=by simp[eU,hlen];omega
 refine aL (by rw[hb,g];rfl) ?_;have d:aZ (bP (i:Int)) 3=((l.take i).flatMap Z0).length:=by rw[L3,dJ];simp[aZ,bP];omega
 rw[d];refine qF (mid:=Z0 l[i]) [aH e.1,aH e.2.1,aH e.2.2.1] y rfl rfl (by simp) (by intro v t;simp only[eH,lG,or_false]at t;rcases t with rfl|rfl|rfl<;>rfl) λh' z A B=>w h' ⟨?_,?_⟩ A B
 .rw[c,gX,gD,<-dX];exact z
 .intro x b
  rw[c]at b;rcases dH.1 b with b|b
  .exact o.fit x (rW b)
  .rcases eH.1 b with rfl|b
   .exact u
   .exact o.fit x (BE b)
def qD:Int->List mS->List mS
 |_,[]=>[]
 |sh,e::l=>(e.1+sh,e.1+sh+e.2.2.1,e.2.1-e.1,())::qD (sh+(e.2.2.1-(e.2.1-e.1))) l
def OD:Int->List mS->Int
 |sh,[]=>sh
 |sh,e::l=>OD (sh+(e.2.2.1-(e.2.1-e.1))) l
theorem FC:∀{l m:List mS} {sh:Int},qD sh (l++m)=qD sh l++qD (OD sh l) m
 |[],m,sh=>rfl
 |e::l,m,sh=>by simp only[Ee,qD,OD,FC (l:=l)]
theorem HP:∀{l m:List mS} {sh:Int},OD sh (l++m)=OD (OD sh l) m
 |[],m,sh=>rfl
 |e::l,m,sh=>by simp only[Ee,OD,HP (l:=l)]
theorem Nr:∀{l:List mS} {sh:Int},(qD sh l).length=l.length
 |[],sh=>rfl
 |e::l,sh=>by simp only[qD,fM,Nr (l:=l)]
theorem Ko:∀{l:List mS} {sh:Int},Ls l->sh-l.length*2199023255552<=OD sh l/\OD sh l<=sh+l.length*2199023255552
 |[],sh,_=>by simp[OD]
 |e::l,sh,b=>by
  have c:=Ko (sh:=sh+(e.2.2.1-(e.2.1-e.1))) b.tail;have hb:=b.2 e (eO ..);simp only[OD,fM];push_cast;omega
theorem Ls.take{l:List mS}(b:Ls l)(i:Nat):Ls (l.take i):=⟨by have:=b.1;rw[dJ];omega,λx c=>b.2 x (rW c)⟩
theorem Xd{x:Yp}(I:(Sh.list Sv).ok h x)(hb:Ls x.2):aS P (qP S x.1) [tS] h λ(y:Sl×Unit) h'=>JX h.size h' y.1 (qD 0 x.2):=by
 have K:=I.len;have hlen:=hb.1;unfold qP aS;have V:aQ x.1.len=(x.2.length:Int):=by rw[aN,K]
 rw[V];refine lu hlen λh1 r D z1 rb o1=>?_;have J:=o1.len;rw[JR]at J;refine bL (λ(s:Int×Int×Unit) h'=>Ext h h'/\∃i:Nat,s.2.1=i/\i<=x.2.length/\s.1=OD 0 (x.2.take i)/\JX h.size h' r (qD 0 (x.2.take i)++List.replicate (x.2.length-i) (0,0,0,()))) (λs _=>((x.2.length:Int)-s.2.1).toNat)
  (λt vs h'=>Ext h h'/\t=2/\vs=[]/\JX h.size h' r (qD 0 x.2)) ⟨D,0,rfl,cO _,rfl,by simpa[qD] using o1⟩ ?_ ?_
 .rintro⟨(sh:Int),(i':Int),u⟩ G ⟨g,i,hi,Y,d,o2⟩
  dsimp only at hi d⊢;subst hi;refine aE (λz=>?_) λz=>?_
  .rw[aU]at z
   have p:i<x.2.length:=by omega
   obtain⟨e,he⟩:∃e,x.2[i]?=some e:=⟨x.2[i]'p,cK p⟩;have W:=hb.2 e (eL he);have H:=Ko (sh:=0) (hb.take i);have ab:(x.2.take i).length<=131072:=(hb.take i).1;rw[<-d]at H;refine xw (I.ext g) (by omega) (by simpa using he) λa U E c=>?_;refine(Jq c).1 ((Jq c).1 ((Jq c).2.2 ((Jq c).2.1 ((Jq c).1 ?_))));rw[aW (a:=e.1) (b:=sh) (by omega) (by omega),aW (by omega) (by omega),bY (a:=e.2.1) (b:=e.1) (by omega) (by omega)];have o:(qD 0 (x.2.take i)).length=i:=by rw[Nr,dJ];omega
   have A:(qD 0 (x.2.take i)++List.replicate (x.2.length-i) ((0,0,0,()):mS)).set i (e.1+sh,e.1+sh+e.2.2.1,e.2.1-e.1,())=qD 0 (x.2.take (i+1))++List.replicate (x.2.length-(i+1)) (0,0,0,()):=by
    rw[Au (h:=by omega),o,tC,show x.2.length-i=(x.2.length-(i+1))+1 by omega,JL,wX,eN,he,HU,FC,<-d,dX];rfl
   refine bn (e.1+sh,e.1+sh+e.2.2.1,e.2.1-e.1,()) (o2.ext E) (by rw[bQ,o,JR];omega) ⟨by rw[eV];dsimp only;omega,by rw[eV];dsimp only;omega,by rw[eV];dsimp only;omega⟩ λw M C z4=>?_;rw[A]at M;have Z:=g.1;have N:aV (λi=>i=h.size) U w:=aV.dK C λy j _=>rb y j;have L:h.size<G.size:=by
    have:=D.1;obtain⟨_,_,_,q⟩:=o2.own;cases hb:r.aD with
    |none=>
     have:=C;rw[hb]at q;have:=o2.own.2.1;dsimp only at q;omega
    |some y=>
     rw[hb]at q;have:=(wW.1 q.2.2.2.choose_spec.choose_spec.1).1;rw[rb y hb]at this;exact this
   have o5:cA G.size 1 w ⟨some a,3,3⟩ [aH e.1,aH e.2.1,aH e.2.2.1]:=N.own c λy j=>by
    cases j;exact Nat.ne_of_gt (mK L (c.lt rfl).1)
   refine(Jq o5).2.2 ((Jq o5).2.1 ((Jq o5).1 ?_));rw[bY (a:=e.2.1) (b:=e.1) (by omega) (by omega),bY (by omega) (by omega),aW (by omega) (by omega),aW (by omega) (by omega)];have O:Ext h w:=jU.jQ (g.trans E) C λy j=>by rw[rb y j];exact bM _
   refine aC ⟨λ_=>⟨(sh+(e.2.2.1-(e.2.1-e.1)),(i:Int)+1,()),rfl,⟨O,i+1,by simp,by omega,?_,M⟩,by dsimp only;omega⟩,λB=>absurd rfl B⟩;rw[eN,he,HU,HP,<-d];rfl
  .rw[aY]at z
   have:i=x.2.length:=by omega
   subst this;rw[fH,tC,List.replicate_zero,kQ]at o2;exact aC ⟨λB=>absurd B (by decide),λ_=>⟨g,rfl,rfl,o2⟩⟩
 .rintro t vs h' ⟨g,rfl,rfl,o2⟩
  exact bG (bO (aC ⟨rfl,g,(r,()),rfl,o2⟩))
end
section
variable{P:Program}{S:cH}{h:aG}{Q:Nat->bH->aG->Prop}
variable{vs:bH}{s:Sl}
theorem Ih{n u:Nat}{b:Addr}{T:TX}{at_:Int}(ob:cA n 1 h ⟨some b,10,10⟩ vs)(h0:vs[0]?=some (.pointer (some T.p)))(t:eQ S u h T) :
  aS P (nK S (some b) at_) [tB] h λ(y:Bool×Unit) _=>y.1=true↔(0<=at_/\at_<=(iG T.enc T.cur.ps).length):=by
 unfold nK aS;refine bZ (0<=at_/\at_<=(iG T.enc T.cur.ps).length) (aE (λc=>?_) λc=>aC ⟨rfl,Ext.refl _,false,rfl,?_⟩) λj o d hb=>aC ⟨rfl,d,(j,()),rfl,hb⟩
 .rw[dD]at c
  refine aL rfl (aL rfl (bC (b:=.ptr) (b.add 0) (some T.p) rfl (aI.1 ob.cells 0 _ h0) ?_));refine aM (VV t) λ⟨(L:Int),_⟩ o d g=>aC ⟨rfl,d,_,rfl,?_⟩;have g:L=_:=g;subst g;dsimp only;rw[gG];exact⟨λh=>⟨c,h⟩,λh=>h.2⟩
 .rw[eS]at c
  exact⟨λh=>(by cases h),λh=>by omega⟩
theorem Qk{l:bB}(g:kW .i64 h s l)(u:l.length<=1099511627776):aS P (gH S s) [tS] h λ(y:Sl×Unit) h'=>bV h.size .i64 h' y.1 l:=by
 unfold gH aS;refine aE (λc=>aC ⟨rfl,Ext.refl _,(⟨none,0,0⟩,()),rfl,?_⟩) λc=>?_
 .have:l=[]:=by
   cases l with
   |nil=>rfl
   |cons a l=>
    obtain⟨x,d,_⟩:=g.rd.2 0 (.int .i64 a) rfl;rw[d]at c;cases c
  subst this;exact bV.nil _ _ _
 .refine λelem=>?_
  have b:Ext h (h.push (.cells [].toArray elem)):=Ext.push ..;have o1:bV h.size .i64 (h.push (.cells [].toArray elem)) ⟨some ⟨h.size,0,none⟩,0,0⟩ []:=PM (k:=.i64) (l:=[]) (by simp) (by decide);generalize h.push (.cells [].toArray elem)=p at b o1⊢;refine TZ o1 b.1 (g.ext b) (by simp;omega) (by simp;omega) λr t k2 o2 j o=>aC ⟨rfl,?_,(r,()),rfl,by simpa using o2⟩;exact jU.jQ b j (by intro x d;cases d;exact bM _)
theorem YM{n:Nat}{v:Value}(ho:cA n 1 h s (v::vs))(hf:∀u∈vs,flat u=true) :
  ET (λi=>∃a,s.aD=some a/\a.block=i) P (dZ S s (Int.ofNat 0) (Int.ofNat 1)) [tS] h λ(y:Sl×Unit) h'=>cA n 1 h' y.1 vs/\y.1.aD=s.aD:=by
 unfold dZ ET;obtain⟨o1,o2,U,g⟩:=ho;obtain⟨aD,len,cap⟩:=s;dsimp only at o1 o2 U g⊢;simp only[HT,fM]at o1;subst o1;cases aD with
 |none=>dsimp only at g;omega
 |some a=>
  dsimp only at g;obtain⟨b,off,spot⟩:=a;obtain⟨e0,G,H,cs,elem,p,t,e5⟩:=g;dsimp only at e0 G H p;subst e0;subst G;have c1:bE (some ⟨b,0,none⟩) cap 0 1=some ⟨b,0,none⟩:=eX _ _ _;have lb:∀(j:Int) (n:Nat),0<=j->j<=n->wO j n=true:=λj n h0 c=>by unfold wO;rw[decide_eq_true h0,decide_eq_true c];rfl
  have o:∀x y:Bool,x=true->y=true->bN x y=true:=by rintro _ _ rfl rfl;rfl
  refine aL (o _ _ (lb _ _ (by rw[aN];omega) (by rw[aN];omega)) (o _ _ (lb _ _ (by decide) (by simp[bP,aQ];omega)) (lb _ _ (by decide) (by simp[bP])))) (aE (λz=>by cases z) λ_=>aL (lb _ _ (by decide) (by simp)) (aL (lb _ _ (by decide) (by simp;omega)) ?_));have B:xO h (bE (some ⟨b,0,none⟩) cap 1 1) (vs.length*1) vs:=by
   unfold bE;split
   .rename_i z
    subst z;have:vs=[]:=At (by omega);subst this;exact⟨rfl,trivial⟩
   .refine⟨by simp,aI.2 λj u d=>?_⟩
    have:=e5 (j+1) u (by simpa using d);simp only[JG,pK];simpa[Sw.cell,p,F1] using this
  obtain⟨w,al,V,W,Y,p4,Z,p6⟩:=mH (vs:=vs) (i:=0) (off:=0) p hf (by rw[t];omega);have I:cS (bP (Int.ofNat 0)) 0+cS (vs.length+1) (bP (Int.ofNat 1))<=cS cap 0:=by simp[cS,bP];omega
  have C:cS (bP (Int.ofNat 0)) 0+cS (vs.length+1) (bP (Int.ofNat 1))=vs.length:=by simp[cS,bP]
  refine⟨vs,B,?_⟩;dsimp only;rw[if_pos I];have c2:bE (some ⟨b,0,none⟩) cap (bP (Int.ofNat 0)) 1=some ⟨b,0,none⟩:=eX _ _ _;rw[eX];dsimp only;rw[C];have N:(Addr.mk b 0 none).add (cS (bP (Int.ofNat 0)) 0*1)=⟨b,0,none⟩:=by simp[pK,cS,bP]
  rw[N];refine⟨w,?_⟩;have p7:=λx=>jH x ⟨b,0,none⟩ vs h 0;have M:nZ h ⟨b,0,none⟩ vs=oD h ⟨b,0,none⟩ 0 vs:=rfl;rw[M];generalize oD h ⟨b,0,none⟩ 0 vs=c at V Y Z p6 p7⊢;have A:cS cap 0=cap:=rfl;rw[A];refine aL (o _ _ (lb _ _ (by rw[aN];omega) (by rw[aN];omega)) (lb _ _ (by rw[aN];omega) (by simp[bP,aQ];omega))) ?_;have J:bE (some ⟨b,0,none⟩) cap (bP (aQ vs.length)) 1=some ⟨b,vs.length,none⟩:=by
   have:bP (aQ vs.length)=vs.length:=by simp[bP,aQ]
   rw[this];unfold bE;rw[if_neg (by omega),JG,pK];simp
  have K:cS (bP (aQ (vs.length+1))) (bP (aQ vs.length))=1:=by simp[bP,aQ,cS]
  obtain⟨w2,E,q1,q2,q3,q4,q5,q6⟩:=mH (vs:=[.pointer none]) (i:=0) (off:=vs.length) V (by intro x D;rw[dE.1 D];rfl) (by rw[W,t];simp;omega);show DI _ _ _ _;unfold DI;dsimp only;have O:jP [Value.pointer none] 1=[Value.pointer none]:=rfl;rw[J,K,O];dsimp only;refine⟨w2,aC ⟨rfl,⟨?_,λi hi L=>?_,λx D=>?_⟩,(⟨some ⟨b,0,none⟩,vs.length,cap⟩,()),rfl,⟨by simp,by show vs.length<=cap;omega,U,rfl,rfl,H,E,elem,q1,by rw[q2,W,t],λj u d=>?_⟩,rfl⟩⟩
  .show h.size<=(oD c _ 0 _).size
   rw[q5,Z];exact bM _
  .have hb:i≠b:=λe=>L ⟨_,rfl,e.symm⟩
   show(oD c _ 0 _)[i]?=_;rw[q6 i hb,p6 i hb]
  .show IU (oD c _ 0 _) x=false
   rw[jH,p7];exact D
  .have ao:=(cQ.1 d).1
   rw[q4 j (.inl (by omega))];have:=Y j u d;simpa using this
end
section
variable{P:Program}{S:cH}{h:aG}{Q:Nat->bH->aG->Prop}
structure HW where
 pt:Addr
 VP:Addr
 vo:Addr
 sb:Piece.St
 sh:Piece.St
 bg:Int
 en:Int
 mv:Sl×List Yp
 old:Int
 fresh:Int
structure KJ where
 o:Addr
 VP:Addr
 sb:Piece.St
 bg:Int
 mv:Sl×List Yp
 old:Int
 m:Nat
 ms:fX
 w:Sl
 ws:bB
 ch:Bool
structure Bk where
 b:Addr
 T:TX
 depth:Int
 U:Sl×List HW
 R:Sl×List HW
 m:Nat
 ms:fX
 w:Sl
 ws:bB
 now:Option KJ
 state:Int
 saved:Int
 last:Int
def y6(g:HW):bH:=[.pointer (some g.VP), .pointer (some g.vo),aH g.bg,aH g.en,dN g.mv.1,aH g.old,aH g.fresh]
def BK(o:KJ):bH:=[.pointer (some o.VP), .pointer none,aH o.bg,aH 0,dN o.mv.1,aH o.old,aH 0, .map (some o.m),dN o.w, .bool o.ch]
def oX(B:Bk):bH:=[.pointer (some B.T.p),aH B.depth,dN B.U.1,dN B.R.1, .map (some B.m),dN B.w, .pointer (B.now.map (·.o)),aH B.state,aH B.saved,aH B.last]
def oQ(l:List HW):bH:=l.map λg=>.pointer (some g.pt)
structure Yz(n:Nat)(h:aG)(rho:Nat->Nat)(r:Nat)(mv:Sl×List Yp):Prop where
 own:cA n 1 h mv.1 (mv.2.map λx=>dN x.1)
 role:∀a,mv.1.aD=some a->rho a.block=r
 each:∀x∈mv.2,JX n h x.1 x.2/\(∀a,x.1.aD=some a->rho a.block=0)/\Ls x.2
structure Ut(n:Nat)(h:aG)(rho:Nat->Nat)(T:TX)(g:HW):Prop where
 ob:cA n 1 h ⟨some g.pt,7,7⟩ (y6 g)
 s1:GP n h g.VP T.p g.sb
 s2:GP n h g.vo T.p g.sh
 k1:g.sb∈T.kept
 k2:g.sh∈T.kept
 mv:Yz n h rho 0 g.mv
 r0:rho g.pt.block=0/\rho g.VP.block=0/\rho g.vo.block=0
structure Uv(n:Nat)(h:aG)(rho:Nat->Nat)(k:Nat)(T:TX)(o:KJ):Prop where
 ob:cA n 1 h ⟨some o.o,10,10⟩ (BK o)
 ro:rho o.o.block=k+6
 sn:GP n h o.VP T.p o.sb
 ks:o.sb∈T.kept
 rs:rho o.VP.block=0
 mv:Yz n h rho (k+7) o.mv
 mp:sI h o.m o.ms
 rm:rho o.m=k+9
 ow:bV n .i64 h o.w o.ws
 EP:∀a,o.w.aD=some a->rho a.block=k+10
structure RestR(S:cH)(n:Nat)(h:aG)(rho:Nat->Nat)(k:Nat)(B:Bk):Prop where
 t:eQ S n h B.T
 rt:∀i,B.T.Z i->rho i=k+8
 mp:sI h B.m B.ms
 rm:rho B.m=k+2
 ow:bV n .i64 h B.w B.ws
 EP:∀a,B.w.aD=some a->rho a.block=k+3
 ou:cA n 1 h B.U.1 (oQ B.U.2)
 ru:∀a,B.U.1.aD=some a->rho a.block=k+4
 Ll:cA n 1 h B.R.1 (oQ B.R.2)
 rr:∀a,B.R.1.aD=some a->rho a.block=k+5
 gs:∀g,g∈B.U.2\/g∈B.R.2->Ut n h rho B.T g
 nw:∀o,B.now=some o->Uv n h rho k B.T o
structure cU(S:cH)(n:Nat)(h:aG)(rho:Nat->Nat)(k:Nat)(B:Bk):Prop extends RestR S n h rho k B where
 ob:cA n 1 h ⟨some B.b,10,10⟩ (oX B)
 rb:rho B.b.block=k+1
structure cX(k:Nat)(h:aG)(rho:Nat->Nat)(h':aG)(rho':Nat->Nat):Prop where
 c:aV (λi=>k<rho i/\rho i<=k+10) h h'
 old:∀i,i<h.size->(rho i<=k\/k+10<rho i)->rho' i=rho i
 new:∀i,i<h'.size->(h.size<=i\/(k<rho i/\rho i<=k+10))->rho' i=0\/(k<rho' i/\rho' i<=k+10)
theorem cX.refl(k:Nat)(h:aG)(rho:Nat->Nat):cX k h rho h rho:=
 ⟨aV.refl _ _,λ_ _ _=>rfl,λi hi b=>b.elim (λc=>absurd hi (by omega)) .inr⟩
theorem cX.trans{k:Nat}{h h1 t:aG}{rho d g:Nat->Nat}(a:cX k h rho h1 d)(b:cX k h1 d t g):cX k h rho t g where
 c:=a.c.trans b.c λi hi hr=>by
  by_cases p:rho i<=k\/k+10<rho i
  .rw[a.old i hi p]at hr;omega
  .omega
 old i hi p:=by
  have h1:=a.old i hi p;rw[b.old i (mK hi a.c.1) (by omega),h1]
 new i o hi:=by
  by_cases j:i<h1.size
  .rcases a.new i j hi with h0|h0
   .exact .inl (by rw[b.old i j (by omega),h0])
   .exact b.new i o (.inr h0)
  .exact b.new i o (.inl (by omega))
theorem cX.of{k:Nat}{h h':aG}{rho:Nat->Nat}{F:Nat->Prop}(c:aV F h h')(d:∀i,i<h.size->F i->k<rho i/\rho i<=k+10)(j:∀i,h.size<=i->i<h'.size->rho i=0):cX k h rho h' rho:=
 ⟨c.mono d,λ_ _ _=>rfl,λi hi g=>g.elim (λb=>.inl (j i b hi)) .inr⟩
section frames
variable{n:Nat}{h':aG}{rho rho':Nat->Nat}{F:Nat->Prop}{T T':TX}
theorem Yz.aP{r o:Nat}{mv:Sl×List Yp}(m:Yz n h rho r mv)(c:aV F h h')(j:∀i,i<h.size->F i->rho i≠0/\(∀a,mv.1.aD=some a->a.block≠i))(h0:∀i,i<h.size->rho i=0->rho' i=0)(hr:∀a,mv.1.aD=some a->rho' a.block=o):Yz n h' rho' o mv where
 own:=c.own m.own λa ha d=>(j _ (m.own.lt ha).2 d).2 a ha rfl
 role:=hr
 each x t:=by
  obtain⟨b,g,p⟩:=m.each x t;exact⟨b.oZ c λa ha d=>(j _ (b.own.lt ha).2 d).1 (g a ha),λa ha=>h0 _ (b.own.lt ha).2 (g a ha),p⟩
theorem Ut.aP{g:HW}(r:Ut n h rho T g)(c:aV F h h')(d:∀i,i<h.size->F i->rho i≠0)(h0:∀i,i<h.size->rho i=0->rho' i=0)(o:T'.p=T.p)(j:∀s,s∈T.kept->s∈T'.kept):Ut n h' rho' T' g where
 ob:=c.own r.ob λa ha b=>d _ (r.ob.lt ha).2 b (by cases ha;exact r.r0.1)
 s1:=by rw[GP,o];exact c.own r.s1 λa ha b=>d _ (r.s1.lt ha).2 b (by cases ha;exact r.r0.2.1)
 s2:=by rw[GP,o];exact c.own r.s2 λa ha b=>d _ (r.s2.lt ha).2 b (by cases ha;exact r.r0.2.2)
 k1:=j _ r.k1
 k2:=j _ r.k2
 mv:=r.mv.aP c (λi hi b=>⟨d i hi b,λa ha e=>d i hi b (by rw[<-e];exact r.mv.role a ha)⟩) h0 λa ha=>h0 _ (r.mv.own.lt ha).2 (r.mv.role a ha)
 r0:=⟨h0 _ (r.ob.lt rfl).2 r.r0.1,h0 _ (r.s1.lt rfl).2 r.r0.2.1,h0 _ (r.s2.lt rfl).2 r.r0.2.2⟩
theorem Uv.aP{k:Nat}{o:KJ}(r:Uv n h rho k T o)(c:aV F h h')(d:∀i,i<h.size->F i->rho i≠0/\rho i≠k+6/\rho i≠k+7/\rho i≠k+9/\rho i≠k+10)
  (h0:∀i,i<h.size->rho i=0\/rho i=k+6\/rho i=k+7\/rho i=k+9\/rho i=k+10->rho' i=rho i) (t:T'.p=T.p) (j:∀s,s∈T.kept->s∈T'.kept):Uv n h' rho' k T' o where
 ob:=c.own r.ob λa ha b=>by have:=(d _ (r.ob.lt ha).2 b).2.1;cases ha;exact this r.ro
 ro:=by rw[h0 _ (r.ob.lt rfl).2 (.inr (.inl r.ro))];exact r.ro
 sn:=by rw[GP,t];exact c.own r.sn λa ha b=>by have:=(d _ (r.sn.lt ha).2 b).1;cases ha;exact this r.rs
 ks:=j _ r.ks
 rs:=by rw[h0 _ (r.sn.lt rfl).2 (.inl r.rs)];exact r.rs
 mv:=r.mv.aP c (λi hi b=>⟨(d i hi b).1,λa ha e=>(d i hi b).2.2.1 (by rw[<-e];exact r.mv.role a ha)⟩) (λi hi g=>by rw[h0 i hi (.inl g)];exact g)
  λa ha=>by rw[h0 _ (r.mv.own.lt ha).2 (.inr (.inr (.inl (r.mv.role a ha))))];exact r.mv.role a ha
 mp:=r.mp.oZ c λb=>(d _ r.mp.lt b).2.2.2.1 r.rm
 rm:=by rw[h0 _ r.mp.lt (.inr (.inr (.inr (.inl r.rm))))];exact r.rm
 ow:=c.qL r.ow λa ha b=>(d _ (r.ow.own.lt ha).2 b).2.2.2.2 (r.EP a ha)
 EP a ha:=by rw[h0 _ (r.ow.own.lt ha).2 (.inr (.inr (.inr (.inr (r.EP a ha)))))];exact r.EP a ha
end frames
variable{h':aG}{rho:Nat->Nat}{X:Bk}{i:Nat}
theorem RestR.aP{n k:Nat}{h':aG}{rho rho':Nat->Nat}{B:Bk}{F:Nat->Prop}(r:RestR S n h rho k B)(c:aV F h h')(d:∀i,i<h.size->F i->rho i≠0/\(rho i<=k+1\/k+10<rho i))(h0:∀i,i<h.size->rho i=0\/(k+1<rho i/\rho i<=k+10)->rho' i=rho i):RestR S n h' rho' k B where
 t:=r.t.oZ c λi hi b=>by have:=d i (r.t.lo i hi).2 b;have:=r.rt i hi;omega
 rt i hi:=by rw[h0 _ (r.t.lo i hi).2 (.inr (by have:=r.rt i hi;omega))];exact r.rt i hi
 mp:=r.mp.oZ c λb=>by have:=d _ r.mp.lt b;have:=r.rm;omega
 rm:=by rw[h0 _ r.mp.lt (.inr (by have:=r.rm;omega))];exact r.rm
 ow:=c.qL r.ow λa ha b=>by have:=d _ (r.ow.own.lt ha).2 b;have:=r.EP a ha;omega
 EP a ha:=by rw[h0 _ (r.ow.own.lt ha).2 (.inr (by have:=r.EP a ha;omega))];exact r.EP a ha
 ou:=c.own r.ou λa ha b=>by have:=d _ (r.ou.lt ha).2 b;have:=r.ru a ha;omega
 ru a ha:=by rw[h0 _ (r.ou.lt ha).2 (.inr (by have:=r.ru a ha;omega))];exact r.ru a ha
 Ll:=c.own r.Ll λa ha b=>by have:=d _ (r.Ll.lt ha).2 b;have:=r.rr a ha;omega
 rr a ha:=by rw[h0 _ (r.Ll.lt ha).2 (.inr (by have:=r.rr a ha;omega))];exact r.rr a ha
 gs g u:=(r.gs g u).aP c (λi hi b=>(d i hi b).1) (λi hi j=>by rw[h0 i hi (.inl j)];exact j) rfl λs p=>p
 nw o w:=(r.nw o w).aP c (λi hi b=>by have:=d i hi b;omega) (λi hi j=>h0 i hi (by omega)) rfl λs p=>p
theorem cU.other{n k:Nat}{rho':Nat->Nat}{B:Bk}{F:Nat->Prop}(r:cU S n h rho k B)(c:aV F h h')(d:∀i,i<h.size->F i->rho i≠0/\(rho i<=k\/k+10<rho i))(h0:∀i,i<h.size->rho i=0\/(k<rho i/\rho i<=k+10)->rho' i=rho i):cU S n h' rho' k B where
 toRestR:=r.toRestR.aP c (λi hi b=>by have:=d i hi b;omega) λi hi g=>h0 i hi (by omega)
 ob:=c.own r.ob λa ha b=>by have:=d _ (r.ob.lt ha).2 b;cases ha;have:=r.rb;omega
 rb:=by rw[h0 _ (r.ob.lt rfl).2 (.inr (by have:=r.rb;omega))];exact r.rb
theorem cU.ext{n k:Nat}{B:Bk}(r:cU S n h rho k B)(e:Ext h h'):cU S n h' rho k B:=
 r.other (aV.bD (F:=λ_=>False) e) (λ_ _ x=>x.elim) λ_ _ _=>rfl
theorem RestR.re{n k:Nat}{B b:Bk}(r:RestR S n h rho k B)(h1:b.T=B.T)(c:b.U=B.U)(d:b.R=B.R)(p:b.m=B.m)(C:b.ms=B.ms)(t:b.w=B.w)(D:b.ws=B.ws)(E:b.now=B.now):RestR S n h rho k b:=by
 obtain⟨a1,a2,u,x,y,z,a7,a8,A,g,j,o⟩:=r;refine⟨by rw[h1];exact a1,by rw[h1];exact a2,by rw[p,C];exact u,by rw[p];exact x,by rw[t,D];exact y,by rw[t];exact z,by rw[c];exact a7,by rw[c];exact a8,by rw[d];exact A,by rw[d];exact g,by rw[h1,c,d];exact j,by rw[h1,E];exact o⟩
theorem cU.rd{n k:Nat}(r:cU S n h rho k X){b:B}(x:b.den){K:b.den->aK}(d:(oX X)[i]?=some (b.inj x))(c:wp P (K x) h Q) :
  wp P (bF (aJ (some X.b))<|bF (aJ (some X.b))<|.load (.one b) (aB (some X.b) i) K) h Q:=
 aL rfl (aL rfl (bC (b:=b) (X.b.add i) x rfl (aI.1 r.ob.cells i _ d) c))
theorem cU.zy{n k:Nat}(Y:Bk){v:Value}{K:aK}(r:cU S n h rho k X)(hi:i<10)(z:flat v=true)(B:oX Y=(oX X).set i v)(hb:Y.b=X.b)(h1:Y.T=X.T)(d:Y.U=X.U)(g:Y.R=X.R)(j:Y.m=X.m)(p:Y.ms=X.ms)(t:Y.w=X.w)(x:Y.ws=X.ws)(y:Y.now=X.now)
  (A:∀h',cU S n h' rho k Y->aV (λi=>i=X.b.block) h h'->wp P K h' Q) :
  wp P (bF (aJ (some X.b))<|bF (aJ (some X.b))<|.store (aB (some X.b) i) [v] K) h Q:=by
 refine aL rfl (aL rfl (fB v r.ob (by simp[oX];exact hi) z λh' o u=>?_));have c:aV (λi=>i=X.b.block) h h':=aV.dK u λa ha _=>by cases ha;rfl
 exact A h' {toRestR:=(r.toRestR.aP (rho':=rho) c (λi hi e=>by subst e;have:=r.rb;omega) λ_ _ _=>rfl).re h1 d g j p t x y,ob:=by rw[hb,B];exact o,rb:=by rw[hb];exact r.rb} c
end
section
variable{P:Program}{S:cH}{h:aG}{Q:Nat->bH->aG->Prop}{n k:Nat}{rho:Nat->Nat}{X:Bk}
theorem VU(r:cU S n h rho k X):aS P (zE S (some X.b)) [tP] h λ(y:OA×Unit) _=>y.1=some X.T.p:=by
 unfold zE aS;exact r.rd (b:=.ptr) (some X.T.p) rfl (aC ⟨rfl,Ext.refl _,(some X.T.p,()),rfl,rfl⟩)
def Hn(X:Bk):Bool:=decide (X.state≠X.saved) || (X.now.map (·.ch)).getD false
theorem ga(r:cU S n h rho k X):aS P (vA S (some X.b)) [tB] h λ(y:Bool×Unit) _=>y.1=Hn X:=by
 unfold vA aS;refine bZ (Hn X=true) ?_ λg t p hb=>aC ⟨rfl,p,(g,()),rfl,by cases g<;>cases u:Hn X<;>simp_all⟩;refine r.rd (b:=bI) X.state rfl (r.rd (b:=bI) X.saved rfl (aE (λc=>aC ⟨rfl,Ext.refl _,true,rfl,?_⟩) λc=>?_))
 .have:X.state≠X.saved:=by simpa[G8] using c
  simp[Hn,this]
 .have j:X.state=X.saved:=by simpa[G8] using c
  cases d:X.now with
  |none=>
   refine r.rd (b:=.ptr) none (by simp[oX,d,B.inj]) (aE (λc=>by cases c) λ_=>aC ⟨rfl,Ext.refl _,false,rfl,?_⟩);simp[Hn,j,d]
  |some o=>
   have ro:=r.nw o d;refine r.rd (b:=.ptr) (some o.o) (by simp[oX,d,B.inj]) (aE (λ_=>?_) λc=>by cases c);refine r.rd (b:=.ptr) (some o.o) (by simp[oX,d,B.inj]) (aL rfl (aL rfl (bC (b:=.bool) (o.o.add 9) o.ch rfl (aI.1 ro.ob.cells 9 _ rfl) (aC ⟨rfl,Ext.refl _,o.ch,rfl,?_⟩))));simp[Hn,j,d]
theorem g_(r:cU S n h rho k X):aS P (uZ S (some X.b)) [tI, tI] h λ(y:Int×Int×Unit) _=>y.1=X.U.2.length/\y.2.1=X.R.2.length:=by
 unfold uZ aS;have hu:X.U.1.len=X.U.2.length:=by have:=r.ou.1;simpa[oQ] using this
 have hr:X.R.1.len=X.R.2.length:=by have:=r.Ll.1;simpa[oQ] using this
 refine r.rd (b:=.sl) X.U.1 rfl (r.rd (b:=.sl) X.R.1 rfl (aC ⟨rfl,Ext.refl _,(_,_,()),rfl,?_,?_⟩))
 .dsimp only;rw[hu]
 .dsimp only;rw[hr]
theorem YO(r:cU S n h rho k X):aS P (tF S (some X.b)) [tB] h λ(y:Bool×Unit) _=>y.1=X.now.isSome:=by
 unfold tF aS;refine r.rd (b:=.ptr) (X.now.map (·.o)) rfl (aC ⟨rfl,Ext.refl _,(_,()),rfl,?_⟩);cases X.now<;>rfl
def D5(X:Bk):Bk:=if X.now.isNone then {X with saved:=X.state} else X
theorem gb(r:cU S n h rho k X):ET (λi=>i=X.b.block) P (vD S (some X.b)) [] h λ_ h'=>cU S n h' rho k (D5 X):=by
 unfold vD ET;refine r.rd (b:=.ptr) (X.now.map (·.o)) rfl (aE (λd=>?_) λd=>aC ⟨rfl,aV.refl _ _,(),rfl,?_⟩)
 .have g:X.now=none:=by cases j:X.now<;>simp[j,fD]at d⊢
  refine r.rd (b:=bI) X.state rfl (r.zy {X with saved:=X.state} (i:=8) (by decide) rfl rfl rfl rfl rfl rfl rfl rfl rfl rfl rfl λh' p c=>aC ⟨rfl,c,(),rfl,?_⟩);have:D5 X={X with saved:=X.state}:=if_pos (by rw[g];rfl);dsimp only;rw[this];exact p
 .have g:X.now.isNone=false:=by cases j:X.now<;>simp[j,fD]at d⊢
  have:D5 X=X:=if_neg (by rw[g];decide);dsimp only;rw[this];exact r
def OB(a:Int):Prop:=(97<=a/\a<=122)\/a=39\/a=60\/a=62
theorem YZ{a:Int}:aS P (sC S a) [tB] h λ(y:Bool×Unit) _=>y.1=true↔OB a:=by
 unfold sC aS;have tail:wp P (aR (gN a 39) (.ret 0 [.bool true])<|aR (gN a 60) (.ret 0 [.bool true])<|.ret 0 [.bool (gN a 62)]) h λt vs h'=>t=0/\Ext h h'/\∃b,vs=[.bool b]/\(b=true↔a=39\/a=60\/a=62):=by
  refine aE (λc=>aC ⟨rfl,Ext.refl _,true,rfl,?_⟩) λc=>aE (λd=>aC ⟨rfl,Ext.refl _,true,rfl,?_⟩) λd=>aC ⟨rfl,Ext.refl _,_,rfl,?_⟩
  .have:a=39:=by simpa[gN] using c
   simp[this]
  .have:a=60:=by simpa[gN] using d
   simp[this]
  .have o:a≠39:=by simpa[gN] using c
   have w:a≠60:=by simpa[gN] using d
   simp[gN,o,w]
 refine bZ (OB a) ?_ λp o u hb=>aC ⟨rfl,u,(p,()),rfl,hb⟩;refine aE (λc=>aE (λd=>aC ⟨rfl,Ext.refl _,true,rfl,?_⟩) λd=>cN _ (λt vs h' ⟨a1,a2,b,g,j⟩=>⟨a1,a2,b,g,?_⟩) tail) λc=>cN _ (λt vs h' ⟨a1,a2,b,g,j⟩=>⟨a1,a2,b,g,?_⟩) tail
 .rw[dD]at c;rw[gG]at d
  exact⟨λ_=>.inl ⟨c,d⟩,λ_=>rfl⟩
 .rw[mN]at d
  rw[j];unfold OB;omega
 .rw[eS]at c
  rw[j];unfold OB;omega
theorem ov{name:Int}(r:cU S n h rho k X):aS P (zD S (some X.b) name) [tI, tI] h λ(y:Int×Int×Unit) _=>(jN name X.ms=none/\y.1=0/\y.2.1=74)\/(jN name X.ms=some y.1/\y.2.1=0):=by
 unfold zD aS;refine r.rd (b:=.map) (some X.m) rfl (ub r.mp ?_);cases hm:jN name X.ms with
 |none=>exact aE (λ_=>aC ⟨rfl,Ext.refl _,(0,74,()),rfl, .inl ⟨rfl,rfl,rfl⟩⟩) λc=>by cases c
 |some v=>exact aE (λc=>by cases c) λ_=>aC ⟨rfl,Ext.refl _,(v,0,()),rfl, .inr ⟨rfl,rfl⟩⟩
theorem Xa(r:cU S n h rho k X)(d:X.ws.length<=1099511627776):aS P (rD S (some X.b)) [tS] h λ(y:Sl×Unit) h'=>bV h.size .i64 h' y.1 X.ws:=by
 unfold rD aS;refine r.rd (b:=.sl) X.w rfl (aM (Qk r.ow.lO d) λ⟨(y:Sl),_⟩ g c o1=>aC ⟨rfl,c,(y,()),rfl,o1⟩)
end
section
variable{P:Program}{S:cH}{h:aG}{Q:Nat->bH->aG->Prop}{n k:Nat}{rho:Nat->Nat}{X:Bk}
section parts
variable{h':aG}{rho':Nat->Nat}{F:Nat->Prop}
variable{T':TX}
theorem RestR.tK(r:RestR S n h rho k X) (c:aV F h h')(b:∀i,i<h.size->F i->rho i≠k+8):eQ S n h' X.T:=r.t.oZ c λi hi d=>b i (r.t.lo i hi).2 d (r.rt i hi)
theorem RestR.vd(r:RestR S n h rho k X) (h0:∀i,i<h.size->rho i=k+8->rho' i=k+8):∀i,X.T.Z i->rho' i=k+8:=λi hi=>h0 i (r.t.lo i hi).2 (r.rt i hi)
theorem RestR.kx(r:RestR S n h rho k X) (c:aV F h h')(b:∀i,i<h.size->F i->rho i≠k+2):sI h' X.m X.ms:=r.mp.oZ c λd=>b _ r.mp.lt d r.rm
theorem RestR.ua(r:RestR S n h rho k X) (h0:∀i,i<h.size->rho i=k+2->rho' i=k+2):rho' X.m=k+2:=h0 _ r.mp.lt r.rm
theorem RestR.lj(r:RestR S n h rho k X) (c:aV F h h')(b:∀i,i<h.size->F i->rho i≠k+3):bV n .i64 h' X.w X.ws:=c.qL r.ow λa ha d=>b _ (r.ow.own.lt ha).2 d (r.EP a ha)
theorem RestR.ve(r:RestR S n h rho k X) (h0:∀i,i<h.size->rho i=k+3->rho' i=k+3):∀a,X.w.aD=some a->rho' a.block=k+3:=λa ha=>h0 _ (r.ow.own.lt ha).2 (r.EP a ha)
theorem RestR.lg(r:RestR S n h rho k X) (c:aV F h h')(b:∀i,i<h.size->F i->rho i≠k+4):cA n 1 h' X.U.1 (oQ X.U.2):=c.own r.ou λa ha d=>b _ (r.ou.lt ha).2 d (r.ru a ha)
theorem RestR.xr(r:RestR S n h rho k X) (h0:∀i,i<h.size->rho i=k+4->rho' i=k+4):∀a,X.U.1.aD=some a->rho' a.block=k+4:=λa ha=>h0 _ (r.ou.lt ha).2 (r.ru a ha)
theorem RestR.tw(r:RestR S n h rho k X) (c:aV F h h')(b:∀i,i<h.size->F i->rho i≠k+5):cA n 1 h' X.R.1 (oQ X.R.2):=c.own r.Ll λa ha d=>b _ (r.Ll.lt ha).2 d (r.rr a ha)
theorem RestR.xq(r:RestR S n h rho k X) (h0:∀i,i<h.size->rho i=k+5->rho' i=k+5):∀a,X.R.1.aD=some a->rho' a.block=k+5:=λa ha=>h0 _ (r.Ll.lt ha).2 (r.rr a ha)
theorem RestR.kl(r:RestR S n h rho k X) (c:aV F h h')(b:∀i,i<h.size->F i->rho i≠0)(h0:∀i,i<h.size->rho i=0->rho' i=0)(o:T'.p=X.T.p)(j:∀s,s∈X.T.kept->s∈T'.kept):∀g,g∈X.U.2\/g∈X.R.2->Ut n h' rho' T' g:=
  λg d=>(r.gs g d).aP c b h0 o j
theorem RestR.xj(r:RestR S n h rho k X) (c:aV F h h')(b:∀i,i<h.size->F i->rho i≠0/\rho i≠k+6/\rho i≠k+7/\rho i≠k+9/\rho i≠k+10)
    (h0:∀i,i<h.size->rho i=0\/rho i=k+6\/rho i=k+7\/rho i=k+9\/rho i=k+10->rho' i=rho i) (j:T'.p=X.T.p) (d:∀s,s∈X.T.kept->s∈T'.kept):∀o,X.now=some o->Uv n h' rho' k T' o:=
  λo g=>(r.nw o g).aP c b h0 j d
end parts
variable{h':aG}{F:Nat->Prop}
theorem cU.zf(r:cU S n h rho k X)(c:aV F h h')(d:∀i,i<h.size->F i->rho i≠k+1):cA n 1 h' ⟨some X.b,10,10⟩ (oX X):=
  c.own r.ob λa ha g=>by cases ha;exact d _ (r.ob.lt rfl).2 g r.rb
theorem cU.marks{ms:fX}{ws:bB}(r:cU S n h rho k X)(c:aV F h h')(d:∀i,i<h.size->F i->rho i=k+2\/rho i=k+3)(hm:sI h' X.m ms)(hw:bV n .i64 h' X.w ws):cU S n h' rho k {X with ms:=ms,ws:=ws} where
  t:=r.tK c λi hi b=>by have:=d i hi b;omega
  rt:=r.rt
  mp:=hm
  rm:=r.rm
  ow:=hw
  EP:=r.EP
  ou:=r.lg c λi hi b=>by have:=d i hi b;omega
  ru:=r.ru
  Ll:=r.tw c λi hi b=>by have:=d i hi b;omega
  rr:=r.rr
  gs:=r.kl c (λi hi b=>by have:=d i hi b;omega) (λ_ _ h=>h) rfl λ_ h=>h
  nw:=r.xj c (λi hi b=>by have:=d i hi b;omega) (λ_ _ _=>rfl) rfl λ_ h=>h
  ob:=r.zf c λi hi b=>by have:=d i hi b;omega
  rb:=r.rb
theorem W8{name at_:Int}(r:cU S n h rho k X)(B:cY .i64 name)(A:cY .i64 at_) :
    wp P (rC S (some X.b) name at_) h λtg vs h'=>tg=0 /\
      ((¬OB name/\vs=[aH 74]/\Ext h h')\/(OB name/\¬(0<=at_/\at_<=(iG X.T.enc X.T.cur.ps).length)/\vs=[aH 2]/\Ext h h') \/
       (OB name/\(0<=at_/\at_<=(iG X.T.enc X.T.cur.ps).length)/\vs=[aH 0]/\aV (λi=>i=X.m) h h'/\∃c,(∀e∈X.ms,e.2.2<c)/\cU S n h' rho k {X with ms:=Jb name at_ X.ms c})):=by
  unfold rC;refine aM (YZ) λ⟨(E:Bool),_⟩ H o hb=>aE (λd=>aC ⟨rfl, .inl ⟨λp=>?_,rfl,o⟩⟩) λd=>?_
  . rw[dF]at d
    have:=hb.2 p;dsimp only at this d;rw[this]at d;cases d
  . rw[eG]at d
    have p:=hb.1 d;have x:=r.ext o;refine aM (Ih x.ob rfl x.t) λ⟨(G:Bool),_⟩ I w u=>aE (λg=>aC ⟨rfl, .inr (.inl ⟨p,λC=>?_,rfl,o.trans w⟩)⟩) λg=>?_
    . rw[dF]at g
      have:=u.2 C;dsimp only at this g;rw[this]at g;cases g
    . rw[eG]at g
      have j:=x.ext w;refine j.rd (b:=.map) (some X.m) rfl (bl j.mp B A λJ c y D z=>aC ⟨rfl, .inr (.inr ⟨p,u.1 g,rfl,aV.pre (o.trans w) y,c,z,?_⟩)⟩);have:=j.marks y (λi hi e=>by subst e;exact .inl j.rm) D (j.lj y λi hi e=>by subst e;rw[j.rm];omega);exact this
def wx(x:List mS)(X:Bk):Bk:={X with ms:=BG x X.ms,ws:=lM x X.ws}
theorem Pq{x:Yp}(r:cU S n h rho k X)(B:(Sh.list Sv).ok h x)(g:∀h',aV (Ay X.m X.w) h h'->(Sh.list Sv).ok h' x)(hb:Ls x.2)(z:∀e∈X.ms,0<=e.2.1/\e.2.1<=2199023255552)(d:∀v∈X.ws,v<=2199023255552) :
    ET (Ay X.m X.w) P (lT S (some X.b) x.1) [] h λ_ h'=>cU S n h' rho k (wx x.2 X):=by
  have c:∀a,X.w.aD=some a->a.block≠X.b.block:=λa ha e=>by have t:=r.EP a ha;have A:=r.rb;rw[e]at t;omega
  refine cN _ (λtg vs h' ⟨a1,a2,y,j,o,p⟩=>⟨a1,a2,y,j,?_⟩) (YX (S:=S) r.ob rfl rfl r.mp r.ow c g hb z d);refine r.marks a2 (λi hi u=>?_) o p;rcases u with rfl|⟨a,ha,rfl⟩
  . exact .inl r.rm
  . exact .inr (r.EP a ha)
end
section
variable{P:Program}{S:cH}{h:aG}{Q:Nat->bH->aG->Prop}{n k:Nat}{rho:Nat->Nat}{X:Bk}
abbrev kv(e:Int×Int×Nat):Int×Int:=(e.1,e.2.1)
abbrev Tg(T:TX):TX:={T with kept:=T.cur::T.kept}
def qT(X:Bk)(at_:Int):Prop:=0<=at_/\at_<=(iG X.T.enc X.T.cur.ps).length
theorem SH{at_:Int}{o:KJ}(r:cU S n h rho k X)(d:X.now=some o):wp P (pG S (some X.b) at_) h λtg vs h'=>tg=0/\vs=[aH 70]/\h'=h:=by
 unfold pG;exact r.rd (b:=.ptr) (some o.o) (by simp[oX,d,B.inj]) (aE (λ_=>aC ⟨rfl,rfl,rfl⟩) λc=>by cases c)
theorem XY{m o:Nat}{l:fX}{a:Addr}{n:Nat}{vs:bH}{K:Nat->bH->aK}(hm:sI h m l)(z:sI h o [])(al:m≠o)(L:cA n 1 h ⟨some a,10,10⟩ vs)(Y:vs[7]?=some (.map (some o)))
  (Z:∀h' d,aV (λi=>i=o) h h'->sI h' o d->(d.map kv).Perm (l.map kv)->wp P (K 2 []) h' Q) :
  wp P (.I8 (some m) λit=>.bind (.loop [] () λ_=>.Ja (some it) (λ_ _=>.DU (some it) λx y=>.load (.one .map) (aB (some a) 7) λ(p:Option Nat)=>.Rh p x y<|.ret 0 []) (.ret 2 [])) K) h Q:=by
 have D:a.block≠o:=by
  intro e;obtain⟨c,C,_⟩:=z;obtain⟨_,_,_,o4⟩:=L;obtain⟨_,_,_,cs,el,U,_⟩:=o4;rw[<-e,U]at C;cases C
 have I:=hm.lt;have ab:=z.lt;have H:=hm;obtain⟨c,E,ok⟩:=hm;refine P6 (m:=m) (l:=l) (t:=2) (body:=λx y=>.load (.one .map) (aB (some a) 7) λ(p:Option Nat)=>.Rh p x y<|.ret 0 []) H (by decide)
  (λtold g=>aV (λi=>i=o) h g/\(∀x∈told,x∈l)/\∃d,sI g o d/\d.map kv=told.map kv)
  (λtold g ⟨u,_,_⟩=>⟨c,l,by rw[u.2.1 m I (by omega)];exact E,E,rfl,λe he _=>he⟩)
  (λtold g V ⟨u,A,d,ml,e⟩ v=>⟨u.trans v λi hi e=>by omega,A,d,ml.oZ v (by omega),e⟩)
  (λg e _=>⟨aV.bD e,by simp,[],z.ext e,rfl⟩) (λtold e g ⟨u,A,d,ml,w⟩ G he J=>?_) λtold g hp ⟨u,A,d,ml,w⟩=>Z g d u ml (by rw[w];exact hp.map kv)
 have og:=u.own L λb hb e=>by cases hb;exact D e
 have B:jN e.1 d=none:=by
  rw[HB];intro j;have W:d.map (·.1)=told.map (·.1):=by
   have:=congrArg (List.map Prod.fst) w;rw[sZ,sZ]at this;exact this
  rw[W]at j;obtain⟨y,M,N⟩:=dB.1 j;have:=Dg (f:=λe:Int×Int×Nat=>e.1) ok.keys _ (A y M) _ he N;subst this;exact J M
 refine bC (b:=.map) (a.add 7) (some o) rfl (aI.1 og.cells 7 _ Y) (bl ml (ok.fk e he).1 (ok.fk e he).2 λV c2 O m2 _=>aC ⟨rfl,rfl,?_,?_,λx j=>?_,_,m2,?_⟩)
 .exact O.2.1 _ G (by omega)
 .exact u.trans O λi _ hi=>hi
 .rcases dH.1 j with j|j
  .exact A x j
  .simp at j;subst j;exact he
 .simp only[Jb,B]
  simp[w]
structure mw(S:cH)(n k:Nat)(X:Bk)(h:aG)(rho:Nat->Nat)(at_:Int)(h':aG)(rho':Nat->Nat)(o:KJ):Prop where
 st:cX k h rho h' rho'
 c:aV (λi=>i=X.b.block) h h'
 r:cU S n h' rho' k {X with now:=some o,T:=Tg X.T}
 bg:o.bg=at_
 sb:o.sb=X.T.cur
 mv:o.mv=(⟨none,0,0⟩,[])
 old:o.old=X.state
 ms:(o.ms.map kv).Perm (X.ms.map kv)
 ws:o.ws=X.ws
 ch:o.ch=false
open Classical in
theorem fz{at_:Int}(r:cU S n h rho k X)(hn:X.now=none)(hl:X.ws.length<=1099511627776) :
  wp P (pG S (some X.b) at_) h λtg vs h'=>tg=0/\((¬qT X at_/\vs=[aH 2]/\Ext h h')\/(qT X at_/\vs=[aH 0]/\∃rho' o,mw S n k X h rho at_ h' rho' o)):=by
 unfold pG;have b3:n<=h.size:=dI (r.ob.lt rfl).1 (rX (r.ob.lt rfl).2);refine r.rd (b:=.ptr) none (by simp[oX,hn,B.inj]) (aE (λA=>by cases A) λ_=>?_);refine aM (Ih (at_:=at_) r.ob rfl r.t) λ⟨(b1:Bool),_⟩ u O hb=>aE (λA=>aC ⟨rfl, .inl ⟨λH=>?_,rfl,O⟩⟩) λA=>?_
 .rw[dF]at A
  have:=hb.2 H;dsimp only at this A;rw[this]at A;cases A
 rw[eG]at A;have a3:qT X at_:=hb.1 A;have r1:=r.ext O;refine WA λW e2 z2 m2=>?_;have r2:=r1.ext e2;refine r2.rd (b:=.sl) X.w rfl (aM (Qk r2.ow.lO hl) λ⟨(z:Sl),_⟩ c e3 Z=>?_);have Z:bV W.size .i64 c z X.ws:=Z;dsimp only;refine λelem=>?_;have J:Ext c (c.push (.cells [.pointer none, .pointer none,aH 0,aH 0, .slice none 0 0,aH 0,aH 0, .map (some u.size),dN z, .bool false].toArray elem)):=Ext.push ..;have o4:cA c.size 1 (c.push (.cells [.pointer none, .pointer none,aH 0,aH 0, .slice none 0 0,aH 0,aH 0, .map (some u.size),dN z, .bool false].toArray elem)) ⟨some ⟨c.size,0,none⟩,10,10⟩ [.pointer none, .pointer none,aH 0,aH 0, .slice none 0 0,aH 0,aH 0, .map (some u.size),dN z, .bool false]:=bR rfl (by decide) (by decide);generalize c.push (.cells [.pointer none, .pointer none,aH 0,aH 0, .slice none 0 0,aH 0,aH 0, .map (some u.size),dN z, .bool false].toArray elem)=L at J o4⊢;have r4:=(r2.ext e3).ext J;refine r4.rd (b:=.ptr) (some X.T.p) rfl (r4.rd (b:=bI) X.state rfl (aM (YQ r4.t) λ⟨(sp:OA),_⟩ h5 K ba=>?_));obtain⟨sn,rfl,Y⟩:=ba;have Y:GP L.size h5 sn X.T.p X.T.cur:=Y;dsimp only;have r5:=r4.ext K;refine sU (aI.1 r5.ob.cells 7 _ rfl) ?_;have o5:=(aV.bD (F:=λ_=>False) K).own o4 λ_ _ x=>x;have bo:∀j,aB (aB (some (Addr.mk c.size 0 none)) 0) j=aB (some ⟨c.size,0,none⟩) j:=λj=>by rw[pO,add_zero']
 simp only[bo];refine aL rfl (fB (.pointer (some sn)) o5 (by simp) rfl λh6 o6 u6=>aL rfl (fB (aH at_) o6 (by simp) rfl λh7 o7 u7=>aL rfl (fB (aH X.state) o7 (by simp) rfl λM o8 u8=>?_)));simp only[wX,List.set_cons_succ]at o8;have b6:W.size<=c.size:=e3.1;have b8:=J.1;have b9:=K.1;have bt:Ext L M\/True:=.inr trivial;have E:aV (λi=>i=c.size) h5 M:=((aV.dK (F:=λi=>i=c.size) u6 λa ha _=>by cases ha;rfl).trans (aV.dK (F:=λi=>i=c.size) u7 λa ha _=>by cases ha;rfl) λ_ _ x=>x).trans (aV.dK (F:=λi=>i=c.size) u8 λa ha _=>by cases ha;rfl) λ_ _ x=>x;have eA:Ext h c:=((O.trans e2).trans e3);have U:Ext h M:=by
  have:=(eA.trans J).trans K;exact⟨dI this.1 E.1,λi hi=>by rw[E.2.1 i (mK hi this.1) (by have:=eA.1;omega)];exact this.2.1 i hi,λx H=>E.2.2 x (this.2.2 x H)⟩
 have r8:=r.ext U;have m8:sI M u.size []:=(((m2.ext e3).ext J).ext K).oZ E (by omega);have s8:=E.own Y λa ha e=>by cases ha;have u:L.size<=sn.block:=(Y.lt rfl).1;have W:c.size<L.size:=(o4.lt rfl).2;have e:sn.block=c.size:=e;omega
 have w8:bV W.size .i64 M z X.ws:=E.qL (((aV.bD (F:=λ_=>False) (J.trans K))).qL Z λ_ _ x=>x) λa ha e=>by have:=(Z.own.lt ha).2;omega
 refine r8.rd (b:=.map) (some X.m) rfl (XY r8.mp m8 (by have:=r.mp.lt;have:=O.1;omega) o8 rfl λh9 l' u9 m9 hp=>bG (bO ?_));have a0:X.b.block<h.size:=(r.ob.lt rfl).2;have b4:=O.1;have cd:=E.1;have b2:c.size<L.size:=(o4.lt rfl).2;have bs:L.size<=sn.block:=(Y.lt rfl).1;have I:∀a,z.aD=some a->W.size<=a.block/\a.block<c.size:=λa ha=>Z.own.lt ha;have G:aV (λi=>i=u.size) M h9:=u9;have bb:=G.own r8.ob λa ha e=>by cases ha;exact absurd (show X.b.block=u.size from e) (by omega)
 refine aL rfl (aL rfl (fB (.pointer (some ⟨c.size,0,none⟩)) bb (by simp[oX]) rfl λV ao bp=>?_));have C:aV (λi=>i=X.b.block) h9 V:=aV.dK bp λa ha _=>by cases ha;rfl
 have aw:Ext h h9:=⟨dI U.1 G.1,λi hi=>by rw[G.2.1 i (mK hi U.1) (by omega)];exact U.2.1 i hi,λx H=>G.2.2 x (U.2.2 x H)⟩;have D:aV (λi=>i=X.b.block) h V:=aV.pre aw C
 let rho':Nat->Nat:=λi=>if i<h.size then rho i else if i=u.size then k+9 else if i=c.size then k+6 else if (∃a,z.aD=some a/\a.block=i) then k+10 else 0
 have hold:∀i,i<h.size->rho' i=rho i:=λi hi=>if_pos hi;have d:∀j i,i<h.size->rho i=j->rho' i=j:=λj i hi e=>by rw[hold i hi];exact e
 have y:∀i,i<h.size->i=X.b.block->rho i=k+1:=λi _ e=>by rw[e];exact r.rb
 have a4:rho' u.size=k+9:=by show(if _ then _ else _)=_;rw[if_neg (by omega),if_pos rfl]
 have a6:rho' c.size=k+6:=by show(if _ then _ else _)=_;rw[if_neg (by omega),if_neg (by omega),if_pos rfl]
 have al:∀a,z.aD=some a->rho' a.block=k+10:=λa ha=>by
  have:=I a ha;show(if _ then _ else _)=_;rw[if_neg (by omega),if_neg (by omega),if_neg (by omega),if_pos ⟨a,ha,rfl⟩]
 have a9:rho' sn.block=0:=by
  show(if _ then _ else _)=_;rw[if_neg (by omega),if_neg (by omega),if_neg (by omega),if_neg];rintro⟨a,ha,e⟩;have:=I a ha;omega
 have mono:∀{m size:Nat} {g:aG} {s:Sl} {vs:bH},n<=m->cA m size g s vs->cA n size g s vs:=λhm ho=>by
  obtain⟨p1,p2,p3,N⟩:=ho;refine⟨p1,p2,p3,?_⟩;split at N
  .exact N
  .exact⟨N.1,N.2.1,dI hm N.2.2.1,N.2.2.2⟩
 let o:KJ:={o:=⟨c.size,0,none⟩,VP:=sn,sb:=X.T.cur,bg:=at_,mv:=(⟨none,0,0⟩,[]),old:=X.state,m:=u.size,ms:=l',w:=z,ws:=X.ws,ch:=false}
 have b0:∀{F:Nat->Prop} {g g':aG},aV F g g'->aV F g g':=λx=>x;have bd:Uv n V rho' k (Tg X.T) o:={
  ob:=mono (by omega) (C.own (G.own o8 λa ha e=>by cases ha;exact absurd (show c.size=u.size from e) (by omega)) λa ha e=>by cases ha;exact absurd (show c.size=X.b.block from e) (by omega))
  ro:=a6
  sn:=mono (by omega) (C.own (G.own s8 λa ha e=>by cases ha;exact absurd (show sn.block=u.size from e) (by omega)) λa ha e=>by cases ha;exact absurd (show sn.block=X.b.block from e) (by omega))
  ks:=eO ..
  rs:=a9
  mv:=⟨cA.nil _ _ _,λa ha=>(by cases ha),λx H=>(by cases H)⟩
  mp:=m9.oZ C (by omega)
  rm:=a4
  ow:=⟨mono (by omega) (C.own (G.own w8.own λa ha e=>by have:=I a ha;omega) λa ha e=>by have:=I a ha;omega),w8.wf⟩
  EP:=al}
 refine aC ⟨rfl, .inr ⟨a3,rfl,rho',o,⟨⟨D.mono λi hi e=>by rw[y i hi e];omega,λi hi _=>hold i hi,λi hi hj=>?_⟩,D,?_,rfl,rfl,rfl,rfl,hp,rfl,rfl⟩⟩⟩
 .by_cases ab:i<h.size
  .rw[hold i ab];rcases hj with hj|hj
   .omega
   .exact .inr hj
  .show(if _ then _ else _)=0\/_<(if _ then _ else _)/\(if _ then _ else _)<=_
   rw[if_neg ab];split
   .exact .inr (by omega)
   .split
    .exact .inr (by omega)
    .split
     .exact .inr (by omega)
     .exact .inl rfl
 .exact{
   t:=(r.tK D λi hi e=>by rw[y i hi e];omega).aP
   rt:=r.vd (d _)
   mp:=r.kx D λi hi e=>by rw[y i hi e];omega
   rm:=r.ua (d _)
   ow:=r.lj D λi hi e=>by rw[y i hi e];omega
   EP:=r.ve (d _)
   ou:=r.lg D λi hi e=>by rw[y i hi e];omega
   ru:=r.xr (d _)
   Ll:=r.tw D λi hi e=>by rw[y i hi e];omega
   rr:=r.xq (d _)
   gs:=r.kl D (λi hi e=>by rw[y i hi e];omega) (d _) rfl λs hs=>eK _ hs
   nw:=λo' a5=>by cases a5;exact bd
   ob:=ao
   rb:=by rw[hold _ a0];exact r.rb}
end
section
variable{P:Program}{S:cH}{h:aG}{Q:Nat->bH->aG->Prop}{n k:Nat}{rho:Nat->Nat}{X:Bk}
structure Yo(P:Program)(S:cH):Prop where
 shut:∀(b:OA) (h:aG) (R:aG->Prop),wp P (ER S b) h (λtag _ h'=>tag=0/\R h')->yL P S.zN [.pointer b] h R
theorem T5{i:FuncId}{args:bH}{K:aK}(c:wp P K h λt vs h'=>yL P i args h' λb=>Q t vs b):wp P (.J3 i args K) h Q:=c
theorem Vp(C:Yo P S){b:Addr}{vs:bH}{R:aG->Prop}(ob:cA n 1 h ⟨some b,10,10⟩ vs)(c:∀h',cA n 1 h' ⟨some b,10,10⟩ (vs.set 6 (.pointer none))->aV (λi=>i=b.block) h h'->R h'):yL P S.zN [.pointer (some b)] h R:=by
 refine C.shut (some b) h R ?_;unfold ER;have d:vs.length=10:=by have:=ob.1;simpa using this.symm
 exact aL rfl (aL rfl (fB (.pointer none) ob (by omega) rfl λh' o u=>aC ⟨rfl,c h' o (aV.dK u λa ha _=>by cases ha;rfl)⟩))
theorem UE(r:cU S n h rho k X)(d:X.now=none):wp P (rB S (some X.b)) h λtg vs h'=>tg=0/\vs=[aH 0,aH 71]/\h'=h:=by
 unfold rB;exact r.rd (b:=.ptr) none (by simp[oX,d,B.inj]) (aE (λ_=>aC ⟨rfl,rfl,rfl⟩) λc=>by cases c)
abbrev Ze(X:Bk)(o:KJ)(T':TX):Bk:={X with T:=T',m:=o.m,ms:=o.ms,w:=o.w,ws:=o.ws,now:=none}
open Classical in
theorem oi(C:Yo P S){o:KJ}(r:cU S n h rho k X)(hn:X.now=some o) :
  wp P (rB S (some X.b)) h λtg vs h'=>tg=0/\vs=[aH o.bg,aH 0]/\∃rho' T',cX k h rho h' rho'/\cU S n h' rho' k (Ze X o T')/\MD X.T T' h.size/\T'.cur=o.sb/\T'.A=X.T.A:=by
 unfold rB;have ro:=r.nw o hn;have M:X.b.block<h.size:=(r.ob.lt rfl).2;have ao:n<=h.size:=dI (r.ob.lt rfl).1 (rX M);have L:(oX X)[6]?=some (.pointer (some o.o)):=by simp[oX,hn]
 have V:∀j,aB (aB (some o.o) 0) j=aB (some o.o) j:=λj=>by rw[pO,add_zero']
 refine r.rd (b:=.ptr) (some o.o) L (aE (λhc=>by cases hc) λ_=>T5 ?_);refine r.rd (b:=.ptr) (some X.T.p) rfl (r.rd (b:=.ptr) (some o.o) L (aL rfl (aL rfl (aL rfl ?_))));rw[V];refine bC (b:=.ptr) (o.o.add 0) (some o.VP) rfl (aI.1 ro.ob.cells 0 _ rfl) ?_;refine dW (UD r.t ao ro.ks ro.sn) λtg vs g hx=>?_;obtain⟨rfl,rfl,c1,T',t1,nx,ab,hA⟩:=hx;refine⟨rfl,(0,()),rfl,?_⟩;have I:∀i,i<h.size->rU X.T i->rho i=k+8:=λi _ hi=>r.rt i (Jz r.t hi);have N:=r.zf c1 λi hi c=>by rw[I i hi c];omega
 have J:cA n 1 g ⟨some o.o,10,10⟩ (BK o):=c1.own ro.ob λa ha c=>by cases ha;have G:=I _ (ro.ob.lt rfl).2 c;have z:=ro.ro;rw[z]at G;omega
 have U:∀{b:B} {i:Nat} (x:b.den) {K:b.den->aK} {Q:Nat->bH->aG->Prop},(oX X)[i]?=some (b.inj x)->wp P (K x) g Q->wp P (bF (aJ (some X.b))<|bF (aJ (some X.b))<|.load (.one b) (aB (some X.b) i) K) g Q:=
  @λb i x K Q hv hk=>aL rfl (aL rfl (bC (b:=b) (X.b.add i) x rfl (aI.1 N.cells _ _ hv) hk))
 refine U (b:=.ptr) (some o.o) L (aL rfl (aL rfl (bC (b:=.map) (o.o.add 7) (some o.m) rfl (aI.1 J.cells 7 _ rfl) ?_)));refine U (b:=.ptr) (some o.o) L (aL rfl (aL rfl (bC (b:=.sl) (o.o.add 8) o.w rfl (aI.1 J.cells 8 _ rfl) ?_)));refine aL rfl (aL rfl (fB (.map (some o.m)) N (by simp[oX]) rfl λG a3 u2=>?_));refine aL rfl (aL rfl (fB (dN o.w) a3 (by simp[oX]) rfl λz O u3=>?_));have c3:aV (λi=>i=X.b.block) g z:=(aV.dK (F:=λi=>i=X.b.block) u2 λa ha _=>by cases ha;rfl).trans (aV.dK (F:=λi=>i=X.b.block) u3 λa ha _=>by cases ha;rfl) λ_ _ x=>x;have a5:cA n 1 z ⟨some o.o,10,10⟩ (BK o):=c3.own J λa ha e=>by cases ha;have G:=ro.ro;have z:=r.rb;have e:o.o.block=X.b.block:=e;rw[e]at G;omega
 refine aL rfl (aL rfl (bC (b:=.ptr) (X.b.add 6) (some o.o) rfl (aI.1 O.cells 6 _ (by simp[oX,hn,B.inj])) (aL rfl (aL rfl (aL rfl ?_)))));rw[V];refine bC (b:=bI) (o.o.add 2) o.bg rfl (aI.1 a5.cells 2 _ rfl) (aC (Vp C O λY a4 W=>⟨rfl,rfl,?_⟩));have y:aV (λi=>rU X.T i\/i=X.b.block) h Y:=(c1.mono λi _ hi=>.inl hi).trans (c3.trans W λ_ _ x=>x) λi _ hi=>.inr hi;have D:∀i,i<h.size->(rU X.T i\/i=X.b.block)->rho i=k+8\/rho i=k+1:=λi hi c=>c.elim (λh=>.inl (I i hi h)) λe=>.inr (by rw[e];exact r.rb)
 let rho':Nat->Nat:=λi=>if i<h.size then (if rho i=k+9 then k+2 else if rho i=k+10 then k+3 else if rho i=k+2\/rho i=k+3\/rho i=k+6\/rho i=k+7 then 0 else rho i) else if T'.Z i then k+8 else 0
 have hold:∀i,i<h.size->rho' i=(if rho i=k+9 then k+2 else if rho i=k+10 then k+3 else if rho i=k+2\/rho i=k+3\/rho i=k+6\/rho i=k+7 then 0 else rho i):=λi hi=>if_pos hi;have d:∀j,(j<=k+1\/j=k+4\/j=k+5\/j=k+8\/k+10<j)->∀i,i<h.size->rho i=j->rho' i=j:=λj H i hi e=>by rw[hold i hi,e,if_neg (by omega),if_neg (by omega),if_neg (by omega)]
 have a6:=c3.1;have a9:=W.1;refine⟨rho',T',⟨y.mono λi hi c=>by have:=D i hi c;omega,λi hi ho=>d _ (by omega) i hi rfl,λi hi H=>?_⟩,?_,nx,ab,hA⟩
 .by_cases u:i<h.size
  .rw[hold i u]
   split
   .exact .inr (by omega)
   .split
    .exact .inr (by omega)
    .split
     .exact .inl rfl
     .rcases H with H|H
      .omega
      .exact .inr H
  .show(if _ then _ else _)=0\/_<(if _ then _ else _)/\(if _ then _ else _)<=_
   rw[if_neg u];split
   .exact .inr (by omega)
   .exact .inl rfl
 .have al:aV (λi=>i=X.b.block) g Y:=c3.trans W λ_ _ x=>x
  have a0:¬T'.Z X.b.block:=λE=>by
   rcases nx.zn _ E with g|g
   .have G:=r.rt _ g;have z:=r.rb;omega
   .omega
  exact{
   t:=t1.oZ al λi E e=>a0 (by rw[<-e];exact E)
   rt:=λi E=>by
    by_cases u:i<h.size
    .rcases nx.zn i E with g|g
     .exact d _ (by omega) i u (r.rt i g)
     .omega
    .show(if _ then _ else _)=_
     rw[if_neg u,if_pos E]
   mp:=ro.mp.oZ y λc=>by have:=D _ ro.mp.lt c;have:=ro.rm;omega
   rm:=by show rho' o.m=_;rw[hold _ ro.mp.lt,if_pos ro.rm]
   ow:=y.qL ro.ow λa ha c=>by have:=D _ (ro.ow.own.lt ha).2 c;have:=ro.EP a ha;omega
   EP:=λa ha=>by show rho' a.block=_;rw[hold _ (ro.ow.own.lt ha).2,if_neg (by have:=ro.EP a ha;omega),if_pos (ro.EP a ha)]
   ou:=r.lg y λi hi c=>by have:=D i hi c;omega
   ru:=r.xr (d _ (by omega))
   Ll:=r.tw y λi hi c=>by have:=D i hi c;omega
   rr:=r.xq (d _ (by omega))
   gs:=r.kl y (λi hi c=>by have:=D i hi c;omega) (d _ (by omega)) nx.p λs hs=>by rw[nx.kept];exact hs
   nw:=λo' aw=>by cases aw
   ob:=by
    have:oX (Ze X o T')=(((oX X).set 4 (.map (some o.m))).set 5 (dN o.w)).set 6 (.pointer none):=by simp[oX,nx.p]
    show cA n 1 Y ⟨some X.b,10,10⟩ (oX (Ze X o T'));rw[this];exact a4
   rb:=d _ (by omega) _ M r.rb}
end
section
variable{P:Program}{S:cH}{h:aG}{Q:Nat->bH->aG->Prop}{n k:Nat}{rho:Nat->Nat}{X:Bk}
structure ng(depth:Int)(T:TX)(X:Bk):Prop where
 T:X.T=T
 depth:X.depth=depth
 U:X.U.2=[]
 R:X.R.2=[]
 ms:X.ms=[]
 ws:X.ws=[]
 now:X.now=none
 BI:X.state=0/\X.saved=0/\X.last=0
inductive Dw(S:cH)(h0 h:aG)(enc limit depth:Int)(l:bB):OA->Int->Prop where
 |deep:¬(1<=depth/\depth<=200)->Dw S h0 h enc limit depth l none 1
 |text {g g':aG} {e:Int}:1<=depth/\depth<=200->e≠0->H6 S g g' enc limit l none e->Dw S h0 h enc limit depth l none e
 | ok (T:TX) (X:Bk):1<=depth/\depth<=200->eM enc->0<=limit/\limit<=65536->l.length<=limit->T.enc=enc->T.limit=limit->T.kept=[]->T.A=[]->iG enc T.cur.ps=iH 0 0 (bJ enc l)->dR T.cur.ps=l ->
   ng depth T X->(∀(k:Nat) (rho:Nat->Nat),∃rho',cX k h0 rho h rho'/\(∀i,i<h0.size->rho' i=rho i)/\cU S h0.size h rho' k X)->Dw S h0 h enc limit depth l (some X.b) 0
theorem eQ.mono{m:Nat}{T:TX}(t:eQ S n h T)(hm:m<=n):eQ S m h T:=
 ⟨t.enc,t.A4,t.ob.mono hm,t.ad.mono hm,t.ed,t.vb,t.cur,t.kept,t.zp,t.za,λi hi=>⟨dI hm (t.lo i hi).1,(t.lo i hi).2⟩⟩
open Classical in
theorem fx(M:kJ P S){enc limit depth:Int}{b:Sl}{l:bB}(hb:kW .u8 h b l) :
  aS P (vK S enc b limit depth) [tP, tI] h λ(y:OA×Int×Unit) h'=>Dw S h h' enc limit depth l y.1 y.2.1:=by
 unfold vK aS;refine bZ (¬(1<=depth/\depth<=200)) (aE (λd=>aC ⟨rfl,Ext.refl _,true,rfl,?_⟩) λd=>aC ⟨rfl,Ext.refl _,_,rfl,?_⟩) λbb H B L=>aE (λd=>aC ⟨rfl,B,(none,1,()),rfl, .deep (L.1 d)⟩) λd=>?_
 .rw[aU]at d;exact⟨λ_=>by omega,λ_=>rfl⟩
 .rw[aY]at d;rw[dL];exact⟨λ_=>by omega,λ_=>by omega⟩
 have V:1<=depth/\depth<=200:=by
  by_cases C:1<=depth/\depth<=200
  .exact C
  .have:=L.2 C
   dsimp only at d;rw[this]at d;cases d
 refine aM (p_ M (enc:=enc) (limit:=limit) (hb.ext B)) λ⟨(p:OA),(er:Int),_⟩ j E C=>?_;have C:H6 S H j enc limit l p er:=C;dsimp only;have bad:∀e:Int,e≠0->H6 S H j enc limit l none e->wp P (aR (G8 e 0) (.ret 0 [.pointer none,aH e]) .fail) j (λt vs h'=>t=0/\Ext h h'/\∃x:OA×Int×Unit,vs=Ts.inj [tP, tI] x/\Dw S h h' enc limit depth l x.1 x.2.1):=λe he D=>
  aE (λ_=>aC ⟨rfl,B.trans E,(none,e,()),rfl, .text V he D⟩) λd=>by rw[lQ]at d;exact absurd d he
 have z:∀(e:Int) (K:aK),e≠0->H6 S H j enc limit l none e->wp P (aR (G8 e 0) (.ret 0 [.pointer none,aH e]) K) j (λt vs h'=>t=0/\Ext h h'/\∃x:OA×Int×Unit,vs=Ts.inj [tP, tI] x/\Dw S h h' enc limit depth l x.1 x.2.1):=λe K he D=>
  aE (λ_=>aC ⟨rfl,B.trans E,(none,e,()),rfl, .text V he D⟩) λd=>by rw[lQ]at d;exact absurd d he
 cases C with
 |enc a=>exact z _ _ (by decide) (.enc a)
 |arg a b=>exact z _ _ (by decide) (.arg a b)
 |full a b c=>exact z _ _ (by decide) (.full a b c)
 |ok T a b c t en li ke A el HX zn=>
  refine aE (λd=>by cases d) λ_=>WA λu Y z3 m3=>?_;refine λelem=>?_;have G:Ext u (u.push (.cells [.pointer (some T.p),aH depth, .slice none 0 0, .slice none 0 0, .map (some j.size), .slice none 0 0, .pointer none,aH 0,aH 0,aH 0].toArray elem)):=Ext.push ..;have o4:cA u.size 1 (u.push (.cells [.pointer (some T.p),aH depth, .slice none 0 0, .slice none 0 0, .map (some j.size), .slice none 0 0, .pointer none,aH 0,aH 0,aH 0].toArray elem)) ⟨some ⟨u.size,0,none⟩,10,10⟩ [.pointer (some T.p),aH depth, .slice none 0 0, .slice none 0 0, .map (some j.size), .slice none 0 0, .pointer none,aH 0,aH 0,aH 0]:=bR rfl (by decide) (by decide);generalize u.push (.cells [.pointer (some T.p),aH depth, .slice none 0 0, .slice none 0 0, .map (some j.size), .slice none 0 0, .pointer none,aH 0,aH 0,aH 0].toArray elem)=h4 at G o4⊢;have ao:=B.1;have aw:=E.1;have eF:Ext h h4:=((B.trans E).trans Y).trans G
  let X:Bk:={b:=⟨u.size,0,none⟩,T:=T,depth:=depth,U:=(⟨none,0,0⟩,[]),R:=(⟨none,0,0⟩,[]),m:=j.size,ms:=[],w:=⟨none,0,0⟩,ws:=[],now:=none,state:=0,saved:=0,last:=0}
  refine aC ⟨rfl,eF,(some X.b,0,()),rfl, .ok T X V a b c en li ke A el HX ⟨rfl,rfl,rfl,rfl,rfl,rfl,rfl,rfl,rfl,rfl⟩ λk rho=>?_⟩
  let rho':Nat->Nat:=λi=>if i<h.size then rho i else if T.Z i then k+8 else if i=j.size then k+2 else if i=u.size then k+1 else 0
  have O:∀i,T.Z i->H.size<=i/\i<j.size:=λi hi=>t.lo i hi;have ab:¬T.Z j.size:=λW=>by have:=O _ W;omega
  have al:¬T.Z u.size:=λW=>by have:=O _ W;omega
  have r2:rho' j.size=k+2:=by show(if _ then _ else _)=_;rw[if_neg (by omega),if_neg ab,if_pos rfl]
  have r3:rho' u.size=k+1:=by show(if _ then _ else _)=_;rw[if_neg (by omega),if_neg al,if_neg (by omega),if_pos rfl]
  refine⟨rho',⟨aV.bD eF,λi hi _=>if_pos hi,λi hi J=>?_⟩,λi hi=>if_pos hi,?_⟩
  .by_cases N:i<h.size
   .have:rho' i=rho i:=if_pos N
    rw[this];rcases J with J|J
    .omega
    .exact .inr J
   .show(if _ then _ else _)=0\/_<(if _ then _ else _)/\(if _ then _ else _)<=_
    rw[if_neg N];split
    .exact .inr (by omega)
    .split
     .exact .inr (by omega)
     .split
      .exact .inr (by omega)
      .exact .inl rfl
  .exact{
    t:=eQ.mono ((t.ext Y).ext G) (by omega)
    rt:=λi hi=>by have:=O i hi;show(if _ then _ else _)=_;rw[if_neg (by omega),if_pos hi]
    mp:=m3.ext G
    rm:=r2
    ow:=bV.nil _ _ _
    EP:=λa ha=>by cases ha
    ou:=cA.nil _ _ _
    ru:=λa ha=>by cases ha
    Ll:=cA.nil _ _ _
    rr:=λa ha=>by cases ha
    gs:=λg I=>by rcases I with I|I<;>cases I
    nw:=λo D=>by cases D
    ob:=cA.mono o4 (by omega)
    rb:=r3}
end
section
variable{P:Program}{S:cH}{h:aG}{Q:Nat->bH->aG->Prop}{n k:Nat}{rho:Nat->Nat}{X:Bk}
open Classical in
theorem gh{s:Sl}{l:bB}(r:cU S n h rho k X)(z:kW .i64 h s l)(V:l.length<=1099511627776) :
  wp P (vE S (some X.b) s) h λtg vs h'=>tg=0/\((¬(∀v∈l,qT X v)/\vs=[aH 2]/\Ext h h')\/((∀v∈l,qT X v)/\vs=[aH 0]/\aV (λi=>i=X.b.block) h h'/\∃rho' C,cX k h rho h' rho'/\cU S n h' rho' k {X with w:=C,ws:=l})):=by
 unfold vE;have hlen:=z.len;have I:X.b.block<h.size:=(r.ob.lt rfl).2;have al:n<=h.size:=dI (r.ob.lt rfl).1 (rX I);have W:aQ s.len=(l.length:Int):=by rw[aN,hlen]
 rw[W];refine bL (λ(q:Int×Unit) h'=>Ext h h'/\∃i:Nat,q.1=i/\i<=l.length/\∀v∈l.take i,qT X v) (λq _=>((l.length:Int)-q.1).toNat)
  (λt vs h'=>Ext h h'/\((t=2/\vs=[]/\∀v∈l,qT X v)\/(t=1/\vs=[aH 2]/\¬∀v∈l,qT X v))) ⟨Ext.refl _,0,rfl,cO _,by simp⟩ ?_ ?_
 .rintro⟨(i':Int),u⟩ L ⟨o,i,hi,ab,g⟩
  dsimp only at hi⊢;subst hi;refine aE (λK=>?_) λK=>?_
  .rw[aU]at K
   have p:i<l.length:=by omega
   refine qZ (z.ext o) (by omega) (by omega) λ_=>?_;have U:l.getD ((i:Int).toNat) 0=l[i]:=by rw[cR];simp[List.getD,cK p]
   rw[U];have O:=r.ext o;refine aM (Ih (at_:=l[i]) O.ob rfl O.t) λ⟨(b1:Bool),_⟩ J E hb=>aE (λy=>aC ⟨λB=>absurd B (by decide),λ_=>⟨o.trans E, .inr ⟨rfl,rfl,λB=>?_⟩⟩⟩) λy=>?_
   .rw[dF]at y
    have:=hb.2 (B _ (CK p));dsimp only at this y;rw[this]at y;cases y
   .rw[eG]at y
    rw[aW (by omega) (by omega)];refine aC ⟨λ_=>⟨((i:Int)+1,()),rfl,⟨o.trans E,i+1,by simp,by omega,λv A=>?_⟩,by dsimp only;omega⟩,λB=>absurd rfl B⟩;rw[eN,cK p]at A;rcases dH.1 A with A|A
    .exact g v A
    .simp at A;subst A;exact hb.1 y
  .rw[aY]at K
   have:i=l.length:=by omega
   subst this;rw[fH]at g;exact aC ⟨λB=>absurd B (by decide),λ_=>⟨o, .inl ⟨rfl,rfl,g⟩⟩⟩
 .rintro t vs L ⟨o,⟨rfl,rfl,g⟩|⟨rfl,rfl,N⟩⟩
  .refine bG (bO (aM (Qk (z.ext o) V) λ⟨(C:Sl),_⟩ J E D=>?_))
   have D:bV L.size .i64 J C l:=D;dsimp only;have H:=o.trans E;have Z:=r.ext H;refine aL rfl (aL rfl (fB (dN C) Z.ob (by simp[oX]) rfl λM Y u3=>?_));have c3:aV (λi=>i=X.b.block) J M:=aV.dK u3 λa ha _=>by cases ha;rfl
   have x:aV (λi=>i=X.b.block) h M:=aV.pre H c3;have ao:=o.1
   let rho':Nat->Nat:=λi=>if i<h.size then rho i else if (∃a,C.aD=some a/\a.block=i) then k+3 else 0
   have c:∀j i,i<h.size->rho i=j->rho' i=j:=λj i hi e=>by show(if _ then _ else _)=_;rw[if_pos hi];exact e
   have d:∀i,i<h.size->i=X.b.block->rho i=k+1:=λi _ e=>by rw[e];exact r.rb
   refine aC ⟨rfl, .inr ⟨g,rfl,x,rho',C,⟨x.mono λi hi e=>by rw[d i hi e];omega,λi hi _=>c _ i hi rfl,λi hi G=>?_⟩,?_⟩⟩
   .by_cases p:i<h.size
    .rw[c _ i p rfl];rcases G with G|G
     .omega
     .exact .inr G
    .show(if _ then _ else _)=0\/_<(if _ then _ else _)/\(if _ then _ else _)<=_
     rw[if_neg p];split
     .exact .inr (by omega)
     .exact .inl rfl
   .exact{
     t:=r.tK x λi hi e=>by rw[d i hi e];omega
     rt:=r.vd (c _)
     mp:=r.kx x λi hi e=>by rw[d i hi e];omega
     rm:=r.ua (c _)
     ow:=(c3.qL D λa ha e=>by have:=(D.own.lt ha).1;omega).mono (by omega)
     EP:=λa ha=>by have:=(D.own.lt ha).1;show(if _ then _ else _)=_;rw[if_neg (by omega),if_pos ⟨a,ha,rfl⟩]
     ou:=r.lg x λi hi e=>by rw[d i hi e];omega
     ru:=r.xr (c _)
     Ll:=r.tw x λi hi e=>by rw[d i hi e];omega
     rr:=r.xq (c _)
     gs:=r.kl x (λi hi e=>by rw[d i hi e];omega) (c _) rfl λs z=>z
     nw:=r.xj x (λi hi e=>by rw[d i hi e];omega) (λi hi _=>c _ i hi rfl) rfl λs z=>z
     ob:=Y
     rb:=c _ _ I r.rb}
  .exact oF (by decide) (bG (fJ (aC ⟨rfl, .inl ⟨N,rfl,o⟩⟩)))
end
section
def dO(e:iM):mS:=(e.1,e.2.1,(e.2.2.1.2.length:Int),())
def Sk(len:Int):Int->List mS->Prop
 |_,[]=>True
 |at_,e::es=>at_<=e.1/\e.1<=e.2.1/\e.2.1<=len/\0<=e.2.2.1/\Sk len e.2.1 es
theorem N3{len:Int}:∀{es:List iM} {at_:Int},uQ len at_ es->Sk len at_ (es.map dO)
 |[],_,_=>trivial
 |e::es,at_,⟨a,b,c,d⟩=>⟨a,b,c,by show(0:Int)<=(e.2.2.1.2.length:Int);omega,N3 d⟩
def AW(l:List mS):Int:=(l.map λe=>e.2.2.1-(e.2.1-e.1)).sum
theorem A9(e:mS)(l:List mS):AW (e::l)=(e.2.2.1-(e.2.1-e.1))+AW l:=by simp[AW]
theorem Gs{len:Int}:∀{l:List mS} {at_:Int},Sk len at_ l->at_<=len->at_<=len+AW l
 |[],at_,_,h=>by simp[AW];exact h
 |e::l,at_,⟨a,b,c,d,f⟩,h=>by
  have:=Gs f c;rw[A9];omega
theorem Sk.mb{len:Int}(j:len<=2199023255552):∀{l:List mS} {at_:Int},Sk len at_ l->0<=at_->(∀e∈l,e.2.2.1<=2199023255552)->∀e∈l,0<=e.1/\e.1<=e.2.1/\e.2.1<=2199023255552/\0<=e.2.2.1/\e.2.2.1<=2199023255552
 |[],_,_,_,_=>λe he=>by cases he
 |x::l,at_,⟨a,b,c,d,f⟩,h0,g=>λe he=>by
  rcases eH.1 he with rfl|he
  .exact⟨by omega,b,by omega,d,g _ (eO ..)⟩
  .exact Sk.mb j f (by omega) (λy o=>g y (eK _ o)) e he
theorem Pz{len:Int}:∀{l:List mS} {at_ m:Int},Sk len at_ l->m<at_->qX m l=(m,true)
 |[],_,_,_,_=>rfl
 |e::l,at_,m,⟨a,b,c,d,f⟩,h=>by
  have g:=Pz (m:=m) f (by omega);show LZ e (qX m l)=_;rw[g];unfold LZ;rw[if_pos (show m<e.1 by omega)]
theorem Nn{len:Int}:∀{l:List mS} {at_ m:Int},Sk len at_ l->at_<=m->m<=len->at_<=(qX m l).1/\(qX m l).1<=len+AW l
 |[],at_,m,_,h0,g=>by simp[qX,AW];omega
 |e::l,at_,m,⟨a,b,c,d,f⟩,h0,g=>by
  have p:=Gs f c;rw[A9];have j:qX m (e::l)=LZ e (qX m l):=rfl;rw[j];by_cases hm:m<e.2.1
  .rw[Pz f hm]
   unfold LZ;dsimp only;split
   .dsimp only;omega
   .rw[if_neg (by omega)]
    dsimp only;omega
  .have o:=Nn (m:=m) f (by omega) g
   unfold LZ;rw[if_neg (by omega),if_pos o.1];dsimp only;omega
theorem Wg{len:Int}:∀{l:List mS} {at_ sh:Int},Sk len at_ l->Sk (len+sh+AW l) (at_+sh) (qD sh l)
 |[],_,_,_=>trivial
 |e::l,at_,sh,⟨a,b,c,d,f⟩=>by
  have g:=Wg (sh:=sh+(e.2.2.1-(e.2.1-e.1))) f;have p:=Gs f c;rw[A9];have j:len+sh+(e.2.2.1-(e.2.1-e.1)+AW l)=len+(sh+(e.2.2.1-(e.2.1-e.1)))+AW l:=by omega
  have o:e.2.1+(sh+(e.2.2.1-(e.2.1-e.1)))=e.1+sh+e.2.2.1:=by omega
  rw[j];rw[o]at g;refine⟨?_,?_,?_,?_,g⟩
  .show at_+sh<=e.1+sh;omega
  .show e.1+sh<=e.1+sh+e.2.2.1;omega
  .show e.1+sh+e.2.2.1<=_;omega
  .show 0<=e.2.1-e.1;omega
theorem Oi:∀{l:List mS} {sh:Int},AW (qD sh l) = - AW l
 |[],_=>rfl
 |e::l,sh=>by
  have b:=Oi (l:=l) (sh:=sh+(e.2.2.1-(e.2.1-e.1)));show AW ((e.1+sh,e.1+sh+e.2.2.1,e.2.1-e.1,())::qD _ l)=_;rw[A9,A9,b];dsimp only;omega
end
section
theorem ML{E:List El}:∀{es:List iM} {at_:Int},uQ E.length at_ es->0<=at_->((jA E es).length:Int)=E.length+AW (es.map dO)
 |[],_,_,_=>by simp[jA,AW]
 |e::es,at_,⟨a,b,c,d⟩,h0=>by
  have j:=ML (E:=E) d (by omega);have lo:=Gs (N3 d) c;rw[qI,fT,A9];have g:(DX (jA E es) e).length=min e.1.toNat (jA E es).length+e.2.2.1.2.length+((jA E es).length-e.2.1.toNat):=by simp[DX];omega
  rw[g];simp only[dO];omega
end
section
end
section
variable{P:Program}{S:cH}{h:aG}{Q:Nat->bH->aG->Prop}{n k:Nat}{rho:Nat->Nat}{X:Bk}
def pA(e:iM):Bool:=decide (e.1<e.2.1) || decide (0<e.2.2.1.2.length)
theorem jj{b:Addr}{vs:bH}{o:KJ}{x:GO}{K:Sl->aK}(ob:cA n 1 h ⟨some b,10,10⟩ vs)(c:vs[6]?=some (.pointer (some o.o)))(oo:cA n 1 h ⟨some o.o,10,10⟩ (BK o))(al:o.o.block≠b.block)
  (w:∀h',aV (λi=>i=o.o.block) h h'->(Sh.list jT).ok h' x) (hlen:x.2.length<=131072)
  (z:∀h' r,aV (λi=>i=o.o.block) h h'->JX h.size h' r (x.2.map dO)->cA n 1 h' ⟨some o.o,10,10⟩ (BK {o with ch:=o.ch || x.2.any pA})->(∀a,r.aD=some a->a.block=h.size)->wp P (K r) h' Q) :
  wp P (.mk 24 [aH 0,aH 0,aH 0] (aQ x.1.len) (aQ x.1.len) λ(J:Sl)=>.bind (.loop [tI] ((0:Int),()) λ(r:Int×Unit)=>aR (fG r.1 (aQ x.1.len))
   (.bind (bF (bN (aJ x.1.aD) (eU r.1 x.1.len))<|.load (.agg [.int .i64, .int .i64, .sl]) (aB x.1.aD (aZ (bP r.1) 3)) λ(q:Int×Int×Sl×Unit)=>
    .alloc [aH 0,aH 0, .slice none 0 0] λa=>.store (some a) [aH q.1,aH q.2.1,dN q.2.2.1]<|
    .load (tI) (aB (some a) 0) λ(n1:Int)=>.load (tI) (aB (some a) 1) λ(n2:Int)=>.load (tS) (aB (some a) 2) λ(I:Sl)=>
    bF (bN (aJ J.aD) (eU r.1 J.len))<|.store (aB J.aD (aZ (bP r.1) 3)) [aH n1,aH n2,aH (aQ I.len)]<|
    .bind (.load (tI) (aB (some a) 0) λ(n3:Int)=>.load (tI) (aB (some a) 1) λ(n4:Int)=>aR (fG n3 n4) (.ret 0 [.bool true])<|
     .load (tS) (aB (some a) 2) λ(l3:Sl)=>.ret 0 [.bool (sN (aQ l3.len) 0)]) λk1 a3=>aR (jI k1 0) (.cast [tB] a3 λ(r2:Bool×Unit)=>aR r2.1
      (bF (aJ (some b))<|bF (aJ (some b))<|.load (tP) (aB (some b) 6) λ(p:OA)=>bF (aJ p)<|bF (aJ p)<|.store (aB p 9) [.bool true]<|.ret 0 [])<|.ret 0 []) .fail)
    λk2 a4=>aR (jI k2 0) (.cast [] a4 λ_=>.ret 0 [aH (aT .i64 r.1 1)]) .fail)<|.ret 2 []) λk3 a5=>aR (jI k3 2) (.cast [] a5 λ_=>K J) .fail) h Q:=by
 have aw:=(w h (aV.refl _ _)).len;have hn:aQ x.1.len=(x.2.length:Int):=by rw[aN,aw]
 rw[hn];refine lu hlen λh1 r e1 z1 rb o1=>?_;have ao:o.o.block<h.size:=(oo.lt rfl).2;refine bL (λ(s:Int×Unit) h'=>aV (λi=>i=o.o.block) h h'/\h.size<h'.size/\∃i:Nat,s.1=i/\i<=x.2.length/\JX h.size h' r ((x.2.take i).map dO++List.replicate (x.2.length-i) (0,0,0,()))/\cA n 1 h' ⟨some o.o,10,10⟩ (BK {o with ch:=o.ch || (x.2.take i).any pA}))
  (λs _=>((x.2.length:Int)-s.1).toNat)
  (λt vs h'=>t=2/\vs=[]/\aV (λi=>i=o.o.block) h h'/\JX h.size h' r (x.2.map dO)/\cA n 1 h' ⟨some o.o,10,10⟩ (BK {o with ch:=o.ch || x.2.any pA}))
  ⟨aV.bD e1,by omega,0,rfl,cO _,by simpa using o1,by simpa using (aV.bD (F:=λ_=>False) e1).own oo λ_ _ x=>x⟩ ?_ ?_
 .rintro⟨(i':Int),u⟩ A ⟨c2,z2,i,hi,a6,o2,D⟩
  dsimp only at hi⊢;subst hi;refine aE (λY=>?_) λY=>?_
  .rw[aU]at Y
   have O:i<x.2.length:=by omega
   obtain⟨e,he⟩:∃e,x.2[i]?=some e:=⟨x.2[i]'O,cK O⟩;have g:=w A c2;have hle:=(g.el he).2.2.1.len;have M:cY .i64 e.1/\cY .i64 e.2.1:=⟨(g.el he).1,(g.el he).2.1⟩;have C:x.2.take (i+1)=x.2.take i++[e]:=by rw[eN,he];rfl
   have fin:∀c,aV (λi=>i=o.o.block) h c->h.size<c.size->JX h.size c r ((x.2.take (i+1)).map dO++List.replicate (x.2.length-(i+1)) (0,0,0,()))->cA n 1 c ⟨some o.o,10,10⟩ (BK {o with ch:=o.ch || (x.2.take (i+1)).any pA}) ->
     wp P (aR (jI 0 0) (.cast [] [] λ_=>.ret 0 [aH (aT .i64 (i:Int) 1)]) .fail) c (λtag vs h'=>
      (tag=0->∃s':Int×Unit,vs=Ts.inj [tI] s'/\(aV (λi=>i=o.o.block) h h'/\h.size<h'.size/\∃i:Nat,s'.1=i/\i<=x.2.length/\JX h.size h' r ((x.2.take i).map dO++List.replicate (x.2.length-i) (0,0,0,()))/\cA n 1 h' ⟨some o.o,10,10⟩ (BK {o with ch:=o.ch || (x.2.take i).any pA}))/\((x.2.length:Int)-s'.1).toNat<((x.2.length:Int)-(i:Int)).toNat) /\
      (tag≠0->tag=2/\vs=[]/\aV (λi=>i=o.o.block) h h'/\JX h.size h' r (x.2.map dO)/\cA n 1 h' ⟨some o.o,10,10⟩ (BK {o with ch:=o.ch || x.2.any pA}))):=by
    intro c c6 z6 m6 w6;refine bG (bO ?_);rw[aW (by omega) (by omega)];exact aC ⟨λ_=>⟨((i:Int)+1,()),rfl,⟨c6,z6,i+1,by simp,by omega,m6,w6⟩,by dsimp only;omega⟩,λw=>absurd rfl w⟩
   refine yE (D4 g he λa h3 E ha L=>?_);have l0:∀{K:Int->aK} {Q:Nat->bH->aG->Prop} {h'},cA A.size 1 h' ⟨some a,3,3⟩ [aH e.1,aH e.2.1,dN e.2.2.1.1]->wp P (K e.1) h' Q->wp P (.load (tI) (aB (some a) 0) K) h' Q:=λq z=>bC (b:=bI) _ e.1 rfl (aI.1 q.cells 0 _ rfl) z;have l1:∀{K:Int->aK} {Q:Nat->bH->aG->Prop} {h'},cA A.size 1 h' ⟨some a,3,3⟩ [aH e.1,aH e.2.1,dN e.2.2.1.1]->wp P (K e.2.1) h' Q->wp P (.load (tI) (aB (some a) 1) K) h' Q:=λq z=>bC (b:=bI) _ e.2.1 rfl (aI.1 q.cells 1 _ rfl) z;have I:∀{K:Sl->aK} {Q:Nat->bH->aG->Prop} {h'},cA A.size 1 h' ⟨some a,3,3⟩ [aH e.1,aH e.2.1,dN e.2.2.1.1]->wp P (K e.2.2.1.1) h' Q->wp P (.load (tS) (aB (some a) 2) K) h' Q:=λq z=>bC (b:=.sl) _ e.2.2.1.1 rfl (aI.1 q.cells 2 _ rfl) z;have hq:aQ e.2.2.1.1.len=(e.2.2.1.2.length:Int):=by rw[aN,hle]
   have a9:e.2.2.1.2.length<2^63:=by have h1:=(g.el he).2.2.1.2.1;have A:=(g.el he).2.2.1.2.2.1;omega
   refine l0 L (l1 L (I L ?_));rw[hq];have N:((x.2.take i).map dO).length=i:=by rw[cE,dJ];omega
   have Z:((x.2.take i).map dO++List.replicate (x.2.length-i) ((0,0,0,()):mS)).set i (dO e)=(x.2.take (i+1)).map dO++List.replicate (x.2.length-(i+1)) (0,0,0,()):=by
    rw[Au (h:=by omega),N,tC,show x.2.length-i=(x.2.length-(i+1))+1 by omega,JL,wX,C,dP,dX];rfl
   have c3:aV (λi=>i=o.o.block) h h3:=c2.ext E;have w3:=(aV.bD (F:=λ_=>False) E).own D λ_ _ x=>x;refine bn (dO e) (o2.ext E) (by rw[bQ,N,JR];omega) ⟨M.1,M.2,by show cY .i64 (e.2.2.1.2.length:Int);rw[eV];omega⟩ λW m4 u4 z4=>?_;rw[Z]at m4;have V:aV (λi=>i=h.size) h3 W:=aV.dK u4 λy d _=>rb y d;have ba:=E.1;have o4:cA A.size 1 W ⟨some a,3,3⟩ [aH e.1,aH e.2.1,dN e.2.2.1.1]:=V.own L λy d=>by cases d;exact Nat.ne_of_gt (mK z2 ha)
   have w4:=V.own w3 λy d=>by cases d;exact Nat.ne_of_lt ao
   have c4:aV (λi=>i=o.o.block) h W:=c3.trans V λj hj e=>by omega
   refine bZ (pA e=true) (l0 o4 (l1 o4 (aE (λH=>aC ⟨rfl,Ext.refl _,true,rfl,?_⟩) λH=>I o4 (aC ⟨rfl,Ext.refl _,_,rfl,?_⟩)))) λbb h5 G hb=>?_
   .rw[aU]at H;simp[pA,H]
   .rw[aY]at H
    rw[hq,dL];simp[pA];omega
   have m5:=m4.ext G;have w5:=(aV.bD (F:=λ_=>False) G).own w4 λ_ _ x=>x;have U:=c4.ext G;have bd:=G.1;dsimp only;refine aE (λht=>?_) λhf=>aC (fin h5 U (by omega) m5 ?_)
   .have a0:=U.own ob λy d e=>by cases d;exact al e.symm
    refine aL rfl (aL rfl (bC (b:=.ptr) (b.add 6) (some o.o) rfl (aI.1 a0.cells 6 _ c) (aL rfl (aL rfl (fB (.bool true) w5 (by simp[BK]) rfl λc w6 u6=>?_)))));have B:aV (λi=>i=o.o.block) h5 c:=aV.dK u6 λy d _=>by cases d;rfl
    have bo:=B.1;refine aC (fin c (U.trans B λ_ _ x=>x) (by omega) (m5.oZ B λy d e=>by have:=rb y d;omega) ?_);have:BK {o with ch:=o.ch || (x.2.take (i+1)).any pA}=(BK {o with ch:=o.ch || (x.2.take i).any pA}).set 9 (.bool true):=by
     rw[C,Mt];simp[BK,hb.1 ht]
    rw[this];exact w6
   .have ab:pA e=false:=by
     cases w:pA e with
     |false=>rfl
     |true=>rw[hb.2 w]at hf;cases hf
    have:BK {o with ch:=o.ch || (x.2.take (i+1)).any pA}=BK {o with ch:=o.ch || (x.2.take i).any pA}:=by
     rw[C,Mt];simp[ab]
    rw[this];exact w5
  .rw[aY]at Y
   have:i=x.2.length:=by omega
   subst this;rw[fH,tC,List.replicate_zero,kQ]at o2;rw[fH]at D;exact aC ⟨λw=>absurd w (by decide),λ_=>⟨rfl,rfl,c2,o2,D⟩⟩
 .rintro t vs h' ⟨rfl,rfl,c2,o2,D⟩
  exact bG (bO (z h' r c2 o2 D rb))
end
section
variable{P:Program}{S:cH}{h:aG}{Q:Nat->bH->aG->Prop}
end
section
variable{P:Program}{S:cH}{h:aG}{Q:Nat->bH->aG->Prop}
end
section
variable{P:Program}{S:cH}{h:aG}{Q:Nat->bH->aG->Prop}
structure zz(S:cH)(h h':aG)(enc depth:Int)(l:bB)(X:Bk):Prop where
 new:ng depth X.T X
 en:X.T.enc=enc
 li:X.T.limit=60000
 kept:X.T.kept=[]
 A:X.T.A=[]
 el:iG enc X.T.cur.ps=iH 0 0 (bJ enc l)
 bytes:dR X.T.cur.ps=l
 r:∃n,h.size<=n/\∀(k:Nat) (rho:Nat->Nat),∃rho',cX k h rho h' rho'/\(∀i,i<h.size->rho' i=rho i)/\cU S n h' rho' k X
end
section
variable{P:Program}{S:cH}{h:aG}{Q:Nat->bH->aG->Prop}{n k:Nat}{rho:Nat->Nat}{X:Bk}
open Classical in
theorem cU.text{h1:aG}{T':TX}(r:cU S n h rho k X)(c:aV (rU X.T) h h1)(t:eQ S n h1 T')(nx:MD X.T T' h.size) :
  ∃rho',cX k h rho h1 rho'/\(∀i,i<h.size->rho' i=rho i)/\cU S n h1 rho' k {X with T:=T'}:=by
 have o:∀i,i<h.size->rU X.T i->rho i=k+8:=λi _ hi=>r.rt i (Jz r.t hi)
 let rho':Nat->Nat:=λi=>if i<h.size then rho i else if T'.Z i then k+8 else 0
 have hold:∀i,i<h.size->rho' i=rho i:=λi hi=>if_pos hi;have d:∀j i,i<h.size->rho i=j->rho' i=j:=λj i hi e=>by rw[hold i hi];exact e
 refine⟨rho',⟨c.mono λi hi g=>by rw[o i hi g];omega,λi hi _=>hold i hi,λi hi w=>?_⟩,hold,?_⟩
 .by_cases u:i<h.size
  .rw[hold i u];rcases w with w|w
   .omega
   .exact .inr w
  .show(if _ then _ else _)=0\/_<(if _ then _ else _)/\(if _ then _ else _)<=_
   rw[if_neg u];split
   .exact .inr (by omega)
   .exact .inl rfl
 .exact{
   t:=t
   rt:=λi y=>by
    by_cases u:i<h.size
    .rcases nx.zn i y with h1|h1
     .exact d _ i u (r.rt i h1)
     .omega
    .show(if _ then _ else _)=_
     rw[if_neg u,if_pos y]
   mp:=r.kx c λi hi g=>by rw[o i hi g];omega
   rm:=r.ua (d _)
   ow:=r.lj c λi hi g=>by rw[o i hi g];omega
   EP:=r.ve (d _)
   ou:=r.lg c λi hi g=>by rw[o i hi g];omega
   ru:=r.xr (d _)
   Ll:=r.tw c λi hi g=>by rw[o i hi g];omega
   rr:=r.xq (d _)
   gs:=r.kl c (λi hi g=>by rw[o i hi g];omega) (d _) nx.p λs x=>by rw[nx.kept];exact x
   nw:=r.xj c (λi hi g=>by rw[o i hi g];omega) (λi hi _=>hold i hi) nx.p λs x=>by rw[nx.kept];exact x
   ob:=by
    have:=r.zf c λi hi g=>by rw[o i hi g];omega
    have e:oX {X with T:=T'}=oX X:=by simp[oX,nx.p]
    show cA n 1 h1 ⟨some X.b,10,10⟩ (oX {X with T:=T'});rw[e];exact this
   rb:=d _ _ (r.ob.lt rfl).2 r.rb}
abbrev yf(o:KJ)(q:Sl)(m:Yp)(ch:Bool):KJ:={o with mv:=(q,o.mv.2++[m]),ch:=ch}
abbrev chB(X:Bk)(o:KJ)(T':TX)(q:Sl)(m:Yp)(ch:Bool):Bk:={X with T:=T',ms:=BG m.2 X.ms,ws:=lM m.2 X.ws,now:=some (yf o q m ch)}
structure yk(S:cH)(n k:Nat)(X:Bk)(o:KJ)(es:List iM)(h:aG)(rho:Nat->Nat)(h':aG)(rho':Nat->Nat)(e:Int)(X':Bk):Prop where
 st:cX k h rho h' rho'
 r:cU S n h' rho' k X'
 ref:Lu X.T.enc X.T.limit (cV X.T.enc X.T.cur.ps) es e
 nx:MD X.T X'.T h.size
 iG:iG X.T.enc X'.T.cur.ps=if e=0 then jA (iG X.T.enc X.T.cur.ps) es else iG X.T.enc X.T.cur.ps
 len:X'.T.A.length<=X.T.A.length+4*(aX es).length
 no:e≠0->X'={X with T:=X'.T}
 yes:e=0->∃q l,X'=chB X o X'.T q (l,es.map dO) (o.ch || es.any pA)
theorem sy{len:Int}{es:List iM}(b:len<=2199023255552)(c:uQ len 0 es)(hm:es.length<=70000)(o:(aX es).length<=200000000000):Ls (es.map dO):=by
 refine⟨by rw[cE];omega,Sk.mb b (N3 c) (kR _) λe he=>?_⟩;obtain⟨x,d,rfl⟩:=dB.1 he;have:x.2.2.1.2.length<=(aX es).length:=by
  obtain⟨i,hi⟩:=List.mem_iff_getElem?.1 d;have g:=N6 hi;have j:=Jk es i;omega
 show(x.2.2.1.2.length:Int)<=_;omega
theorem Jh{n m size:Nat}{h:aG}{s:Sl}{vs:bH}(hm:n<=m)(b:cA m size h s vs):cA n size h s vs:=cA.mono b hm
theorem OJ{x:Sl}(r:cU S n h rho k X)(d:X.now=none):wp P (kC S (some X.b) x) h λtg vs h'=>tg=0/\vs=[aH 71]/\h'=h:=by
 unfold kC;exact r.rd (b:=.ptr) none (by simp[oX,d,B.inj]) (aE (λ_=>aC ⟨rfl,rfl,rfl⟩) λc=>by cases c)
open Classical in
theorem W2(M:kJ P S){o:KJ}{x:GO}(r:cU S n h rho k X)(hn:X.now=some o)(ba:∀h',aV (λi=>k<rho i/\rho i<=k+10) h h'->(Sh.list jT).ok h' x)
  (hz:∀e,e∈x.2->e.2.2.1.2≠[]->∀a,e.2.2.1.1.aD=some a->rho a.block<=k\/k+10<rho a.block)
  (hA:X.T.A.length+4*(aX x.2).length<=400000000000) (b9:(dR X.T.cur.ps).length<=X.T.limit) (hlen:(iG X.T.enc X.T.cur.ps).length<=65536)
  (b2:∀e∈X.ms,0<=e.2.1/\e.2.1<=2199023255552) (cf:∀v∈X.ws,v<=2199023255552) (dr:o.mv.2.length<=1099511627776) :
  wp P (kC S (some X.b) x.1) h λtg vs h'=>tg=0/\∃e rho' X',vs=[aH e]/\yk S n k X o x.2 h rho h' rho' e X':=by
 unfold kC;have b3:n<=h.size:=dI (r.ob.lt rfl).1 (rX (r.ob.lt rfl).2);have Z:(oX X)[6]?=some (.pointer (some o.o)):=by simp[oX,hn]
 have cd:∀i,i<h.size->rU X.T i->rho i=k+8:=λi _ hi=>r.rt i (Jz r.t hi);refine r.rd (b:=.ptr) (some o.o) Z (aE (λV=>by cases V) λ_=>r.rd (b:=.ptr) (some X.T.p) rfl ?_);refine dW (YL M r.t b3 (λh' c=>ba h' (c.mono λi hi C=>by rw[cd i hi C];omega)) (λe he W a ha cg=>by have w:=hz e he W a ha;have z:=r.rt _ cg;omega) hA b9) λtg vs w hx=>?_;obtain⟨rfl,c1,e,T',rfl,R⟩:=hx;refine⟨rfl,(e,()),rfl,?_⟩;obtain⟨D,a4,b0,E⟩:=r.text c1 R.t R.nx;refine aE (λV=>?_) λV=>?_
 .rw[kG]at V
  exact aC ⟨rfl,e,D,{X with T:=T'},rfl,a4,E,R.ref,R.nx,R.iG,R.len,λ_=>rfl,λh0=>absurd h0 V⟩
 rw[lQ]at V;dsimp only at V;subst V;have g:=E.nw o hn;have al:uQ (iG X.T.enc X.T.cur.ps).length 0 x.2/\x.2.length<=70000:=by
  have hl:(cV X.T.enc X.T.cur.ps).length=(iG X.T.enc X.T.cur.ps).length:=(yW ..).symm;cases R.ref with
  |ok a b c d=>rw[hl]at b;exact⟨b,a⟩
 have a9:Ls (x.2.map dO):=sy (by omega) al.1 al.2 (by omega);have a5:∀i,i<h.size->(k<D i/\D i<=k+10)->k<rho i/\rho i<=k+10:=λi hi hr=>by rw[b0 i hi]at hr;exact hr
 have bt:∀h',aV (λi=>k<D i/\D i<=k+10) w h'->(Sh.list jT).ok h' x:=λh' c=>ba h' (a4.c.trans c a5);have b6:o.o.block<w.size:=(g.ob.lt rfl).2;have W:o.o.block≠X.b.block:=λe=>by have w:=g.ro;have z:=E.rb;rw[e]at w;have z:D X.b.block=k+1:=z;omega
 refine jj E.ob (by simp[oX,hn]) g.ob W (λh' c=>bt h' (c.mono λi hi e=>by subst e;rw[g.ro];omega)) (by omega) λz l c2 m2 bd ao=>?_;have aw:cA n 1 z ⟨some X.b,10,10⟩ (oX X):=by
  have e:oX {X with T:=T'}=oX X:=by simp[oX,R.nx.p]
  have:=c2.own E.ob λa ha e=>by cases ha;exact W e.symm
  rw[e]at this;exact this
 have bs:∀{h':aG} {b:B} {i:Nat} (y:b.den) {K:b.den->aK} {Q:Nat->bH->aG->Prop},cA n 1 h' ⟨some X.b,10,10⟩ (oX X)->(oX X)[i]?=some (b.inj y)->wp P (K y) h' Q->wp P (bF (aJ (some X.b))<|bF (aJ (some X.b))<|.load (.one b) (aB (some X.b) i) K) h' Q:=
  @λh' b i y K Q ob hv hk=>aL rfl (aL rfl (bC (b:=b) (X.b.add i) y rfl (aI.1 ob.cells _ _ hv) hk))
 have c8:∀j,aB (aB (some o.o) 0) j=aB (some o.o) j:=λj=>by rw[pO,add_zero']
 refine bs (b:=.ptr) (some o.o) aw Z (bs (b:=.ptr) (some o.o) aw Z (aL rfl (aL rfl (aL rfl ?_))));simp only[c8];refine bC (b:=.sl) (o.o.add 4) o.mv.1 rfl (aI.1 bd.cells 4 _ rfl) ?_;refine λelem=>?_;have e3:Ext z (z.push (.cells [dN l].toArray elem)):=Ext.push ..;have bp:Rd 1 (z.push (.cells [dN l].toArray elem)) ⟨some ⟨z.size,0,none⟩,1,1⟩ [dN l]:=mI rfl;generalize z.push (.cells [dN l].toArray elem)=h3 at e3 bp⊢;have X3:∀{n size:Nat} {s:Sl} {vs:bH},cA n size z s vs->cA n size h3 s vs:=λho=>(aV.bD (F:=λ_=>False) e3).own ho λ_ _ x=>x;have a0:=X3 aw;have bo:=X3 bd;refine sU (aI.1 bo.cells 4 _ rfl) (sU (aI.1 a0.cells 6 _ Z) (sU (aI.1 a0.cells 6 _ Z) ?_));have a3:cA n 1 z o.mv.1 (o.mv.2.map λx=>dN x.1):=c2.own g.mv.own λa ha e=>by have w:=g.mv.role a ha;have z:=g.ro;rw[e,z]at w;omega
 have de:o.mv.1.len=o.mv.2.length:=by have:=a3.1;simpa using this
 have ds:=c1.1;have dx:=c2.1;have ec:=e3.1;refine iR (X3 a3) (by omega) bp (by intro v hv;rw[dE.1 hv];rfl) rfl (by dsimp only;omega) (by dsimp only;omega) λq h4 o4 l4 u4 b4 _=>?_;have c4:aV (λi=>∃a,o.mv.1.aD=some a/\a.block=i) h3 h4:=aV.dK u4 λa ha _=>⟨a,ha,rfl⟩;have L:∀a,o.mv.1.aD=some a->a.block<w.size/\D a.block=k+7:=λa ha=>⟨(g.mv.own.lt ha).2,g.mv.role a ha⟩;have bb:=c4.own a0 λa ha ⟨y,J,e⟩=>by cases ha;have w:=(L y J).2;have z:=E.rb;rw[e]at w;have z:D X.b.block=k+1:=z;omega
 have ct:=c4.own bo λa ha ⟨y,J,e⟩=>by cases ha;have w:=(L y J).2;have z:=g.ro;rw[e]at w;omega
 refine sU (aI.1 bb.cells 6 _ Z) (aL rfl (aL rfl (aL rfl ?_)));refine fB (dN q) ct (by simp[BK]) rfl λO cx u5=>?_;have c5:aV (λi=>i=o.o.block) h4 O:=aV.dK u5 λa ha _=>by cases ha;rfl
 have eg:=c4.1;have eh:=c5.1
 let F:Nat->Prop:=λi=>i=o.o.block\/∃a,o.mv.1.aD=some a/\a.block=i
 have H:aV F w O:=(((c2.mono (G:=F) λi _ x=>.inl x).ext e3).trans (c4.mono (G:=F) λi _ x=>.inr x) λ_ _ x=>x).trans (c5.mono (G:=F) λi _ x=>.inl x) λ_ _ x=>x;have N:∀i,i<w.size->F i->D i=k+6\/D i=k+7:=λi hi C=>by
  rcases C with rfl|⟨a,ha,rfl⟩
  .exact .inl g.ro
  .exact .inr (L a ha).2
 let I:Nat->Nat:=λi=>if i<w.size then D i else if (∃a,q.aD=some a/\a.block=i) then k+7 else 0
 have hold:∀i,i<w.size->I i=D i:=λi hi=>if_pos hi;have u:∀j i,i<w.size->D i=j->I i=j:=λj i hi e=>by rw[hold i hi];exact e
 have b8:∀a,q.aD=some a->I a.block=k+7:=λa ha=>by
  rcases b4 a ha with hb|hb
  .exact u _ _ (L a hb).1 (L a hb).2
  .show(if _ then _ else _)=_
   rw[if_neg (by omega),if_pos ⟨a,ha,rfl⟩]
 have a6:∀a,l.aD=some a->I a.block=0:=λa ha=>by
  have hb:=ao a ha;have df:w.size<z.size:=by rw[<-hb];exact(m2.own.lt ha).2
  show(if _ then _ else _)=0;rw[if_neg (by omega),if_neg];rintro⟨y,J,e⟩;rcases b4 y J with h|h
  .have:=(L y h).1;omega
  .omega
 have c9:cX k w D O I:=⟨H.mono λi hi C=>by have:=N i hi C;omega,λi hi _=>hold i hi,λi hi U=>by
  by_cases ab:i<w.size
  .rw[hold i ab];rcases U with U|U
   .omega
   .exact .inr U
  .show(if _ then _ else _)=0\/_<(if _ then _ else _)/\(if _ then _ else _)<=_
   rw[if_neg ab];split
   .exact .inr (by omega)
   .exact .inl rfl⟩
 have m5:JX w.size O l (x.2.map dO):=by
  refine((m2.ext e3).oZ c4 λa ha ⟨y,J,e⟩=>?_).oZ c5 λa ha e=>?_
  .have:=ao a ha;have:=(L y J).1;omega
  .have:=ao a ha;omega
 have cr:JX n O l (x.2.map dO):=⟨Jh (by omega) m5.own,m5.fit⟩
 let Y:KJ:=yf o q (l,x.2.map dO) (o.ch || x.2.any pA)
 have c7:Uv n O I k T' Y:={
  ob:=by
   have e:BK Y=(BK {o with ch:=o.ch || x.2.any pA}).set 4 (dN q):=by simp[BK,Y,yf]
   rw[e];exact cx
  ro:=u _ _ b6 g.ro
  sn:=H.own g.sn λa ha C=>by cases ha;have w:=N _ (g.sn.lt rfl).2 C;have z:=g.rs;omega
  ks:=g.ks
  rs:=u _ _ (g.sn.lt rfl).2 g.rs
  mv:={
   own:=by
    have:=c5.own o4 λa ha e=>by
     rcases b4 a ha with hb|hb
     .have w:=(L a hb).2;have z:=g.ro;rw[e,z]at w;omega
     .omega
    show cA n 1 O q ((o.mv.2++[(l,x.2.map dO)]).map λx=>dN x.1);rw[dP];exact this
   role:=b8
   each:=λy J=>by
    rcases dH.1 J with J|J
    .obtain⟨y1,y2,y3⟩:=g.mv.each y J
     exact⟨y1.oZ H λa ha C=>by have w:=N _ (y1.own.lt ha).2 C;have z:=y2 a ha;omega,λa ha=>u _ _ (y1.own.lt ha).2 (y2 a ha),y3⟩
    .rw[dE.1 J]
     exact⟨cr,a6,a9⟩}
  mp:=g.mp.oZ H λC=>by have w:=N _ g.mp.lt C;have z:=g.rm;omega
  rm:=u _ _ g.mp.lt g.rm
  ow:=H.qL g.ow λa ha C=>by have w:=N _ (g.ow.own.lt ha).2 C;have z:=g.EP a ha;omega
  EP:=λa ha=>u _ _ (g.ow.own.lt ha).2 (g.EP a ha)}
 have r5:cU S n O I k {X with T:=T',now:=some Y}:={
  t:=E.tK H λi hi C=>by have:=N i hi C;omega
  rt:=E.vd (u _)
  mp:=E.kx H λi hi C=>by have:=N i hi C;omega
  rm:=E.ua (u _)
  ow:=E.lj H λi hi C=>by have:=N i hi C;omega
  EP:=E.ve (u _)
  ou:=E.lg H λi hi C=>by have:=N i hi C;omega
  ru:=E.xr (u _)
  Ll:=E.tw H λi hi C=>by have:=N i hi C;omega
  rr:=E.xq (u _)
  gs:=E.kl H (λi hi C=>by have:=N i hi C;omega) (u _) rfl λs hs=>hs
  nw:=λo1 ho=>by cases ho;exact c7
  ob:=by
   have e:oX {X with T:=T',now:=some Y}=oX X:=by simp[oX,hn,R.nx.p,Y,yf]
   show cA n 1 O ⟨some X.b,10,10⟩ (oX {X with T:=T',now:=some Y});rw[e];exact c5.own bb λa ha e=>by cases ha;exact W e.symm
  rb:=u _ _ (E.ob.lt rfl).2 E.rb}
 refine dW (Pq (X:={X with T:=T',now:=some Y}) (x:=(l,x.2.map dO)) r5 m5.ok (λh' c=>(m5.oZ c λa ha C=>?_).ok) a9 b2 cf) λtg vs h6 hx=>?_
 .have w:=a6 a ha
  rcases C with e|⟨y,J,e⟩
  .have z:=r5.rm;rw[e]at w;rw[w]at z;omega
  .have z:=r5.EP y J;rw[e,w]at z;omega
 obtain⟨rfl,b1,y,rfl,r6⟩:=hx;refine⟨rfl,(),rfl,aC ⟨rfl,0,I,_,rfl,?_,r6,R.ref,R.nx,R.iG,R.len,λh0=>absurd rfl h0,λ_=>⟨q,l,rfl⟩⟩⟩;refine(a4.trans c9).trans ⟨b1.mono λi hi C=>?_,λ_ _ _=>rfl,λi hi U=>?_⟩
 .rcases C with rfl|⟨a,ha,rfl⟩
  .have:=r5.rm;rw[this];omega
  .have:=r5.EP a ha;rw[this];omega
 .by_cases ab:i<O.size
  .rcases U with U|U
   .omega
   .exact .inr U
  .left
   show(if _ then _ else _)=0;rw[if_neg (by omega),if_neg];rintro⟨a,ha,e⟩;have:=(o4.lt ha).2;omega
end
section
variable{P:Program}{S:cH}{h:aG}{Q:Nat->bH->aG->Prop}{n k:Nat}{rho:Nat->Nat}{X:Bk}
variable{i:Nat}
def zr(h:aG)(rho:Nat->Nat):Nat->Nat:=λi=>if i<h.size then rho i else 0
theorem tD(hi:i<h.size):zr h rho i=rho i:=if_pos hi
theorem qN(hi:h.size<=i):zr h rho i=0:=if_neg (by omega)
theorem cX.mV{h':aG}(e:Ext h h'):cX k h rho h' (zr h rho):=⟨aV.bD e,λi hi _=>tD hi,λi hi b=>by
 by_cases c:i<h.size
 .rw[tD c];rcases b with b|b
  .omega
  .exact .inr b
 .exact .inl (qN (by omega))⟩
theorem cU.zr{h':aG}(r:cU S n h rho k X)(e:Ext h h'):cU S n h' (zr h rho) k X:=
 r.other (aV.bD (F:=λ_=>False) e) (λ_ _ x=>x.elim) λi hi _=>tD hi
theorem W3{at_:Int}(r:cU S n h rho k X)(d:X.now=none):wp P (uH S (some X.b) at_) h λtg vs h'=>tg=0/\vs=[aH 71]/\h'=h:=by
 unfold uH;exact r.rd (b:=.ptr) none (by simp[oX,d,B.inj]) (aE (λ_=>aC ⟨rfl,rfl,rfl⟩) λc=>by cases c)
def TN(X:Bk)(g:HW):List HW:=if X.depth<(X.U.2.length:Int)+1 then (X.U.2++[g]).drop 1 else X.U.2++[g]
abbrev h_(X:Bk)(g:HW)(q:Sl):Bk:={X with T:=Tg X.T,U:=(q,TN X g),R:=(⟨none,0,0⟩,[]),now:=none,state:=X.last+1,last:=X.last+1}
structure vh(X:Bk)(o:KJ)(at_:Int)(g:HW):Prop where
 sb:g.sb=o.sb
 sh:g.sh=X.T.cur
 bg:g.bg=o.bg
 en:g.en=at_
 mv:g.mv=o.mv
 old:g.old=o.old
 fresh:g.fresh=X.last+1
structure ym(X:Bk)(o:KJ)(at_:Int)(X':Bk):Prop where
 no:o.ch=false->X'={X with now:=none}
 yes:o.ch=true->∃g q,vh X o at_ g/\X'=h_ X g q
theorem ji{o:KJ}{bs:List B}(x:Bs.den bs){K:Bs.den bs->aK}(g:cA n 1 h ⟨some o.o,10,10⟩ (BK o))(d:Bs.inj bs x=(BK o).take 7)(c:wp P (K x) h Q):wp P (.load (.agg bs) (aB (some o.o) 0) K) h Q:=by
 refine⟨o.o.add 0,rfl,x,aI.2 λj v b=>?_,c⟩;rw[add_zero'];have b:(Bs.inj bs x)[j]?=some v:=b;rw[d,F4]at b;split at b
 .exact aI.1 g.cells j v b
 .cases b
open Classical in
theorem vt(C:Yo P S){o:KJ}{at_:Int}(r:cU S n h rho k X)(hn:X.now=some o)(kz:0<=X.last)(k0:X.last<=4611686018427387904)(hU:X.U.2.length<=1099511627776) :
  wp P (uH S (some X.b) at_) h λtg vs h'=>tg=0/\((¬qT X at_/\vs=[aH 2]/\Ext h h')\/(qT X at_/\vs=[aH 0]/\∃rho' X',cX k h rho h' rho'/\cU S n h' rho' k X'/\ym X o at_ X')):=by
 unfold uH;have ro:=r.nw o hn;have g4:X.b.block<h.size:=(r.ob.lt rfl).2;have k3:n<=h.size:=dI (r.ob.lt rfl).1 (rX g4);have c6:(oX X)[6]?=some (.pointer (some o.o)):=by simp[oX,hn]
 have g6:o.o.block≠X.b.block:=λe=>by have w:=ro.ro;have d:=r.rb;rw[e]at w;omega
 refine r.rd (b:=.ptr) (some o.o) c6 (aE (λM=>by cases M) λ_=>?_);refine aM (Ih (at_:=at_) r.ob rfl r.t) λ⟨(b1:Bool),_⟩ w e1 hb=>aE (λM=>aC ⟨rfl, .inl ⟨λY=>?_,rfl,e1⟩⟩) λM=>?_
 .rw[dF]at M
  have:=hb.2 Y;dsimp only at this M;rw[this]at M;cases M
 rw[eG]at M;have df:qT X at_:=hb.1 M;have k4:=e1.1;have c5:=cX.mV (k:=k) (rho:=rho) e1;have dx:∀i,w.size<=i->Hist.zr h rho i=0:=λi hi=>qN (by omega);have z:=r.zr e1;generalize Hist.zr h rho=D at c5 dx z;clear r ro;have ro:=z.nw o hn;have b3:=z.rb;have ey:X.b.block<w.size:=(z.ob.lt rfl).2;refine T5 (z.rd (b:=.ptr) (some o.o) c6 (aL rfl (aL rfl (bC (b:=.bool) (o.o.add 9) o.ch rfl (aI.1 ro.ob.cells 9 _ rfl) ?_))));refine aE (λM=>?_) λM=>?_
 .rw[dF]at M
  refine aC (Vp C z.ob λd b2 c2=>⟨rfl, .inr ⟨df,rfl,D,{X with now:=none},?_,?_,⟨λ_=>rfl,λY=>by rw[M]at Y;cases Y⟩⟩⟩)
  .exact c5.trans (cX.of c2 (λi hi e=>by rw[e,b3];omega) λi g5 ku=>dx i g5)
  .exact{
    t:=z.tK c2 λi hi e=>by rw[e];omega
    rt:=z.rt
    mp:=z.kx c2 λi hi e=>by rw[e];omega
    rm:=z.rm
    ow:=z.lj c2 λi hi e=>by rw[e];omega
    EP:=z.EP
    ou:=z.lg c2 λi hi e=>by rw[e];omega
    ru:=z.ru
    Ll:=z.tw c2 λi hi e=>by rw[e];omega
    rr:=z.rr
    gs:=z.kl c2 (λi hi e=>by rw[e];omega) (λ_ _ h=>h) rfl λs hs=>hs
    nw:=λo' cf=>by cases cf
    ob:=by
     have e:oX {X with now:=none}=(oX X).set 6 (.pointer none):=by simp[oX]
     show cA n 1 d ⟨some X.b,10,10⟩ (oX {X with now:=none});rw[e];exact b2
    rb:=b3}
 rw[eG]at M;refine z.rd (b:=bI) X.last rfl (aL rfl (aL rfl ?_));rw[aW (by omega) (by omega)];refine fB (aH (X.last+1)) z.ob (by simp[oX]) rfl λd b2 u2=>?_;have c2:aV (λi=>i=X.b.block) w d:=aV.dK u2 λa ha _=>by cases ha;rfl
 have js:=c2.own ro.ob λa ha e=>by cases ha;exact g6 e
 have W:∀{h':aG} {vs:bH} {b:B} {i:Nat} (y:b.den) {K:b.den->aK} {Q:Nat->bH->aG->Prop},cA n 1 h' ⟨some X.b,10,10⟩ vs->vs[i]?=some (b.inj y)->wp P (K y) h' Q->wp P (bF (aJ (some X.b))<|bF (aJ (some X.b))<|.load (.one b) (aB (some X.b) i) K) h' Q:=
  @λh' vs b i y K Q ob hv hk=>aL rfl (aL rfl (bC (b:=b) (X.b.add i) y rfl (aI.1 ob.cells _ _ hv) hk))
 have g8:=c2.1;refine W (b:=.ptr) (some o.o) b2 (by simp[oX,hn,B.inj]) (aL rfl (aL rfl (ji (some o.VP,none,o.bg,0,o.mv.1,o.old,0,()) js rfl ?_)));dsimp only;refine λelem=>?_;have e3:Ext d (d.push (.cells [.pointer none, .pointer none,aH 0,aH 0, .slice none 0 0,aH 0,aH 0].toArray elem)):=Ext.push ..;have ct:cA d.size 1 (d.push (.cells [.pointer none, .pointer none,aH 0,aH 0, .slice none 0 0,aH 0,aH 0].toArray elem)) ⟨some ⟨d.size,0,none⟩,7,7⟩ [.pointer none, .pointer none,aH 0,aH 0, .slice none 0 0,aH 0,aH 0]:=bR rfl (by decide) (by decide);generalize d.push (.cells [.pointer none, .pointer none,aH 0,aH 0, .slice none 0 0,aH 0,aH 0].toArray elem)=h3 at e3 ct⊢;have k5:d.size<h3.size:=(ct.lt rfl).2;refine Am [.pointer (some o.VP), .pointer none,aH o.bg,aH 0,dN o.mv.1,aH o.old,aH 0] ct rfl (by intro v hv;simp only[eH,lG,or_false]at hv;rcases hv with rfl|rfl|rfl|rfl|rfl|rfl|rfl<;>rfl) λh4 ih u4 z4=>?_
 let F:Nat->Prop:=λi=>i=X.b.block\/∃a,X.U.1.aD=some a/\a.block=i
 have c9:aV (λi=>i=X.b.block) w h4:=(c2.ext e3).Hg u4 λx Y bt=>by cases Y;exact absurd bt (by dsimp only;omega)
 have ej:aV (λi=>i=d.size) d h4:=(aV.bD e3).Hg u4 λx Y _=>by cases Y;rfl
 have cr:=ej.own b2 λa ha e=>by cases ha;omega
 have t4:eQ S n h4 X.T:=z.tK c9 λi hi e=>by rw[e];omega
 refine W (b:=.ptr) (some X.T.p) cr rfl (W (b:=bI) (X.last+1) cr rfl ?_);refine aM (YQ t4) λ⟨(sp:OA),_⟩ h5 e5 g9=>?_;obtain⟨sn,rfl,b4⟩:=g9;have b4:GP h4.size h5 sn X.T.p X.T.cur:=b4;dsimp only;have X5:∀{m size:Nat} {s:Sl} {vs:bH},cA m size h4 s vs->cA m size h5 s vs:=λho=>(aV.bD (F:=λ_=>False) e5).own ho λ_ _ x=>x;have ec:=X5 cr;have k6:=e5.1;refine sU (aI.1 ec.cells 9 _ rfl) ?_;refine fB (.pointer (some sn)) (X5 ih) (by simp) rfl λh6 ix u6=>fB (aH at_) ix (by simp) rfl λh7 jl u7=>fB (aH (X.last+1)) jl (by simp) rfl λh8 eh u8=>?_;simp only[wX,List.set_cons_succ]at eh;have bd:aV (λi=>i=d.size) h5 h8:=((aV.dK (F:=λi=>i=d.size) u6 λa ha _=>by cases ha;rfl).trans (aV.dK (F:=λi=>i=d.size) u7 λa ha _=>by cases ha;rfl) λ_ _ x=>x).trans (aV.dK (F:=λi=>i=d.size) u8 λa ha _=>by cases ha;rfl) λ_ _ x=>x;have k7:=bd.1;have k8:h4.size<=sn.block/\sn.block<h5.size:=b4.lt rfl;have j0:=bd.own b4 λa ha e=>by cases ha;omega
 have eg:=bd.own ec λa ha e=>by cases ha;omega
 have gv:aV (λi=>i=X.b.block) w h8:=(c9.ext e5).trans bd λi hi e=>by omega
 refine W (b:=bI) (X.last+1) eg rfl (aL rfl (aL rfl (fB (aH (X.last+1)) eg (by simp[oX]) rfl λh9 hz u9=>aL rfl (aL rfl (fB (.slice none 0 0) hz (by simp[oX]) rfl λO cg j1=>?_)))));have cb:∀{g g':aG} {m c:Nat},jU ⟨some X.b,m,c⟩ g g'->aV (λi=>i=X.b.block) g g':=λu=>aV.dK u λa ha _=>by cases ha;rfl
 have ab:aV (λi=>i=X.b.block) h8 O:=(cb u9).trans (cb j1) λ_ _ x=>x;have j9:=ab.1;have ei:aV (λi=>i=X.b.block) w O:=gv.trans ab λ_ _ x=>x;have e9:=ab.own eh λa ha e=>by cases ha;have e:d.size=X.b.block:=e;omega
 have fy:=ab.own j0 λa ha e=>by cases ha;have e:sn.block=X.b.block:=e;omega
 refine W (b:=.sl) X.U.1 cg (by simp[oX,B.inj]) ?_;refine λelem=>?_;have bo:Ext O (O.push (.cells [.pointer (some ⟨d.size,0,none⟩)].toArray elem)):=Ext.push ..;have c4:Rd 1 (O.push (.cells [.pointer (some ⟨d.size,0,none⟩)].toArray elem)) ⟨some ⟨O.size,0,none⟩,1,1⟩ [.pointer (some ⟨d.size,0,none⟩)]:=mI rfl;generalize O.push (.cells [.pointer (some ⟨d.size,0,none⟩)].toArray elem)=bs at bo c4⊢;have kd:=bo.1;have b8:=ei.ext bo;have cx:cA n 1 bs X.U.1 (oQ X.U.2):=z.lg b8 λi hi e=>by rw[e];omega
 have hl:X.U.1.len=X.U.2.length:=by have:=cx.1;simpa[oQ] using this
 have a4:∀a,X.U.1.aD=some a->D a.block=k+4/\a.block<w.size:=λa ha=>⟨z.ru a ha,(z.ou.lt ha).2⟩;refine iR cx (by omega) c4 (by intro v hv;rw[dE.1 hv];rfl) rfl (by dsimp only;omega) (by dsimp only;omega) λq g1 ft hp j2 c7 _=>?_;have al:aV (λi=>∃a,X.U.1.aD=some a/\a.block=i) bs g1:=aV.dK j2 λa ha _=>⟨a,ha,rfl⟩;have ke:=al.1;have b6:∀{m size:Nat} {s:Sl} {vs:bH},cA m size O s vs->cA m size bs s vs:=λho=>(aV.bD (F:=λ_=>False) bo).own ho λ_ _ x=>x;have e6:=al.own (b6 cg) λa ha ⟨y,hy,e⟩=>by cases ha;have w:=(a4 y hy).1;rw[e]at w;omega
 have fj:=al.own (b6 e9) λa ha ⟨y,hy,e⟩=>by cases ha;have w:=(a4 y hy).2;have e:y.block=d.size:=e;omega
 have gf:=al.own (b6 fy) λa ha ⟨y,hy,e⟩=>by cases ha;have w:=(a4 y hy).2;omega
 have dr:∀a,q.aD=some a->(D a.block=k+4/\a.block<w.size)\/bs.size<=a.block:=λa ha=>(c7 a ha).imp (a4 a) id;have I:∀a,q.aD=some a->a.block≠X.b.block/\a.block≠d.size/\a.block≠sn.block:=λa ha=>by
  rcases dr a ha with⟨w,d⟩|w
  .refine⟨λe=>?_,by omega,by omega⟩
   rw[e]at w;omega
  .omega
 refine aL rfl (aL rfl (fB (dN q) e6 (by simp[oX]) rfl λa0 N j3=>?_));have ao:=cb j3;have kk:=ao.1;have fv:=ao.own ft λa ha e=>(I a ha).1 e;have fl:=ao.own fj λa ha e=>by cases ha;have e:d.size=X.b.block:=e;omega
 have gg:=ao.own gf λa ha e=>by cases ha;have e:sn.block=X.b.block:=e;omega
 have gw:aV F w a0:=((b8.mono (G:=F) λi _ x=>.inl x).trans (al.mono (G:=F) λi _ x=>.inr x) λ_ _ x=>x).trans (ao.mono (G:=F) λi _ x=>.inl x) λ_ _ x=>x
 let g:HW:={pt:=⟨d.size,0,none⟩,VP:=o.VP,vo:=sn,sb:=o.sb,sh:=X.T.cur,bg:=o.bg,en:=at_,mv:=o.mv,old:=o.old,fresh:=X.last+1}
 have a9:cA n 1 a0 q (oQ (X.U.2++[g])):=by
  have:oQ (X.U.2++[g])=oQ X.U.2++[.pointer (some ⟨d.size,0,none⟩)]:=by simp[oQ,g]
  rw[this];exact fv
 let V:Sl->bH:=λH=>((((((oX X).set 9 (aH (X.last+1))).set 7 (aH (X.last+1))).set 3 (.slice none 0 0)).set 2 (dN H)))
 have N:cA n 1 a0 ⟨some X.b,10,10⟩ (V q):=N;refine cZ (λtg vs h'=>tg=0/\vs=[]/\∃H,cA n 1 h' H (oQ (TN X g))/\H.aD=q.aD/\cA n 1 h' ⟨some X.b,10,10⟩ (V H)/\aV (λi=>i=X.b.block\/∃a,q.aD=some a/\a.block=i) a0 h') ?_ ?_
 .refine W (b:=.sl) q N (by simp[V,oX,B.inj]) (W (b:=bI) X.depth N (by simp[V,oX,B.inj]) ?_)
  have ds:q.len=X.U.2.length+1:=by rw[hp,hl]
  refine aE (λhd=>?_) λhd=>?_
  .rw[dL,aN,ds]at hd
   have a6:TN X g=(X.U.2++[g]).drop 1:=if_pos (by omega);refine W (b:=.sl) q N (by simp[V,oX,B.inj]) ?_;obtain⟨g0,bp,de⟩:∃g0 bp,X.U.2++[g]=g0::bp:=by
    cases hh:X.U.2 with
    |nil=>exact⟨g,[],rfl⟩
    |cons a l=>exact⟨a,l++[g],rfl⟩
   rw[de]at a9;refine Uj (YM (v:=.pointer (some g0.pt)) (vs:=oQ bp) a9 (by intro u hu;obtain⟨y,_,rfl⟩:=dB.1 hu;rfl)) λ⟨(H:Sl),_⟩ g2 c8 Y=>?_;obtain⟨ba,Z⟩:=Y;have Z:H.aD=q.aD:=Z;have ba:cA n 1 g2 H (oQ bp):=ba;dsimp only;have e7:=c8.own N λa ha ⟨y,hy,e⟩=>by cases ha;exact(I y hy).1 e
   refine aL rfl (aL rfl (fB (dN H) e7 (by simp[V,oX]) rfl λg3 bb j4=>?_));have aw:=cb j4;refine aC ⟨rfl,rfl,H,?_,Z,?_,(c8.mono λi _ x=>.inr x).trans aw λi _ x=>.inl x⟩
   .rw[a6,de]
    exact aw.own ba λa ha e=>(I a (by rw[<-Z];exact ha)).1 e
   .have:V H=(V q).set 2 (dN H):=by simp[V,oX]
    rw[this];exact bb
  .rw[gF,aN,ds]at hd
   have a6:TN X g=X.U.2++[g]:=if_neg (by omega);exact aC ⟨rfl,rfl,q,by rw[a6];exact a9,rfl,N,aV.refl _ _⟩
 rintro tg vs g3 ⟨rfl,rfl,H,e2,b0,bb,aw⟩;refine bG (bO (aC (Vp C bb λa3 e8 b9=>⟨rfl, .inr ⟨df,rfl,?_⟩⟩)));have kp:=aw.1;have kt:=b9.1
 let G:Nat->Prop:=λi=>i=X.b.block\/∃a,q.aD=some a/\a.block=i
 have a5:aV G a0 a3:=(aw.mono (G:=G) λ_ _ x=>x).trans (b9.mono (G:=G) λi _ e=>.inl e) λ_ _ x=>x;have cT:aV F w a3:=gw.trans a5 λi hi hg=>by
  rcases hg with rfl|⟨a,ha,rfl⟩
  .exact .inl rfl
  .rcases c7 a ha with h|h
   .exact .inr ⟨a,h,rfl⟩
   .omega
 have hF:∀i,i<w.size->F i->D i=k+1\/D i=k+4:=λi hi J=>by
  rcases J with rfl|⟨a,ha,rfl⟩
  .exact .inl b3
  .exact .inr (a4 a ha).1
 have fm:=a5.own fl λa ha hg=>by
  cases ha;rcases hg with e|⟨y,hy,e⟩
  .have e:d.size=X.b.block:=e;omega
  .exact(I y hy).2.1 e
 have gm:=a5.own gg λa ha hg=>by
  cases ha;rcases hg with e|⟨y,hy,e⟩
  .omega
  .exact(I y hy).2.2 e
 have e4:=b9.own e2 λa ha e=>(I a (by rw[<-b0];exact ha)).1 e
 let E:Nat->Nat:=λi=>if i<w.size then (if D i=k+7 then 0 else D i) else if (∃a,q.aD=some a/\a.block=i) then k+4 else 0
 have hold:∀i,i<w.size->E i=if D i=k+7 then 0 else D i:=λi hi=>if_pos hi
 have A:∀j,j≠k+7->∀i,i<w.size->D i=j->E i=j:=λj hj i hi e=>by rw[hold i hi,e,if_neg hj]
 have cd:∀i,w.size<=i->(∀a,q.aD=some a->a.block≠i)->E i=0:=λi hi hq=>by
  show(if _ then _ else _)=0;rw[if_neg (by omega),if_neg];rintro⟨a,ha,e⟩;exact hq a ha e
 have g7:∀a,q.aD=some a->E a.block=k+4:=λa ha=>by
  rcases dr a ha with⟨w,d⟩|w
  .exact A _ (by omega) _ d w
  .show(if _ then _ else _)=_
   rw[if_neg (by omega),if_pos ⟨a,ha,rfl⟩]
 have r0:E d.size=0:=cd _ g8 λa ha e=>(I a ha).2.1 e;have jx:E sn.block=0:=cd _ (by omega) λa ha e=>(I a ha).2.2 e;have gR:Ut n a3 E (Tg X.T) g:={
  ob:=Jh (by omega) fm
  s1:=cT.own ro.sn λa ha J=>by cases ha;have w:=hF _ (ro.sn.lt rfl).2 J;have d:=ro.rs;omega
  s2:=Jh (by omega) gm
  k1:=eK _ ro.ks
  k2:=eO ..
  mv:=ro.mv.aP cT (λi hi J=>⟨by have:=hF i hi J;omega,λa ha e=>by have w:=ro.mv.role a ha;have:=hF i hi J;rw[e]at w;omega⟩) (A 0 (by omega)) λa ha=>by
   rw[hold _ (ro.mv.own.lt ha).2,if_pos (ro.mv.role a ha)]
  r0:=⟨r0,A 0 (by omega) _ (ro.sn.lt rfl).2 ro.rs,jx⟩}
 refine⟨E,h_ X g H,c5.trans ⟨cT.mono λi hi J=>by have:=hF i hi J;omega,λi hi ho=>A _ (by omega) i hi rfl,λi hi hj=>?_⟩,?_,⟨λY=>absurd (M.symm.trans Y) (by decide),λ_=>⟨g,H,⟨rfl,rfl,rfl,rfl,rfl,rfl,rfl⟩,rfl⟩⟩⟩
 .by_cases bt:i<w.size
  .rw[hold i bt]
   split
   .exact .inl rfl
   .rcases hj with hj|hj
    .omega
    .exact .inr hj
  .show(if _ then _ else _)=0\/_<(if _ then _ else _)/\(if _ then _ else _)<=_
   rw[if_neg bt];split
   .exact .inr (by omega)
   .exact .inl rfl
 .have er:∀g',g'∈X.U.2\/g'∈X.R.2->Ut n a3 E (Tg X.T) g':=z.kl cT (λi hi J=>by have:=hF i hi J;omega) (A 0 (by omega)) rfl λs hs=>eK _ hs
  exact{
   t:=(z.tK cT λi hi J=>by have:=hF i hi J;omega).aP
   rt:=z.vd (A _ (by omega))
   mp:=z.kx cT λi hi J=>by have:=hF i hi J;omega
   rm:=z.ua (A _ (by omega))
   ow:=z.lj cT λi hi J=>by have:=hF i hi J;omega
   EP:=z.ve (A _ (by omega))
   ou:=e4
   ru:=λa ha=>g7 a (by rw[<-b0];exact ha)
   Ll:=cA.nil _ _ _
   rr:=λa ha=>by cases ha
   gs:=λg' L=>by
    rcases L with L|L
    .have L:g'∈TN X g:=L
     have hm:g'∈X.U.2++[g]:=by
      unfold TN at L;split at L
      .exact BE L
      .exact L
     rcases dH.1 hm with hm|hm
     .exact er g' (.inl hm)
     .rw[dE.1 hm];exact gR
    .cases L
   nw:=λo' cf=>by cases cf
   ob:=by
    have:oX (h_ X g H)=(V H).set 6 (.pointer none):=by simp[oX,V]
    show cA n 1 a3 ⟨some X.b,10,10⟩ (oX (h_ X g H));rw[this];exact e8
   rb:=A _ (by omega) _ ey b3}
end
end Go.Sw.Hist
