
/- Steps. -/
import Derived.Test.YtncolficnfcdcaaGreatSwU2
set_option linter.unusedVariables false
set_option linter.unusedSimpArgs false
set_option maxRecDepth 100000
namespace Go.Sw
section
variable{P:Program}{h:aE}{Q:Nat->List Value->aE->Prop}
variable{a x:Int}{s:Sl}{l:List Int}
theorem B0(a:Nat)(ha:a<2^64):(BitVec.ofInt 64 (a:Int)).toNat=a:=by
 rw[BitVec.ofInt_natCast,BitVec.toNat_ofNat,Q3 ha]
theorem Dz(a:Nat)(ha:a<256):(BitVec.ofInt 8 (a:Int)).toNat=a:=by
 rw[BitVec.ofInt_natCast,BitVec.toNat_ofNat,Q3 (by simpa using ha)]
theorem rX{n:Int}(h1 : -9223372036854775808<=n)(h2:n<9223372036854775808):IntKind.i64.wrap n=n:=by
 rw[IntKind.wrap_i64];omega
theorem Za{a b:Nat}(ha:a<2^62)(hb:b<2^62):Nq .i64 (a:Int) (b:Int)=((a ||| b:Nat):Int):=by
 unfold Nq;show IntKind.i64.wrap (BitVec.ofInt 64 a ||| BitVec.ofInt 64 b).toNat=_;rw[BitVec.toNat_or,B0 a (by omega),B0 b (by omega)];have:=Nat.or_lt_two_pow ha hb;rw[rX (by omega) (by omega)]
theorem e_{a b:Nat}(ha:a<256)(hb:b<256):Nq .u8 (a:Int) (b:Int)=((a ||| b:Nat):Int):=by
 unfold Nq;show IntKind.u8.wrap (BitVec.ofInt 8 a ||| BitVec.ofInt 8 b).toNat=_;rw[BitVec.toNat_or,Dz a ha,Dz b hb];have:a ||| b<2^8:=Nat.or_lt_two_pow (by simpa using ha) (by simpa using hb)
 rw[IntKind.wrap_u8'];omega
theorem RM{a b:Nat}(ha:a<256)(hb:b<256):yU .u8 (a:Int) (b:Int)=((a &&& b:Nat):Int):=by
 unfold yU;show IntKind.u8.wrap (BitVec.ofInt 8 a &&& BitVec.ofInt 8 b).toNat=_;rw[BitVec.toNat_and,Dz a ha,Dz b hb];have:=Nat.and_le_left (n:=a) (m:=b);rw[IntKind.wrap_u8'];omega
theorem Df(a:Int)(k:Nat)(d:k<62):yU .i64 a (((2^k-1:Nat)):Int)=a % ((2^k:Nat):Int):=by
 unfold yU;show IntKind.i64.wrap (BitVec.ofInt 64 a &&& BitVec.ofInt 64 ((2^k-1:Nat):Int)).toNat=_;have h1:2^k<=2^62:=LN (by decide) (by omega);have h0:0<2^k:=Nat.two_pow_pos k;rw[BitVec.toNat_and,B0 (2^k-1) (by omega),V3,BitVec.toNat_ofInt];have h2:(a % ((2^64:Nat):Int)).toNat % 2^k<2^k:=Nat.mod_lt _ h0;rw[rX (by omega) (by omega)];have b:(((a % ((2^64:Nat):Int)).toNat:Nat):Int)=a % ((2^64:Nat):Int):=Int.toNat_of_nonneg (Int.emod_nonneg _ (by decide));have c:(((2^k:Nat)):Int) ∣ ((2^64:Nat):Int):=Int.natCast_dvd_natCast.2 (Nat.pow_dvd_pow 2 (by omega));rw[Rj,b,Int.emod_emod_of_dvd _ c]
theorem ux(a:Int):yU .i64 a 7=a % 8:=Df a 3 (by decide)
theorem qd(a:Int):yU .i64 a 15=a % 16:=Df a 4 (by decide)
theorem qe(a:Int):yU .i64 a 31=a % 32:=Df a 5 (by decide)
theorem PD(a:Int):yU .i64 a 1023=a % 1024:=Df a 10 (by decide)
theorem U7(h0:0<=a)(h1:a<256):yU .u8 a 63=a % 64:=by
 obtain⟨n,rfl⟩:=FJ h0;rw[show(63:Int)=((63:Nat):Int) from rfl,RM (by omega) (by decide),show(63:Nat)=2^6-1 from rfl,V3];rfl
theorem XJ(h0:0<=a)(h1:a<256):yU .u8 a 192=a / 64*64:=by
 obtain⟨n,rfl⟩:=FJ h0;have b:n<256:=by omega
 rw[show(192:Int)=((192:Nat):Int) from rfl,RM b (by decide)];have:∀n:Fin 256,(n.val &&& 192:Nat)=n.val / 64*64:=by decide
 have:=this ⟨n,b⟩;simp only at this;rw[this];omega
theorem F6{b:Int}(k:Nat)(ha:0<=a)(g:a<2^62)(d:a % ((2^k:Nat):Int)=0)(hb:0<=b)(i:b<((2^k:Nat):Int))(e:k<=62):Nq .i64 a b=a+b:=by
 obtain⟨n,rfl⟩:=FJ ha;obtain⟨m,rfl⟩:=FJ hb;have h1:2^k<=2^62:=LN (by decide) e;have hm:m<2^k:=by omega
 have c:n % 2^k=0:=by
  have:=d;rw[<-Rj]at this;omega
 rw[Za (by omega) (by omega)];obtain⟨q,f⟩:=Nat.dvd_of_mod_eq_zero c;rw[f,<-V4 hm];omega
theorem IS{b:Int}(k:Nat)(ha:0<=a)(g:a<256)(d:a % ((2^k:Nat):Int)=0)(hb:0<=b)(i:b<((2^k:Nat):Int))(e:k<=8):Nq .u8 a b=a+b:=by
 obtain⟨n,rfl⟩:=FJ ha;obtain⟨m,rfl⟩:=FJ hb;have h1:2^k<=2^8:=LN (by decide) e;have hm:m<2^k:=by omega
 have c:n % 2^k=0:=by
  have:=d;rw[<-Rj]at this;omega
 rw[e_ (by omega) (by omega)];obtain⟨q,f⟩:=Nat.dvd_of_mod_eq_zero c;rw[f,<-V4 hm];omega
theorem SZ(a:Nat)(ha:a<2^63):(a &&& (2^64-1-1023))=a / 1024*1024:=by
 apply Nat.eq_of_testBit_eq;intro i;have h1:(2^64-1-1023:Nat)=(2^54-1)*2^10:=by decide
 rw[Nat.testBit_and,h1,Nat.testBit_mul_two_pow,Nat.testBit_two_pow_sub_one,show(1024:Nat)=2^10 from rfl,Nat.testBit_mul_two_pow,Nat.testBit_div_two_pow];by_cases b:10<=i
 .have e:i-10+10=i:=by omega
  simp only[b,decide_true,Bool.true_and,e];by_cases c:i-10<54
  .simp[c]
  .simp only[c,decide_false,Bool.and_false]
   have:a<2^i:=pI ha (LN (by decide) (by omega));rw[Nat.testBit_lt_two_pow this]
 .simp[b]
theorem Mj(h0:0<=a)(h1:a<2^63):FT .i64 a 1023=a / 1024*1024:=by
 obtain⟨n,rfl⟩:=FJ h0;unfold FT;show IntKind.i64.wrap (BitVec.ofInt 64 n &&& ~~~BitVec.ofInt 64 1023).toNat=_;have b:(~~~BitVec.ofInt 64 1023).toNat=2^64-1-1023:=by decide
 rw[BitVec.toNat_and,B0 n (by omega),b,SZ n (by omega)];rw[rX (by omega) (by omega)];omega
theorem bG{b:Int}(h1 : -9223372036854775808<=a+b)(h2:a+b<=9223372036854775807):aT .i64 a b=a+b:=rX h1 (by omega)
theorem cY{b:Int}(h1 : -9223372036854775808<=a-b)(h2:a-b<=9223372036854775807):bJ .i64 a b=a-b:=rX h1 (by omega)
theorem JQ{b:Int}(h1 : -9223372036854775808<=a*b)(h2:a*b<=9223372036854775807):sK .i64 a b=a*b:=rX h1 (by omega)
theorem nU(h1 : -9223372036854775808<=a)(h2:a<=9223372036854775807):dA .i64 a=a:=rX h1 (by omega)
theorem Dh(h1:0<=a)(h2:a<=255):dA .u8 a=a:=by unfold dA;rw[IntKind.wrap_u8'];omega
theorem EC(a:Int):dA .u8 a=a % 256:=by unfold dA;exact IntKind.wrap_u8' a
theorem mq{b:Int}(h0:0<=a)(hb:0<b)(h1:a<=9223372036854775807):kV .i64 a b=a / b:=by
 unfold kV;rw[V5 h0];have:0<=a / b:=Int.ediv_nonneg h0 (by omega);have:a / b<=a:=Int.ediv_le_self b h0;exact rX (by omega) (by omega)
theorem UI(k:Nat)(b:k<64)(h1 : -9223372036854775808<=a*((2^k:Nat):Int))(h2:a*((2^k:Nat):Int)<=9223372036854775807):Hu .i64 a (k:Int)=a*((2^k:Nat):Int):=by
 unfold Hu;have:min (k:Int).toNat IntKind.i64.bits=k:=by show min (k:Int).toNat 64=k;omega
 rw[this,show((2:Int) ^ k)=((2^k:Nat):Int) by simp];exact rX h1 (by omega)
theorem JX(k:Nat)(b:k<64):wD .i64 a (k:Int)=a / ((2^k:Nat):Int):=by
 unfold wD;have:min (k:Int).toNat IntKind.i64.bits=k:=by show min (k:Int).toNat 64=k;omega
 rw[this,show((2:Int) ^ k)=((2^k:Nat):Int) by simp,Int.fdiv_eq_ediv_of_nonneg _ (LO _)]
def cR(k:IntKind)(x:Int):Prop:=k.min<=x/\x<=k.max
theorem vV:cR .u8 x↔0<=x/\x<=255:=by unfold cR;simp[IntKind.min,IntKind.max,IntKind.signed,IntKind.bits]
theorem eO:cR .i64 x ↔ -9223372036854775808<=x/\x<=9223372036854775807:=by unfold cR;simp[IntKind.min,IntKind.max,IntKind.signed,IntKind.bits]
theorem rU(k:IntKind):cR k 0:=by cases k<;>simp[cR,IntKind.min,IntKind.max,IntKind.signed,IntKind.bits]
theorem range_u8(n:Int):cR .u8 (IntKind.u8.wrap n):=by rw[vV,IntKind.wrap_u8'];omega
theorem range_i64(n:Int):cR .i64 (IntKind.i64.wrap n):=by rw[eO,IntKind.wrap_i64];omega
structure kB(k:IntKind)(h:aE)(s:Sl)(l:List Int):Prop where
 rd:Dd k h s l
 cap:s.len<=s.cap
 max:s.cap<2^63
 wf:∀x,x∈l->cR k x
theorem kB.len{k:IntKind}{h:aE}{s:Sl}{l:List Int}(b:kB k h s l):s.len=l.length:=b.rd.len
theorem kB.ext{k:IntKind}{h h':aE}(b:kB k h s l)(e:Ext h h'):kB k h' s l:=⟨e.ints b.rd,b.cap,b.max,b.wf⟩
theorem kB.fits{k:IntKind}{h:aE}(b:kB k h s l)(i:Nat):cR k (l.getD i 0):=by
 rw[gF];cases hi:l[i]? with
 |none=>exact rU k
 |some x=>exact b.wf x (eL hi)
theorem kB.byte{h:aE}(b:kB .u8 h s l)(i:Nat):0<=l.getD i 0/\l.getD i 0<=255:=vV.1 (b.fits i)
theorem kB.bound{k:IntKind}{h:aE}(b:kB k h s l):l.length<2^63:=by have:=b.len;have:=b.cap;have:=b.max;omega
theorem eQ(p:Option Addr)(m size:Nat):bF p m 0 size=p:=by
 unfold bF;split
 .rfl
 .cases p<;>simp[add_zero']
theorem Rd.take{size:Nat}{h:aE}{s:Sl}{vs:List Value}(b:Rd size h s vs){n:Nat}(c:n<=s.len)(m:Nat):Rd size h ⟨s.aD,n,m⟩ (vs.take (n*size)):=by
 have:=b.1;have:n*size<=s.len*size:=Jl _ c;refine⟨by simp;omega,λi v hi=>?_⟩;rw[Hy]at hi;split at hi
 .exact b.2 i v hi
 .cases hi
theorem Rd.drop{size:Nat}{h:aE}{s:Sl}{vs:List Value}(d:Rd size h s vs){i:Nat}(hi:i<=s.len)(f:s.len<=s.cap)(m:Nat) :
  Rd size h ⟨bF s.aD s.cap i size,s.len-i,m⟩ (vs.drop (i*size)):=by
 refine⟨by simp[Nat.sub_mul,d.1],λj v b=>?_⟩;rw[DO]at b;obtain⟨a,e,c⟩:=d.2 _ v b;by_cases he:s.cap=i
 .have:=(eK.1 b).1
  rw[<-d.1,show s.len=i by omega]at this;omega
 .refine⟨a.add (i*size),by simp[bF,he,e],?_⟩
  rw[add_add];exact c
theorem kB.take{k:IntKind}{h:aE}{s:Sl}{l:List Int}(b:kB k h s l){n m:Nat}(d:n<=l.length)(hm:n<=m)(c:m<2^63):kB k h ⟨s.aD,n,m⟩ (l.take n):=
 ⟨by have:=Rd.take b.rd (n:=n) (by rw[b.len];exact d) m;simpa[Dd,DP] using this,hm,c,λx e=>b.wf x (rG e)⟩
theorem kB.drop{k:IntKind}{h:aE}{s:Sl}{l:List Int}(b:kB k h s l){i m:Nat}(hi:i<=l.length)(hm:s.len-i<=m)(c:m<2^63):kB k h ⟨bF s.aD s.cap i 1,s.len-i,m⟩ (l.drop i):=
 ⟨by have:=Rd.drop b.rd (i:=i) (by rw[b.len];exact hi) b.cap m;simpa[Dd,LP] using this,hm,c,λx d=>b.wf x (Bi d)⟩
theorem qM{k:IntKind}{K:Int->aK}{j:Int}(b:kB k h s l)(h0:0<=j)(h1:j<l.length)
  (c:cR k (l.getD j.toNat 0)->wp P (K (l.getD j.toNat 0)) h Q):wp P (bD (bN (aJ s.aD) (eV j s.len)) (.load (.one (.int k)) (aB s.aD (bB (bP j) 1)) K)) h Q:=
 ir b.rd h0 h1 (c (b.fits _))
theorem Pg{k:IntKind}{K:Int->aK}{n:Nat}(c:kB k h s l)(h1:n<l.length)(b:cR k (l.getD n 0)->wp P (K (l.getD n 0)) h Q) :
  wp P (bD (bN (aJ s.aD) (eV (n:Int) s.len)) (.load (.one (.int k)) (aB s.aD n) K)) h Q:=by
 have:=qM (j:=(n:Int)) c (by omega) (by omega) (by simpa using b);simpa[gX,eR] using this
theorem sD{b:Bool}{X:aK}(hb:b=true)(h1:wp P X h Q):wp P (bD b X) h Q:=aL hb h1
theorem iQ{j:Int}{n:Nat}(h0:0<=j)(h1:j<=n):wK j n=true:=lg.2 ⟨h0,h1⟩
theorem YJ{j:Int}{n:Nat}(h0:0<=j)(h1:j<n):eV j n=true:=lR.2 ⟨h0,h1⟩
def B8(n:Nat)(P:Program)(m:aK)(tys:List Ty)(h:aE)(R:Ts.den tys->aE->Prop):Prop:=
 wp P m h λt vs h'=>t=0/\gG n h h'/\∃x,vs=Ts.inj tys x/\R x h'
theorem NT{n:Nat}{m:aK}{tys:List Ty}{K:Ts.den tys->aK}{R:Ts.den tys->aE->Prop}(g:B8 n P m tys h R)(e:∀x h',gG n h h'->R x h'->wp P (K x) h' Q) :
  wp P (.call m tys K) h Q:=
 cU m (λ_ _ _ ⟨a,b,x,c,d⟩=>⟨a,x,c,e x _ b d⟩) g
theorem bO{tys:List Ty}{s:Ts.den tys}{body:Ts.den tys->aK}{K:Nat->List Value->aK}(I:Ts.den tys->aE->Prop)(μ:Ts.den tys->aE->Nat)(R:Nat->List Value->aE->Prop)(h0:I s h)
  (d:∀s h,I s h->wp P (body s) h λtag vs h'=>(tag=0->∃b,vs=Ts.inj tys b/\I b h'/\μ b h'<μ s h)/\(tag≠0->R tag vs h'))
  (c:∀t vs h',R t vs h'->wp P (K t vs) h' Q):wp P (.bind (.loop tys s body) K) h Q:=
 eN R (wp_loop I μ h0 d) c
end
section
variable{P:Program}{h:aE}{Q:Nat->List Value->aE->Prop}
variable{s:Sl}{l:List Int}{vs:List Value}{h':aE}{v:Int}
structure bR(n:Nat)(k:IntKind)(h:aE)(s:Sl)(l:List Int):Prop where
 own:cC n 1 h s (l.map (.int k))
 wf:∀x,x∈l->cR k x
theorem bR.kZ{n:Nat}{k:IntKind}{h:aE}(b:bR n k h s l):kB k h s l:=
 ⟨b.own.rd,b.own.2.1,b.own.2.2.1,b.wf⟩
theorem bR.nil(n:Nat)(k:IntKind)(h:aE):bR n k h ⟨none,0,0⟩ []:=⟨cC.nil n 1 h,by simp⟩
theorem bR.len{n:Nat}{k:IntKind}{h:aE}{s:Sl}{l:List Int}(b:bR n k h s l):s.len=l.length:=b.kZ.len
theorem cC.lt{n size:Nat}{h:aE}(f:cC n size h s vs){a:Addr}(ha:s.aD=some a):n<=a.block/\a.block<h.size:=by
 obtain⟨_,_,_,b⟩:=f;rw[ha]at b;obtain⟨_,_,e,cs,elem,c,_⟩:=b;refine⟨e,?_⟩;by_cases d:a.block<h.size
 .exact d
 .rw[Ka (by omega)]at c;cases c
theorem cC.aP{n size:Nat}{h:aE}(e:cC n size h s vs)(d:∀a,s.aD=some a->h'[a.block]?=h[a.block]?):cC n size h' s vs:=by
 obtain⟨h1,h2,c,b⟩:=e;refine⟨h1,h2,c,?_⟩;cases hb:s.aD with
 |none=>rw[hb]at b;exact b
 |some a=>
  rw[hb]at b;simp only at b⊢;rw[d a hb];exact b
theorem cC.ext{n size:Nat}{h:aE}(b:cC n size h s vs)(e:Ext h h'):cC n size h' s vs:=
 b.aP λa ha=>e.2.1 _ (b.lt ha).2
theorem cC.mono{n m size:Nat}{h:aE}(g:cC n size h s vs)(hm:m<=n):cC m size h s vs:=by
 obtain⟨h1,h2,f,b⟩:=g;refine⟨h1,h2,f,?_⟩;cases hb:s.aD with
 |none=>rw[hb]at b;exact b
 |some a=>
  rw[hb]at b;obtain⟨c,d,i,e⟩:=b;exact⟨c,d,by omega,e⟩
theorem bR.ext{n:Nat}{k:IntKind}{h h':aE}{s:Sl}{l:List Int}(b:bR n k h s l)(e:Ext h h'):bR n k h' s l:=⟨b.own.ext e,b.wf⟩
theorem bR.mono{n m:Nat}{k:IntKind}{h:aE}{s:Sl}{l:List Int}(b:bR n k h s l)(hm:m<=n):bR m k h s l:=⟨b.own.mono hm,b.wf⟩
theorem bR.aP{n:Nat}{k:IntKind}{h h':aE}{s:Sl}{l:List Int}(b:bR n k h s l)(c:∀a,s.aD=some a->h'[a.block]?=h[a.block]?):bR n k h' s l:=⟨b.own.aP c,b.wf⟩
theorem Ext.size{h h':aE}(k:Ext h h'):h.size<=h'.size:=k.1
theorem Hr{n bytes:Nat}{k:IntKind}{K:Sl->aK}(f:bR n k h s l)(j:n<=h.size)(o:cR k v)(g:(l.length+1)*bytes<=140737488355328)(hlen:l.length+1<2^63)
  (m:∀r h',gG n h h'->bR n k h' r (l++[v])->jE s h h'->(∀a,r.aD=some a->s.aD=some a\/(h.size<=a.block))->wp P (K r) h' Q) :
  wp P (.alloc [.int k v] λa=>.append 1 bytes [.int k 0] s ⟨some a,1,1⟩ K) h Q:=by
 have i:=f.len;refine LH f.own j rfl (by intro x e;simp at e;subst e;rfl) rfl (by rw[i];exact g) (by rw[i];exact hlen) λr h' a b c d=>?_;refine m r h' (jE.aP f.own j c) ⟨by simpa using a,?_⟩ c d;intro x e;rcases dD.1 e with e|e
 .exact f.wf x e
 .rw[dE.1 e];exact o
theorem Tf{n bytes:Nat}{k:IntKind}{x:Sl}{m:List Int}{K:Sl->aK}(f:bR n k h s l)(o:n<=h.size)(i:kB k h x m)(g:(l.length+m.length)*bytes<=140737488355328)(hlen:l.length+m.length<2^63)
  (p:∀r h',gG n h h'->bR n k h' r (l++m)->jE s h h'->(∀a,r.aD=some a->s.aD=some a\/(h.size<=a.block))->wp P (K r) h' Q) :
  wp P (.append 1 bytes [.int k 0] s x K) h Q:=by
 have j:=f.len;have hm:=i.len;refine Gh f.own o i.rd (by intro y e;obtain⟨z,_,rfl⟩:=dC.1 e;rfl) rfl (by rw[j,hm];exact g) (by rw[j,hm];exact hlen) λr h' a b c d=>?_;refine p r h' (jE.aP f.own o c) ⟨by simpa using a,?_⟩ c d;intro y e;rcases dD.1 e with e|e
 .exact f.wf y e
 .exact i.wf y e
theorem ic{n:Nat}{k:IntKind}{j:Int}{K:aK}(m:bR n k h s l)(h0:0<=j)(h1:j<l.length)(C:cR k v)
  (B:∀h',bR n k h' s (l.set j.toNat v)->jE s h h'->h'.size=h.size->wp P K h' Q) :
  wp P (bD (bN (aJ s.aD) (eV j s.len)) (.store (aB s.aD (bB (bP j) 1)) [.int k v] K)) h Q:=by
 have G:=m.len;obtain⟨o1,o2,D,d⟩:=m.own;cases hb:s.aD with
 |none=>
  rw[hb]at d;simp only at d;omega
 |some a=>
  rw[hb]at d;obtain⟨b,off,spot⟩:=a;obtain⟨e0,p,q,cs,elem,r,t,A⟩:=d;simp only at e0 p q r;subst e0;subst p;refine aL (fD.2 ⟨rfl,lR.2 ⟨h0,by omega⟩⟩) ?_;have F:j.toNat<cs.size:=by simp at t;omega
  have g:((Addr.mk b 0 none).add (bB (bP j) 1))=⟨b,j.toNat,none⟩:=by simp[pA,bB,bP]
  obtain⟨w,o,c1,c2,c3,y,E,z⟩:=lS (vs:=[.int k v]) (i:=0) (off:=j.toNat) r (by intro x c;simp at c;subst c;rfl) (by simp;omega);refine⟨⟨b,j.toNat,none⟩,by rw[pE,g],w,B _ ⟨⟨by simpa using o1,o2,D,?_⟩,?_⟩ ⟨by unfold nO;omega,λi hi u=>z i λe=>(u _ hb) e.symm,λa e=>by unfold nO;rw[iR];exact e⟩ (by unfold nO;omega)⟩
  .rw[hb]
   refine⟨rfl,rfl,q,o,elem,c1,by rw[c2,t],λi x hi=>?_⟩;rw[fX,List.getElem?_set]at hi;by_cases f:j.toNat=i
   .subst f
    have:(l.set j.toNat v).length=l.length:=by simp
    rw[if_pos rfl,if_pos (by omega)]at hi;have:=c3 0 _ rfl;simp at hi;subst hi;simpa using this
   .rw[if_neg f]at hi
    rw[y i (by simp;omega)];exact A i x (by rw[fX];exact hi)
  .intro x c
   rcases Rk c with c|rfl
   .exact m.wf x c
   .exact C
theorem jE.G5{n:Nat}{h:aE}(u:jE s h h')(hb:∀a,s.aD=some a->n<=a.block)(b:n<=h.size):gG n h h':=
 ⟨u.1,λi hi=>u.2.1 i (by omega) λa ha e=>by have:=hb a ha;omega,u.2.2⟩
theorem bR.GV{n:Nat}{k:IntKind}{h:aE}{t:Sl}(d:bR n k h s l)(u:jE t h h')(c:∀a b,s.aD=some a->t.aD=some b->b.block≠a.block):bR n k h' s l:=
 d.aP λa ha=>u.2.1 _ (d.own.lt ha).2 λb hb=>c a b ha hb
end
section
variable{P:Program}{h:aE}{Q:Nat->List Value->aE->Prop}
variable{Y:aK}
theorem pX{t n:Nat}{tys:List Ty}{vs:List Value}{K:Ts.den tys->aK}(ht:t=n)(x:Ts.den tys)(e:vs=Ts.inj tys x)(b:wp P (K x) h Q):wp P (aR (jC t n) (.cast tys vs K) Y) h Q:=by
 subst ht;exact bK ⟨x,e,b⟩
theorem pY{t n:Nat}{X:aK}(ht:t≠n)(b:wp P Y h Q):wp P (aR (jC t n) X Y) h Q:=
 nT (by cases he:jC t n;rfl;exact absurd (Vq.1 he) ht) b
end
section
variable{P:Program}{h:aE}{Q:Nat->List Value->aE->Prop}
end
section
variable{P:Program}{h:aE}{Q:Nat->List Value->aE->Prop}
variable{Y:aK}
theorem bW(φ:Prop){m:aK}{K:Bool×Unit->aK}(hm:wp P m h λt vs h'=>t=0/\Ext h h'/\∃b,vs=[.bool b]/\(b=true↔φ))
  (c:∀b h',Ext h h'->(b=true↔φ)->wp P (K (b,())) h' Q):wp P (.bind m λt vs=>aR (jC t 0) (.cast [.one .bool] vs K) Y) h Q:=
 cU m (λt vs h' ⟨ht,e,b,d,hb⟩=>pX ht (b,()) d (c b h' e hb)) hm
theorem iO{tys:List Ty}(R:Ts.den tys->aE->Prop){m:aK}{K:Ts.den tys->aK}(hm:wp P m h λt vs h'=>t=0/\Ext h h'/\∃x,vs=Ts.inj tys x/\R x h')
  (c:∀x h',Ext h h'->R x h'->wp P (K x) h' Q):wp P (.bind m λt vs=>aR (jC t 0) (.cast tys vs K) Y) h Q:=
 cU m (λt vs h' ⟨ht,e,b,d,hb⟩=>pX ht b d (c b h' e hb)) hm
end
section
variable{P:Program}{h:aE}{Q:Nat->List Value->aE->Prop}
variable{l:List Int}{a:Addr}{v:Int}
theorem LG{n:Nat}{c:Value}{name:String}{args:List Value}{m:aK}{tys:List Ty}{K:Ts.den tys->aK}{R:Ts.den tys->aE->Prop}
  (hi:Inv P c name args m) (g:B8 n P m tys h R) (e:∀x h',gG n h h'->R x h'->wp P (K x) h' Q):wp P (.invoke c name args tys K) h Q:=
 hi h _ (cU m (λ_ _ _ ⟨a,b,x,c,d⟩=>⟨a,x,c,e x _ b d⟩) g)
theorem O8{k:IntKind}{elem:TypeId}(b:∀x,x∈l->cR k x)(hb:l.length<2^63):bR h.size k (h.push (.cells (l.map (.int k)).toArray elem)) ⟨some ⟨h.size,0,none⟩,l.length,l.length⟩ l:=
 ⟨bX (by simp) (by decide) hb,b⟩
theorem jG{k:IntKind}(l:List Int){K:Addr->aK}(b:∀x,x∈l->cR k x)(hb:l.length<2^63)
  (c:∀h',Ext h h'->bR h.size k h' ⟨some ⟨h.size,0,none⟩,l.length,l.length⟩ l->wp P (K ⟨h.size,0,none⟩) h' Q):wp P (.alloc (l.map (.int k)) K) h Q:=
 λelem=>c _ (Ext.push ..) (O8 b hb)
theorem IZ{K:Addr->aK}(b:∀h',Ext h h'->wp P (K ⟨h.size,0,none⟩) h' Q):wp P (.alloc [] K) h Q:=λelem=>b _ (Ext.push ..)
theorem ek{K:Unit->aK}(b:wp P (K ()) h Q):wp P (.load (.agg []) (some a) K) h Q:=⟨a,rfl,(),trivial,b⟩
theorem kB.cell{k:IntKind}{a:Addr}{n m:Nat}{l:List Int}(d:kB k h ⟨some a,n,m⟩ l){j:Nat}(b:j<l.length):Sw.cell h (a.add j)=some (.int k (l.getD j 0)):=by
 obtain⟨f,e,c⟩:=d.rd.at b;cases e;exact c
theorem F7{k:IntKind}{n m:Nat}{K:Int->aK}{j:Nat}(d:kB k h ⟨some a,n,m⟩ l)(b:j<l.length)(c:wp P (K (l.getD j 0)) h Q) :
  wp P (.load (.one (.int k)) (aB (some a) j) K) h Q:=aX (a.add j) _ rfl (d.cell b) c
theorem I1{k:IntKind}{n m:Nat}{c:Int}{K:Int×Unit->aK}(e:kB k h ⟨some a,n,m⟩ [c])(d:wp P (K (c,())) h Q) :
  wp P (.load (.agg [.int k]) (some a) K) h Q:=by
 refine⟨a,rfl,(c,()),aI.2 λj v b=>?_,d⟩;cases j with
 |zero=>simp[Ty.cells,Bs.inj]at b;subst b;exact e.cell (j:=0) (by simp)
 |succ j=>simp[Ty.cells,Bs.inj]at b
theorem Nz{k:IntKind}{n m:Nat}{j:Nat}{K:aK}(d:kB k h ⟨some a,n,m⟩ l)(b:j<l.length)(e:v=l.getD j 0)(c:wp P K h Q) :
  wp P (.check (aB (some a) j) [.int k v] K) h Q:=by
 refine⟨⟨a.add j,rfl,aI.2 λi u hi=>?_⟩,c⟩;cases i with
 |zero=>simp at hi;subst hi;rw[add_zero',e];exact d.cell b
 |succ i=>simp at hi
theorem Tj{n:Nat}{k:IntKind}{c:Nat}(m:List Int){K:aK}(A:bR n k h ⟨some a,l.length,c⟩ l)(hm:m.length=l.length)(u:∀x,x∈m->cR k x)
  (z:∀h',bR n k h' ⟨some a,m.length,c⟩ m->jE ⟨some a,l.length,c⟩ h h'->h'.size=h.size->wp P K h' Q):wp P (.store (some a) (m.map (.int k)) K) h Q:=by
 obtain⟨o1,o2,r,C⟩:=A.own;obtain⟨b,off,spot⟩:=a;obtain⟨e0,f,g,cs,elem,o,p,F⟩:=C;dsimp only at e0 f g o o2 r;subst e0;subst f;obtain⟨w,d,c1,c2,c3,D,E,t⟩:=lS (vs:=m.map (.int k)) (i:=0) (off:=0) o (by intro x B;obtain⟨y,_,rfl⟩:=dC.1 B;rfl) (by simp;simp at p;omega);refine⟨_,rfl,w,z _ ⟨⟨by simp,by dsimp only;omega,r,rfl,rfl,g,d,elem,c1,by rw[c2,p],λi x hi=>by have:=c3 i x hi;simpa using this⟩,u⟩
  ⟨by unfold nO;omega,λj G q=>t j λe=>(q _ rfl) e.symm,λa e=>by unfold nO;rw[iR];exact e⟩ (by unfold nO;omega)⟩
theorem QT{n:Nat}{k:IntKind}{c m:Nat}{j:Nat}{K:aK}(b:bR n k h ⟨some a,m,c⟩ l)(h1:j<l.length)(f:cR k v)
  (e:∀h',bR n k h' ⟨some a,m,c⟩ (l.set j v)->jE ⟨some a,m,c⟩ h h'->h'.size=h.size->wp P K h' Q) :
  wp P (.store (aB (some a) j) [.int k v] K) h Q:=by
 have:=ic (P:=P) (K:=K) (Q:=Q) (j:=(j:Int)) b (by omega) (by omega) f (by simpa using e);have hm:=b.len;have d:bN (aJ (some a)) (eV (j:Int) m)=true:=fD.2 ⟨rfl,lR.2 ⟨by omega,by dsimp only at hm;omega⟩⟩;rw[d]at this;simpa[bD,bB,bP] using this
theorem od(a:Int):wD .i64 a 0=a:=by have:=JX (a:=a) 0 (by decide);simpa using this
theorem oh(a:Int):wD .i64 a 6=a / 64:=JX 6 (by decide)
theorem tx(a:Int):wD .i64 a 8=a / 256:=JX 8 (by decide)
theorem tv(a:Int):wD .i64 a 10=a / 1024:=JX 10 (by decide)
theorem ik(a:Int):wD .i64 a 12=a / 4096:=JX 12 (by decide)
theorem tw(a:Int):wD .i64 a 18=a / 262144:=JX 18 (by decide)
theorem v9{a:Int}(h0:0<=a)(h1:a<=2147483647):Hu .i64 a 6=a*64:=UI 6 (by decide) (by simp;omega) (by simp;omega)
theorem w_{a:Int}(h0:0<=a)(h1:a<=2147483647):Hu .i64 a 8=a*256:=UI 8 (by decide) (by simp;omega) (by simp;omega)
theorem tu{a:Int}(h0:0<=a)(h1:a<=2147483647):Hu .i64 a 10=a*1024:=UI 10 (by decide) (by simp;omega) (by simp;omega)
end
section
variable{s:Sl}{h h1 h2:aE}
structure Cu(out:Sl)(h h':aE)(r:Sl):Prop where
 GV:jE out h h'
 aD:∀a,r.aD=some a->out.aD=some a\/h.size<=a.block
theorem jE.pre(e:Ext h h1)(u:jE s h1 h2):jE s h h2:=
 ⟨dI e.1 u.1,λi hi b=>(u.2.1 i (pI hi e.1) b).trans (e.2.1 i hi),λa x=>u.2.2 a (e.2.2 a x)⟩
theorem Cu.pre{s r:Sl}{h h1 h2:aE}(e:Ext h h1)(g:Cu s h1 h2 r):Cu s h h2 r:=
 ⟨g.GV.pre e,λa ha=>(g.aD a ha).imp id λx=>dI e.1 x⟩
theorem Cu.trans{r t:Sl}(g:Cu s h h1 r)(k:Cu r h1 h2 t):Cu s h h2 t:=by
 refine⟨⟨dI g.GV.1 k.GV.1,λi hi b=>?_,λa x=>k.GV.2.2 a (g.GV.2.2 a x)⟩,λa ha=>?_⟩
 .rw[k.GV.2.1 i (pI hi g.GV.1) λa ha e=>?_,g.GV.2.1 i hi b]
  rcases g.aD a ha with hb|hb
  .exact b a hb e
  .omega
 .rcases k.aD a ha with hb|hb
  .exact g.aD a hb
  .exact .inr (dI g.GV.1 hb)
end
end Go.Sw
