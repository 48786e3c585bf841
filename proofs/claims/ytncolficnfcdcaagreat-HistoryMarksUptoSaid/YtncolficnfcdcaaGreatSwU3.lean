
/- Steps. -/
import Derived.Test.YtncolficnfcdcaaGreatSwU2
set_option linter.unusedVariables false
set_option linter.unusedSimpArgs false
set_option maxRecDepth 100000
namespace Go.Sw
section
variable{P:Program}{h:aG}{Q:Nat->List Value->aG->Prop}
variable{a x:Int}{s:Sl}{l:List Int}
theorem zT(a:Nat)(ha:a<2^64):(BitVec.ofInt 64 (a:Int)).toNat=a:=by
 rw[BitVec.ofInt_natCast,BitVec.toNat_ofNat,RC ha]
theorem DV(a:Nat)(ha:a<256):(BitVec.ofInt 8 (a:Int)).toNat=a:=by
 rw[BitVec.ofInt_natCast,BitVec.toNat_ofNat,RC (by simpa using ha)]
theorem sO{n:Int}(h1 : -9223372036854775808<=n)(h2:n<9223372036854775808):IntKind.i64.wrap n=n:=by
 rw[IntKind.wrap_i64];omega
theorem Z4{a b:Nat}(ha:a<2^62)(hb:b<2^62):NX .i64 (a:Int) (b:Int)=((a ||| b:Nat):Int):=by
 unfold NX;show IntKind.i64.wrap (BitVec.ofInt 64 a ||| BitVec.ofInt 64 b).toNat=_;rw[BitVec.toNat_or,zT a (by omega),zT b (by omega)];have:=Nat.or_lt_two_pow ha hb;rw[sO (by omega) (by omega)]
theorem jc{a b:Nat}(ha:a<256)(hb:b<256):NX .u8 (a:Int) (b:Int)=((a ||| b:Nat):Int):=by
 unfold NX;show IntKind.u8.wrap (BitVec.ofInt 8 a ||| BitVec.ofInt 8 b).toNat=_;rw[BitVec.toNat_or,DV a ha,DV b hb];have:a ||| b<2^8:=Nat.or_lt_two_pow (by simpa using ha) (by simpa using hb)
 rw[IntKind.wrap_u8'];omega
theorem Sx{a b:Nat}(ha:a<256)(hb:b<256):uU .u8 (a:Int) (b:Int)=((a &&& b:Nat):Int):=by
 unfold uU;show IntKind.u8.wrap (BitVec.ofInt 8 a &&& BitVec.ofInt 8 b).toNat=_;rw[BitVec.toNat_and,DV a ha,DV b hb];have:=Nat.and_le_left (n:=a) (m:=b);rw[IntKind.wrap_u8'];omega
theorem DA(a:Int)(k:Nat)(d:k<62):uU .i64 a (((2^k-1:Nat)):Int)=a % ((2^k:Nat):Int):=by
 unfold uU;show IntKind.i64.wrap (BitVec.ofInt 64 a &&& BitVec.ofInt 64 ((2^k-1:Nat):Int)).toNat=_;have h1:2^k<=2^62:=KH (by decide) (by omega);have h0:0<2^k:=Nat.two_pow_pos k;rw[BitVec.toNat_and,zT (2^k-1) (by omega),WM,BitVec.toNat_ofInt];have h2:(a % ((2^64:Nat):Int)).toNat % 2^k<2^k:=Nat.mod_lt _ h0;rw[sO (by omega) (by omega)];have b:(((a % ((2^64:Nat):Int)).toNat:Nat):Int)=a % ((2^64:Nat):Int):=Int.toNat_of_nonneg (Int.emod_nonneg _ (by decide));have c:(((2^k:Nat)):Int) ∣ ((2^64:Nat):Int):=Int.natCast_dvd_natCast.2 (Nat.pow_dvd_pow 2 (by omega));rw[RV,b,Int.emod_emod_of_dvd _ c]
theorem yn(a:Int):uU .i64 a 7=a % 8:=DA a 3 (by decide)
theorem vi(a:Int):uU .i64 a 15=a % 16:=DA a 4 (by decide)
theorem vj(a:Int):uU .i64 a 31=a % 32:=DA a 5 (by decide)
theorem Qc(a:Int):uU .i64 a 1023=a % 1024:=DA a 10 (by decide)
theorem VM(h0:0<=a)(h1:a<256):uU .u8 a 63=a % 64:=by
 obtain⟨n,rfl⟩:=CI h0;rw[show(63:Int)=((63:Nat):Int) from rfl,Sx (by omega) (by decide),show(63:Nat)=2^6-1 from rfl,WM];rfl
theorem YA(h0:0<=a)(h1:a<256):uU .u8 a 192=a / 64*64:=by
 obtain⟨n,rfl⟩:=CI h0;have b:n<256:=by omega
 rw[show(192:Int)=((192:Nat):Int) from rfl,Sx b (by decide)];have:∀n:Fin 256,(n.val &&& 192:Nat)=n.val / 64*64:=by decide
 have:=this ⟨n,b⟩;simp only at this;rw[this];omega
theorem Gm{b:Int}(k:Nat)(ha:0<=a)(g:a<2^62)(d:a % ((2^k:Nat):Int)=0)(hb:0<=b)(i:b<((2^k:Nat):Int))(e:k<=62):NX .i64 a b=a+b:=by
 obtain⟨n,rfl⟩:=CI ha;obtain⟨m,rfl⟩:=CI hb;have h1:2^k<=2^62:=KH (by decide) e;have hm:m<2^k:=by omega
 have c:n % 2^k=0:=by
  have:=d;rw[<-RV]at this;omega
 rw[Z4 (by omega) (by omega)];obtain⟨q,f⟩:=Nat.dvd_of_mod_eq_zero c;rw[f,<-WN hm];omega
theorem Ji{b:Int}(k:Nat)(ha:0<=a)(g:a<256)(d:a % ((2^k:Nat):Int)=0)(hb:0<=b)(i:b<((2^k:Nat):Int))(e:k<=8):NX .u8 a b=a+b:=by
 obtain⟨n,rfl⟩:=CI ha;obtain⟨m,rfl⟩:=CI hb;have h1:2^k<=2^8:=KH (by decide) e;have hm:m<2^k:=by omega
 have c:n % 2^k=0:=by
  have:=d;rw[<-RV]at this;omega
 rw[jc (by omega) (by omega)];obtain⟨q,f⟩:=Nat.dvd_of_mod_eq_zero c;rw[f,<-WN hm];omega
theorem TG(a:Nat)(ha:a<2^63):(a &&& (2^64-1-1023))=a / 1024*1024:=by
 apply Nat.eq_of_testBit_eq;intro i;have h1:(2^64-1-1023:Nat)=(2^54-1)*2^10:=by decide
 rw[Nat.testBit_and,h1,Nat.testBit_mul_two_pow,Nat.testBit_two_pow_sub_one,show(1024:Nat)=2^10 from rfl,Nat.testBit_mul_two_pow,Nat.testBit_div_two_pow];by_cases b:10<=i
 .have e:i-10+10=i:=by omega
  simp only[b,decide_true,Bool.true_and,e];by_cases c:i-10<54
  .simp[c]
  .simp only[c,decide_false,Bool.and_false]
   have:a<2^i:=mK ha (KH (by decide) (by omega));rw[Nat.testBit_lt_two_pow this]
 .simp[b]
theorem ML(h0:0<=a)(h1:a<2^63):Ga .i64 a 1023=a / 1024*1024:=by
 obtain⟨n,rfl⟩:=CI h0;unfold Ga;show IntKind.i64.wrap (BitVec.ofInt 64 n &&& ~~~BitVec.ofInt 64 1023).toNat=_;have b:(~~~BitVec.ofInt 64 1023).toNat=2^64-1-1023:=by decide
 rw[BitVec.toNat_and,zT n (by omega),b,TG n (by omega)];rw[sO (by omega) (by omega)];omega
theorem aX{b:Int}(h1 : -9223372036854775808<=a+b)(h2:a+b<=9223372036854775807):aT .i64 a b=a+b:=sO h1 (by omega)
theorem bY{b:Int}(h1 : -9223372036854775808<=a-b)(h2:a-b<=9223372036854775807):bJ .i64 a b=a-b:=sO h1 (by omega)
theorem DU{b:Int}(h1 : -9223372036854775808<=a*b)(h2:a*b<=9223372036854775807):qV .i64 a b=a*b:=sO h1 (by omega)
theorem mQ(h1 : -9223372036854775808<=a)(h2:a<=9223372036854775807):dC .i64 a=a:=sO h1 (by omega)
theorem BX(h1:0<=a)(h2:a<=255):dC .u8 a=a:=by unfold dC;rw[IntKind.wrap_u8'];omega
theorem EZ(a:Int):dC .u8 a=a % 256:=by unfold dC;exact IntKind.wrap_u8' a
theorem Rl{b:Int}(h0:0<=a)(hb:0<b)(h1:a<=9223372036854775807):kP .i64 a b=a / b:=by
 unfold kP;rw[WO h0];have:0<=a / b:=Int.ediv_nonneg h0 (by omega);have:a / b<=a:=Int.ediv_le_self b h0;exact sO (by omega) (by omega)
theorem Vn(k:Nat)(b:k<64)(h1 : -9223372036854775808<=a*((2^k:Nat):Int))(h2:a*((2^k:Nat):Int)<=9223372036854775807):GO .i64 a (k:Int)=a*((2^k:Nat):Int):=by
 unfold GO;have:min (k:Int).toNat IntKind.i64.bits=k:=by show min (k:Int).toNat 64=k;omega
 rw[this,show((2:Int) ^ k)=((2^k:Nat):Int) by simp];exact sO h1 (by omega)
theorem Kq(k:Nat)(b:k<64):wQ .i64 a (k:Int)=a / ((2^k:Nat):Int):=by
 unfold wQ;have:min (k:Int).toNat IntKind.i64.bits=k:=by show min (k:Int).toNat 64=k;omega
 rw[this,show((2:Int) ^ k)=((2^k:Nat):Int) by simp,Int.fdiv_eq_ediv_of_nonneg _ (Mj _)]
def cX(k:IntKind)(x:Int):Prop:=k.min<=x/\x<=k.max
theorem wJ:cX .u8 x↔0<=x/\x<=255:=by unfold cX;simp[IntKind.min,IntKind.max,IntKind.signed,IntKind.bits]
theorem eS:cX .i64 x ↔ -9223372036854775808<=x/\x<=9223372036854775807:=by unfold cX;simp[IntKind.min,IntKind.max,IntKind.signed,IntKind.bits]
theorem qF(k:IntKind):cX k 0:=by cases k<;>simp[cX,IntKind.min,IntKind.max,IntKind.signed,IntKind.bits]
theorem range_u8(n:Int):cX .u8 (IntKind.u8.wrap n):=by rw[wJ,IntKind.wrap_u8'];omega
theorem range_i64(n:Int):cX .i64 (IntKind.i64.wrap n):=by rw[eS,IntKind.wrap_i64];omega
structure kW(k:IntKind)(h:aG)(s:Sl)(l:List Int):Prop where
 rd:Dy k h s l
 cap:s.len<=s.cap
 max:s.cap<2^63
 wf:∀x,x∈l->cX k x
theorem kW.len{k:IntKind}{h:aG}{s:Sl}{l:List Int}(b:kW k h s l):s.len=l.length:=b.rd.len
theorem kW.ext{k:IntKind}{h h':aG}(b:kW k h s l)(e:Ext h h'):kW k h' s l:=⟨e.ints b.rd,b.cap,b.max,b.wf⟩
theorem kW.fits{k:IntKind}{h:aG}(b:kW k h s l)(i:Nat):cX k (l.getD i 0):=by
 rw[gI];cases hi:l[i]? with
 |none=>exact qF k
 |some x=>exact b.wf x (eM hi)
theorem kW.byte{h:aG}(b:kW .u8 h s l)(i:Nat):0<=l.getD i 0/\l.getD i 0<=255:=wJ.1 (b.fits i)
theorem kW.bound{k:IntKind}{h:aG}(b:kW k h s l):l.length<2^63:=by have:=b.len;have:=b.cap;have:=b.max;omega
theorem eW(p:Option Addr)(m size:Nat):bK p m 0 size=p:=by
 unfold bK;split
 .rfl
 .cases p<;>simp[add_zero']
theorem Rd.take{size:Nat}{h:aG}{s:Sl}{vs:List Value}(b:Rd size h s vs){n:Nat}(c:n<=s.len)(m:Nat):Rd size h ⟨s.aD,n,m⟩ (vs.take (n*size)):=by
 have:=b.1;have:n*size<=s.len*size:=JJ _ c;refine⟨by simp;omega,λi v hi=>?_⟩;rw[F3]at hi;split at hi
 .exact b.2 i v hi
 .cases hi
theorem Rd.drop{size:Nat}{h:aG}{s:Sl}{vs:List Value}(d:Rd size h s vs){i:Nat}(hi:i<=s.len)(f:s.len<=s.cap)(m:Nat) :
  Rd size h ⟨bK s.aD s.cap i size,s.len-i,m⟩ (vs.drop (i*size)):=by
 refine⟨by simp[Nat.sub_mul,d.1],λj v b=>?_⟩;rw[Ao]at b;obtain⟨a,e,c⟩:=d.2 _ v b;by_cases he:s.cap=i
 .have:=(cR.1 b).1
  rw[<-d.1,show s.len=i by omega]at this;omega
 .refine⟨a.add (i*size),by simp[bK,he,e],?_⟩
  rw[add_add];exact c
theorem kW.take{k:IntKind}{h:aG}{s:Sl}{l:List Int}(b:kW k h s l){n m:Nat}(d:n<=l.length)(hm:n<=m)(c:m<2^63):kW k h ⟨s.aD,n,m⟩ (l.take n):=
 ⟨by have:=Rd.take b.rd (n:=n) (by rw[b.len];exact d) m;simpa[Dy,Ef] using this,hm,c,λx e=>b.wf x (rU e)⟩
theorem kW.drop{k:IntKind}{h:aG}{s:Sl}{l:List Int}(b:kW k h s l){i m:Nat}(hi:i<=l.length)(hm:s.len-i<=m)(c:m<2^63):kW k h ⟨bK s.aD s.cap i 1,s.len-i,m⟩ (l.drop i):=
 ⟨by have:=Rd.drop b.rd (i:=i) (by rw[b.len];exact hi) b.cap m;simpa[Dy,Mk] using this,hm,c,λx d=>b.wf x (BD d)⟩
theorem qW{k:IntKind}{K:Int->aK}{j:Int}(b:kW k h s l)(h0:0<=j)(h1:j<l.length)
  (c:cX k (l.getD j.toNat 0)->wp P (K (l.getD j.toNat 0)) h Q):wp P (bF (bN (aJ s.aD) (eV j s.len)) (.load (.one (.int k)) (aB s.aD (aZ (bQ j) 1)) K)) h Q:=
 mu b.rd h0 h1 (c (b.fits _))
theorem PT{k:IntKind}{K:Int->aK}{n:Nat}(c:kW k h s l)(h1:n<l.length)(b:cX k (l.getD n 0)->wp P (K (l.getD n 0)) h Q) :
  wp P (bF (bN (aJ s.aD) (eV (n:Int) s.len)) (.load (.one (.int k)) (aB s.aD n) K)) h Q:=by
 have:=qW (j:=(n:Int)) c (by omega) (by omega) (by simpa using b);simpa[hO,eX] using this
theorem sS{b:Bool}{X:aK}(hb:b=true)(h1:wp P X h Q):wp P (bF b X) h Q:=aL hb h1
theorem jF{j:Int}{n:Nat}(h0:0<=j)(h1:j<=n):wY j n=true:=s_.2 ⟨h0,h1⟩
theorem ZB{j:Int}{n:Nat}(h0:0<=j)(h1:j<n):eV j n=true:=kN.2 ⟨h0,h1⟩
def Cp(n:Nat)(P:Program)(m:aK)(tys:List Ty)(h:aG)(R:Ts.den tys->aG->Prop):Prop:=
 wp P m h λt vs h'=>t=0/\gZ n h h'/\∃x,vs=Ts.inj tys x/\R x h'
theorem Ow{n:Nat}{m:aK}{tys:List Ty}{K:Ts.den tys->aK}{R:Ts.den tys->aG->Prop}(g:Cp n P m tys h R)(e:∀x h',gZ n h h'->R x h'->wp P (K x) h' Q) :
  wp P (.call m tys K) h Q:=
 cM m (λ_ _ _ ⟨a,b,x,c,d⟩=>⟨a,x,c,e x _ b d⟩) g
theorem bL{tys:List Ty}{s:Ts.den tys}{body:Ts.den tys->aK}{K:Nat->List Value->aK}(I:Ts.den tys->aG->Prop)(μ:Ts.den tys->aG->Nat)(R:Nat->List Value->aG->Prop)(h0:I s h)
  (d:∀s h,I s h->wp P (body s) h λtag vs h'=>(tag=0->∃b,vs=Ts.inj tys b/\I b h'/\μ b h'<μ s h)/\(tag≠0->R tag vs h'))
  (c:∀t vs h',R t vs h'->wp P (K t vs) h' Q):wp P (.bind (.loop tys s body) K) h Q:=
 dB R (wp_loop I μ h0 d) c
end
section
variable{P:Program}{h:aG}{Q:Nat->List Value->aG->Prop}
variable{s:Sl}{l:List Int}{vs:List Value}{h':aG}{v:Int}
structure bU(n:Nat)(k:IntKind)(h:aG)(s:Sl)(l:List Int):Prop where
 own:cA n 1 h s (l.map (.int k))
 wf:∀x,x∈l->cX k x
theorem bU.lO{n:Nat}{k:IntKind}{h:aG}(b:bU n k h s l):kW k h s l:=
 ⟨b.own.rd,b.own.2.1,b.own.2.2.1,b.wf⟩
theorem bU.nil(n:Nat)(k:IntKind)(h:aG):bU n k h ⟨none,0,0⟩ []:=⟨cA.nil n 1 h,by simp⟩
theorem bU.len{n:Nat}{k:IntKind}{h:aG}{s:Sl}{l:List Int}(b:bU n k h s l):s.len=l.length:=b.lO.len
theorem cA.lt{n size:Nat}{h:aG}(f:cA n size h s vs){a:Addr}(ha:s.aD=some a):n<=a.block/\a.block<h.size:=by
 obtain⟨_,_,_,b⟩:=f;rw[ha]at b;obtain⟨_,_,e,cs,elem,c,_⟩:=b;refine⟨e,?_⟩;by_cases d:a.block<h.size
 .exact d
 .rw[KG (by omega)]at c;cases c
theorem cA.aP{n size:Nat}{h:aG}(e:cA n size h s vs)(d:∀a,s.aD=some a->h'[a.block]?=h[a.block]?):cA n size h' s vs:=by
 obtain⟨h1,h2,c,b⟩:=e;refine⟨h1,h2,c,?_⟩;cases hb:s.aD with
 |none=>rw[hb]at b;exact b
 |some a=>
  rw[hb]at b;simp only at b⊢;rw[d a hb];exact b
theorem cA.ext{n size:Nat}{h:aG}(b:cA n size h s vs)(e:Ext h h'):cA n size h' s vs:=
 b.aP λa ha=>e.2.1 _ (b.lt ha).2
theorem cA.mono{n m size:Nat}{h:aG}(g:cA n size h s vs)(hm:m<=n):cA m size h s vs:=by
 obtain⟨h1,h2,f,b⟩:=g;refine⟨h1,h2,f,?_⟩;cases hb:s.aD with
 |none=>rw[hb]at b;exact b
 |some a=>
  rw[hb]at b;obtain⟨c,d,i,e⟩:=b;exact⟨c,d,by omega,e⟩
theorem bU.ext{n:Nat}{k:IntKind}{h h':aG}{s:Sl}{l:List Int}(b:bU n k h s l)(e:Ext h h'):bU n k h' s l:=⟨b.own.ext e,b.wf⟩
theorem bU.mono{n m:Nat}{k:IntKind}{h:aG}{s:Sl}{l:List Int}(b:bU n k h s l)(hm:m<=n):bU m k h s l:=⟨b.own.mono hm,b.wf⟩
theorem bU.aP{n:Nat}{k:IntKind}{h h':aG}{s:Sl}{l:List Int}(b:bU n k h s l)(c:∀a,s.aD=some a->h'[a.block]?=h[a.block]?):bU n k h' s l:=⟨b.own.aP c,b.wf⟩
theorem Ext.size{h h':aG}(k:Ext h h'):h.size<=h'.size:=k.1
theorem HP{n bytes:Nat}{k:IntKind}{K:Sl->aK}(f:bU n k h s l)(j:n<=h.size)(o:cX k v)(g:(l.length+1)*bytes<=140737488355328)(hlen:l.length+1<2^63)
  (m:∀r h',gZ n h h'->bU n k h' r (l++[v])->jU s h h'->(∀a,r.aD=some a->s.aD=some a\/(h.size<=a.block))->wp P (K r) h' Q) :
  wp P (.alloc [.int k v] λa=>.append 1 bytes [.int k 0] s ⟨some a,1,1⟩ K) h Q:=by
 have i:=f.len;refine Mb f.own j rfl (by intro x e;simp at e;subst e;rfl) rfl (by rw[i];exact g) (by rw[i];exact hlen) λr h' a b c d=>?_;refine m r h' (jU.aP f.own j c) ⟨by simpa using a,?_⟩ c d;intro x e;rcases dH.1 e with e|e
 .exact f.wf x e
 .rw[dE.1 e];exact o
theorem TY{n bytes:Nat}{k:IntKind}{x:Sl}{m:List Int}{K:Sl->aK}(f:bU n k h s l)(o:n<=h.size)(i:kW k h x m)(g:(l.length+m.length)*bytes<=140737488355328)(hlen:l.length+m.length<2^63)
  (p:∀r h',gZ n h h'->bU n k h' r (l++m)->jU s h h'->(∀a,r.aD=some a->s.aD=some a\/(h.size<=a.block))->wp P (K r) h' Q) :
  wp P (.append 1 bytes [.int k 0] s x K) h Q:=by
 have j:=f.len;have hm:=i.len;refine Gz f.own o i.rd (by intro y e;obtain⟨z,_,rfl⟩:=dA.1 e;rfl) rfl (by rw[j,hm];exact g) (by rw[j,hm];exact hlen) λr h' a b c d=>?_;refine p r h' (jU.aP f.own o c) ⟨by simpa using a,?_⟩ c d;intro y e;rcases dH.1 e with e|e
 .exact f.wf y e
 .exact i.wf y e
theorem ly{n:Nat}{k:IntKind}{j:Int}{K:aK}(m:bU n k h s l)(h0:0<=j)(h1:j<l.length)(C:cX k v)
  (B:∀h',bU n k h' s (l.set j.toNat v)->jU s h h'->h'.size=h.size->wp P K h' Q) :
  wp P (bF (bN (aJ s.aD) (eV j s.len)) (.store (aB s.aD (aZ (bQ j) 1)) [.int k v] K)) h Q:=by
 have G:=m.len;obtain⟨o1,o2,D,d⟩:=m.own;cases hb:s.aD with
 |none=>
  rw[hb]at d;simp only at d;omega
 |some a=>
  rw[hb]at d;obtain⟨b,off,spot⟩:=a;obtain⟨e0,p,q,cs,elem,r,t,A⟩:=d;simp only at e0 p q r;subst e0;subst p;refine aL (fC.2 ⟨rfl,kN.2 ⟨h0,by omega⟩⟩) ?_;have F:j.toNat<cs.size:=by simp at t;omega
  have g:((Addr.mk b 0 none).add (aZ (bQ j) 1))=⟨b,j.toNat,none⟩:=by simp[pI,aZ,bQ]
  obtain⟨w,o,c1,c2,c3,y,E,z⟩:=mH (vs:=[.int k v]) (i:=0) (off:=j.toNat) r (by intro x c;simp at c;subst c;rfl) (by simp;omega);refine⟨⟨b,j.toNat,none⟩,by rw[pM,g],w,B _ ⟨⟨by simpa using o1,o2,D,?_⟩,?_⟩ ⟨by unfold nY;omega,λi hi u=>z i λe=>(u _ hb) e.symm,λa e=>by unfold nY;rw[jH];exact e⟩ (by unfold nY;omega)⟩
  .rw[hb]
   refine⟨rfl,rfl,q,o,elem,c1,by rw[c2,t],λi x hi=>?_⟩;rw[gP,RW]at hi;by_cases f:j.toNat=i
   .subst f
    have:(l.set j.toNat v).length=l.length:=by simp
    rw[if_pos rfl,if_pos (by omega)]at hi;have:=c3 0 _ rfl;simp at hi;subst hi;simpa using this
   .rw[if_neg f]at hi
    rw[y i (by simp;omega)];exact A i x (by rw[gP];exact hi)
  .intro x c
   rcases RY c with c|rfl
   .exact m.wf x c
   .exact C
theorem jU.Hr{n:Nat}{h:aG}(u:jU s h h')(hb:∀a,s.aD=some a->n<=a.block)(b:n<=h.size):gZ n h h':=
 ⟨u.1,λi hi=>u.2.1 i (by omega) λa ha e=>by have:=hb a ha;omega,u.2.2⟩
theorem bU.Hg{n:Nat}{k:IntKind}{h:aG}{t:Sl}(d:bU n k h s l)(u:jU t h h')(c:∀a b,s.aD=some a->t.aD=some b->b.block≠a.block):bU n k h' s l:=
 d.aP λa ha=>u.2.1 _ (d.own.lt ha).2 λb hb=>c a b ha hb
end
section
variable{P:Program}{h:aG}{Q:Nat->List Value->aG->Prop}
variable{Y:aK}
theorem pL{t n:Nat}{tys:List Ty}{vs:List Value}{K:Ts.den tys->aK}(ht:t=n)(x:Ts.den tys)(e:vs=Ts.inj tys x)(b:wp P (K x) h Q):wp P (aR (jL t n) (.cast tys vs K) Y) h Q:=by
 subst ht;exact bE ⟨x,e,b⟩
theorem nP{t n:Nat}{X:aK}(ht:t≠n)(b:wp P Y h Q):wp P (aR (jL t n) X Y) h Q:=
 oD (by cases he:jL t n;rfl;exact absurd (V8.1 he) ht) b
end
section
variable{P:Program}{h:aG}{Q:Nat->List Value->aG->Prop}
end
section
variable{P:Program}{h:aG}{Q:Nat->List Value->aG->Prop}
variable{Y:aK}
theorem bZ(φ:Prop){m:aK}{K:Bool×Unit->aK}(hm:wp P m h λt vs h'=>t=0/\Ext h h'/\∃b,vs=[.bool b]/\(b=true↔φ))
  (c:∀b h',Ext h h'->(b=true↔φ)->wp P (K (b,())) h' Q):wp P (.bind m λt vs=>aR (jL t 0) (.cast [.one .bool] vs K) Y) h Q:=
 cM m (λt vs h' ⟨ht,e,b,d,hb⟩=>pL ht (b,()) d (c b h' e hb)) hm
theorem gA{tys:List Ty}(R:Ts.den tys->aG->Prop){m:aK}{K:Ts.den tys->aK}(hm:wp P m h λt vs h'=>t=0/\Ext h h'/\∃x,vs=Ts.inj tys x/\R x h')
  (c:∀x h',Ext h h'->R x h'->wp P (K x) h' Q):wp P (.bind m λt vs=>aR (jL t 0) (.cast tys vs K) Y) h Q:=
 cM m (λt vs h' ⟨ht,e,b,d,hb⟩=>pL ht b d (c b h' e hb)) hm
end
section
variable{P:Program}{h:aG}{Q:Nat->List Value->aG->Prop}
variable{l:List Int}{a:Addr}{v:Int}
theorem Ma{n:Nat}{c:Value}{name:String}{args:List Value}{m:aK}{tys:List Ty}{K:Ts.den tys->aK}{R:Ts.den tys->aG->Prop}
  (hi:Inv P c name args m) (g:Cp n P m tys h R) (e:∀x h',gZ n h h'->R x h'->wp P (K x) h' Q):wp P (.invoke c name args tys K) h Q:=
 hi h _ (cM m (λ_ _ _ ⟨a,b,x,c,d⟩=>⟨a,x,c,e x _ b d⟩) g)
theorem PL{k:IntKind}{elem:TypeId}(b:∀x,x∈l->cX k x)(hb:l.length<2^63):bU h.size k (h.push (.cells (l.map (.int k)).toArray elem)) ⟨some ⟨h.size,0,none⟩,l.length,l.length⟩ l:=
 ⟨bR (by simp) (by decide) hb,b⟩
theorem jG{k:IntKind}(l:List Int){K:Addr->aK}(b:∀x,x∈l->cX k x)(hb:l.length<2^63)
  (c:∀h',Ext h h'->bU h.size k h' ⟨some ⟨h.size,0,none⟩,l.length,l.length⟩ l->wp P (K ⟨h.size,0,none⟩) h' Q):wp P (.alloc (l.map (.int k)) K) h Q:=
 λelem=>c _ (Ext.push ..) (PL b hb)
theorem Jp{K:Addr->aK}(b:∀h',Ext h h'->wp P (K ⟨h.size,0,none⟩) h' Q):wp P (.alloc [] K) h Q:=λelem=>b _ (Ext.push ..)
theorem jg{K:Unit->aK}(b:wp P (K ()) h Q):wp P (.load (.agg []) (some a) K) h Q:=⟨a,rfl,(),trivial,b⟩
theorem kW.cell{k:IntKind}{a:Addr}{n m:Nat}{l:List Int}(d:kW k h ⟨some a,n,m⟩ l){j:Nat}(b:j<l.length):Sw.cell h (a.add j)=some (.int k (l.getD j 0)):=by
 obtain⟨f,e,c⟩:=d.rd.at b;cases e;exact c
theorem Gn{k:IntKind}{n m:Nat}{K:Int->aK}{j:Nat}(d:kW k h ⟨some a,n,m⟩ l)(b:j<l.length)(c:wp P (K (l.getD j 0)) h Q) :
  wp P (.load (.one (.int k)) (aB (some a) j) K) h Q:=bC (a.add j) _ rfl (d.cell b) c
theorem Jr{k:IntKind}{n m:Nat}{c:Int}{K:Int×Unit->aK}(e:kW k h ⟨some a,n,m⟩ [c])(d:wp P (K (c,())) h Q) :
  wp P (.load (.agg [.int k]) (some a) K) h Q:=by
 refine⟨a,rfl,(c,()),aI.2 λj v b=>?_,d⟩;cases j with
 |zero=>simp[Ty.cells,Bs.inj]at b;subst b;exact e.cell (j:=0) (by simp)
 |succ j=>simp[Ty.cells,Bs.inj]at b
theorem N8{k:IntKind}{n m:Nat}{j:Nat}{K:aK}(d:kW k h ⟨some a,n,m⟩ l)(b:j<l.length)(e:v=l.getD j 0)(c:wp P K h Q) :
  wp P (.check (aB (some a) j) [.int k v] K) h Q:=by
 refine⟨⟨a.add j,rfl,aI.2 λi u hi=>?_⟩,c⟩;cases i with
 |zero=>simp at hi;subst hi;rw[add_zero',e];exact d.cell b
 |succ i=>simp at hi
theorem T7{n:Nat}{k:IntKind}{c:Nat}(m:List Int){K:aK}(A:bU n k h ⟨some a,l.length,c⟩ l)(hm:m.length=l.length)(u:∀x,x∈m->cX k x)
  (z:∀h',bU n k h' ⟨some a,m.length,c⟩ m->jU ⟨some a,l.length,c⟩ h h'->h'.size=h.size->wp P K h' Q):wp P (.store (some a) (m.map (.int k)) K) h Q:=by
 obtain⟨o1,o2,r,C⟩:=A.own;obtain⟨b,off,spot⟩:=a;obtain⟨e0,f,g,cs,elem,o,p,F⟩:=C;dsimp only at e0 f g o o2 r;subst e0;subst f;obtain⟨w,d,c1,c2,c3,D,E,t⟩:=mH (vs:=m.map (.int k)) (i:=0) (off:=0) o (by intro x B;obtain⟨y,_,rfl⟩:=dA.1 B;rfl) (by simp;simp at p;omega);refine⟨_,rfl,w,z _ ⟨⟨by simp,by dsimp only;omega,r,rfl,rfl,g,d,elem,c1,by rw[c2,p],λi x hi=>by have:=c3 i x hi;simpa using this⟩,u⟩
  ⟨by unfold nY;omega,λj G q=>t j λe=>(q _ rfl) e.symm,λa e=>by unfold nY;rw[jH];exact e⟩ (by unfold nY;omega)⟩
theorem Rr{n:Nat}{k:IntKind}{c m:Nat}{j:Nat}{K:aK}(b:bU n k h ⟨some a,m,c⟩ l)(h1:j<l.length)(f:cX k v)
  (e:∀h',bU n k h' ⟨some a,m,c⟩ (l.set j v)->jU ⟨some a,m,c⟩ h h'->h'.size=h.size->wp P K h' Q) :
  wp P (.store (aB (some a) j) [.int k v] K) h Q:=by
 have:=ly (P:=P) (K:=K) (Q:=Q) (j:=(j:Int)) b (by omega) (by omega) f (by simpa using e);have hm:=b.len;have d:bN (aJ (some a)) (eV (j:Int) m)=true:=fC.2 ⟨rfl,kN.2 ⟨by omega,by dsimp only at hm;omega⟩⟩;rw[d]at this;simpa[bF,aZ,bQ] using this
theorem um(a:Int):wQ .i64 a 0=a:=by have:=Kq (a:=a) 0 (by decide);simpa using this
theorem uo(a:Int):wQ .i64 a 6=a / 64:=Kq 6 (by decide)
theorem x4(a:Int):wQ .i64 a 8=a / 256:=Kq 8 (by decide)
theorem xy(a:Int):wQ .i64 a 10=a / 1024:=Kq 10 (by decide)
theorem mg(a:Int):wQ .i64 a 12=a / 4096:=Kq 12 (by decide)
theorem xz(a:Int):wQ .i64 a 18=a / 262144:=Kq 18 (by decide)
theorem zo{a:Int}(h0:0<=a)(h1:a<=2147483647):GO .i64 a 6=a*64:=Vn 6 (by decide) (by simp;omega) (by simp;omega)
theorem zq{a:Int}(h0:0<=a)(h1:a<=2147483647):GO .i64 a 8=a*256:=Vn 8 (by decide) (by simp;omega) (by simp;omega)
theorem xx{a:Int}(h0:0<=a)(h1:a<=2147483647):GO .i64 a 10=a*1024:=Vn 10 (by decide) (by simp;omega) (by simp;omega)
end
section
variable{s:Sl}{h h1 h2:aG}
structure CN(out:Sl)(h h':aG)(r:Sl):Prop where
 Hg:jU out h h'
 aD:∀a,r.aD=some a->out.aD=some a\/h.size<=a.block
theorem jU.pre(e:Ext h h1)(u:jU s h1 h2):jU s h h2:=
 ⟨dI e.1 u.1,λi hi b=>(u.2.1 i (mK hi e.1) b).trans (e.2.1 i hi),λa x=>u.2.2 a (e.2.2 a x)⟩
theorem CN.pre{s r:Sl}{h h1 h2:aG}(e:Ext h h1)(g:CN s h1 h2 r):CN s h h2 r:=
 ⟨g.Hg.pre e,λa ha=>(g.aD a ha).imp id λx=>dI e.1 x⟩
theorem CN.trans{r t:Sl}(g:CN s h h1 r)(k:CN r h1 h2 t):CN s h h2 t:=by
 refine⟨⟨dI g.Hg.1 k.Hg.1,λi hi b=>?_,λa x=>k.Hg.2.2 a (g.Hg.2.2 a x)⟩,λa ha=>?_⟩
 .rw[k.Hg.2.1 i (mK hi g.Hg.1) λa ha e=>?_,g.Hg.2.1 i hi b]
  rcases g.aD a ha with hb|hb
  .exact b a hb e
  .omega
 .rcases k.aD a ha with hb|hb
  .exact g.aD a hb
  .exact .inr (dI g.Hg.1 hb)
end
end Go.Sw
