
/- Steps. -/
import Derived.Test.YtncolficnfcdcaaGreatSwCC
set_option linter.unusedVariables false
set_option linter.unusedSimpArgs false
set_option maxRecDepth 100000
namespace Go.Sw.Codec
section
variable{P:Program}{S:cG}{h:aE}{Q:Nat->bE->aE->Prop}
variable{a:Int}{l:aW}
theorem HV(a:Int):aS P (sP S a) [tB] h λ(x:Bool×Unit) c=>x.1=decide ((0<=a/\a<55296)\/(57343<a/\a<=1114111)):=by
 unfold sP aS
 repeat' first
  |with_reducible refine aC ?_|with_reducible refine xN ?_|with_reducible refine bK ?_|with_reducible refine nT rfl ?_|with_reducible refine jQ ?_|with_reducible refine gZ ?_|with_reducible refine lZ ?_|with_reducible refine wC ?_|with_reducible refine bV ?_
  |with_reducible refine mI ?_|with_reducible refine lI ?_|with_reducible refine Ag ?_|with_reducible refine wB (λ_=>?_)|with_reducible refine aG (λb=>?_) (λb=>?_)
 all_goals (refine⟨rfl,Ext.refl _,(_,()),rfl,?_⟩;show _=decide _)
 all_goals simp only[aV,dQ,dT,gD,cJ,lB,dN,aZ,gC,fC,nQ,dM,lX,eI]at *
 all_goals ((try unfold zV);simp only[decide_eq_decide,Bool.true_eq,Bool.false_eq,decide_eq_true_eq,decide_eq_false_iff_not];try omega)
theorem Mr(enc a:Int):aS P (yP S enc a) [tB] h λ(x:Bool×Unit) e=>x.1=decide (0<bU enc a):=by
 unfold yP aS;refine xN ?_
 with_reducible refine aG (λhe=>?_) (λhe=>?_)
 .refine xN (aM (HV a) λx f d c=>?_)
  obtain⟨x,_⟩:=x;have c:x=decide ((0<=a/\a<55296)\/(57343<a/\a<=1114111)):=c;subst c
  repeat' first
  |with_reducible refine aC ?_|with_reducible refine xN ?_|with_reducible refine bK ?_|with_reducible refine nT rfl ?_|with_reducible refine jQ ?_|with_reducible refine gZ ?_|with_reducible refine lZ ?_|with_reducible refine wC ?_|with_reducible refine bV ?_
  |with_reducible refine mI ?_|with_reducible refine lI ?_|with_reducible refine Ag ?_|with_reducible refine wB (λ_=>?_)|with_reducible refine aG (λb=>?_) (λb=>?_)
  all_goals (refine⟨rfl,d,(_,()),rfl,?_⟩;show _=decide _)
  all_goals simp only[decide_eq_true_eq,decide_eq_false_iff_not]at *
  all_goals simp only[aV,dQ,dT,gD,cJ,lB,dN,aZ,gC,fC,nQ,dM,lX,eI]at *
  all_goals ((try unfold pV);simp only[decide_eq_decide,Bool.true_eq,Bool.false_eq,decide_eq_true_eq,decide_eq_false_iff_not,gW,ge_iff_le];try omega)
 .repeat' first
  |with_reducible refine aC ?_|with_reducible refine xN ?_|with_reducible refine bK ?_|with_reducible refine nT rfl ?_|with_reducible refine jQ ?_|with_reducible refine gZ ?_|with_reducible refine lZ ?_|with_reducible refine wC ?_|with_reducible refine bV ?_
  |with_reducible refine mI ?_|with_reducible refine lI ?_|with_reducible refine Ag ?_|with_reducible refine wB (λ_=>?_)|with_reducible refine aG (λb=>?_) (λb=>?_)
  all_goals (refine⟨rfl,Ext.refl _,(_,()),rfl,?_⟩;show _=decide _)
  all_goals simp only[aV,dQ,dT,gD,cJ,lB,dN,aZ,gC,fC,nQ,dM,lX,eI]at *
  all_goals ((try unfold zV);simp only[decide_eq_decide,Bool.true_eq,Bool.false_eq,decide_eq_true_eq,decide_eq_false_iff_not,gW,ge_iff_le];try omega)
theorem S8{b:Int}(h0:0<=a)(hb:0<b)(h1:a<2^63):kV .i64 a b=a / b:=by
 unfold kV;rw[V5 h0,IntKind.wrap_i64];have:0<=a / b:=Int.ediv_nonneg h0 (by omega);have:a / b<=a:=Int.ediv_le_self b h0;omega
theorem Tb{k:IntKind}{b:Int}(h0:0<=a):Hn k a b=a % b:=by
 unfold Hn;exact Int.tmod_eq_emod_of_nonneg h0
theorem Lt(a:Int):dA .u8 a=a % 256:=by unfold dA;exact IntKind.wrap_u8' a
def TE(n:Nat)(s:Sl):Prop:=∀a,s.aD=some a->n<=a.block
theorem yY{n m c:Nat}:TE n ⟨some ⟨n,0,none⟩,m,c⟩:=λa ha=>by cases ha;exact bL _
theorem Kj(h0:0<=a)(h1:a<=1114111):aS P (vD S a) [tS] h λ(x:Sl×Unit) c=>Dd .u8 c x.1 (dR a)/\TE h.size x.1:=by
 unfold vD aS;have e:=S8 (a:=a) (b:=64) h0 (by decide) (by omega);have f:=S8 (a:=a) (b:=4096) h0 (by decide) (by omega);have g:=S8 (a:=a) (b:=262144) h0 (by decide) (by omega);have i:=Tb (k:=.i64) (a:=a) (b:=64) h0;have j:=Tb (k:=.i64) (a:=a / 64) (b:=64) (by omega);have m:=Tb (k:=.i64) (a:=a / 4096) (b:=64) (by omega);simp only[e,f,g,i,j,m,Lt]
 repeat' first
  |with_reducible refine aC ?_|with_reducible refine xN ?_|with_reducible refine bK ?_|with_reducible refine nT rfl ?_|with_reducible refine jQ ?_|with_reducible refine gZ ?_|with_reducible refine lZ ?_|with_reducible refine wC ?_|with_reducible refine bV ?_
  |with_reducible refine mI ?_|with_reducible refine lI ?_|with_reducible refine Ag ?_|with_reducible refine wB (λ_=>?_)|with_reducible refine aG (λd=>?_) (λd=>?_)
 all_goals refine⟨rfl,Ext.push .., (⟨_,_,_⟩,()),rfl,?_⟩
 all_goals simp only[aV,dQ,dT,gD,cJ,lB,dN,aZ,gC,fC,nQ,dM,lX,eI]at *
 .have:dR a=[a % 256]:=by unfold dR;rw[if_pos (by omega)];congr 1;omega
  rw[this];exact⟨mX rfl,yY⟩
 .have:dR a=[aT .i64 192 (a / 64) % 256,aT .i64 128 (a % 64) % 256]:=by
   rw[EA (by omega) (by omega),EA (by omega) (by omega)];unfold dR;rw[if_neg (by omega),if_pos (by omega)];congr 1;omega;congr 1;omega
  rw[this];exact⟨mX rfl,yY⟩
 .have:dR a=[aT .i64 224 (a / 4096) % 256,aT .i64 128 (a / 64 % 64) % 256,aT .i64 128 (a % 64) % 256]:=by
   rw[EA (by omega) (by omega),EA (by omega) (by omega),EA (by omega) (by omega)];unfold dR;rw[if_neg (by omega),if_neg (by omega),if_pos (by omega)];congr 1;omega;congr 1;omega;congr 1;omega
  rw[this];exact⟨mX rfl,yY⟩
 .have:dR a=[aT .i64 240 (a / 262144) % 256,aT .i64 128 (a / 4096 % 64) % 256,aT .i64 128 (a / 64 % 64) % 256,aT .i64 128 (a % 64) % 256]:=by
   rw[EA (by omega) (by omega),EA (by omega) (by omega),EA (by omega) (by omega),EA (by omega) (by omega)];unfold dR;rw[if_neg (by omega),if_neg (by omega),if_neg (by omega)];congr 1;omega;congr 1;omega;congr 1;omega;congr 1;omega
  rw[this];exact⟨mX rfl,yY⟩
theorem G1{enc u:Int}(h0:0<=u)(h1:u<65536):aS P (uB S enc u) [tS] h λ(x:Sl×Unit) d=>Dd .u8 d x.1 (fM enc u)/\TE h.size x.1:=by
 unfold uB aS;have e:=S8 (a:=u) (b:=256) h0 (by decide) (by omega);have f:=Tb (k:=.i64) (a:=u) (b:=256) h0;simp only[e,f,Lt]
 repeat' first
  |with_reducible refine aC ?_|with_reducible refine xN ?_|with_reducible refine bK ?_|with_reducible refine nT rfl ?_|with_reducible refine jQ ?_|with_reducible refine gZ ?_|with_reducible refine lZ ?_|with_reducible refine wC ?_|with_reducible refine bV ?_
  |with_reducible refine mI ?_|with_reducible refine lI ?_|with_reducible refine Ag ?_|with_reducible refine wB (λ_=>?_)|with_reducible refine aG (λc=>?_) (λc=>?_)
 all_goals refine⟨rfl,Ext.push .., (⟨_,_,_⟩,()),rfl,?_⟩
 all_goals simp only[aV,dQ,dT,gD,cJ,lB,dN,aZ,gC,fC,nQ,dM,lX,eI]at *
 .have:fM enc u=[u % 256 % 256,u / 256 % 256]:=by unfold fM;rw[if_pos c];congr 1;omega;congr 1;omega
  rw[this];exact⟨mX rfl,yY⟩
 .have:fM enc u=[u / 256 % 256,u % 256 % 256]:=by unfold fM;rw[if_neg c];congr 1;omega;congr 1;omega
  rw[this];exact⟨mX rfl,yY⟩
theorem Q1{k:IntKind}{s:Sl}{K:Int->aK}{n:Nat}(c:Dd k h s l)(h1:n<l.length)(b:wp P (K (l.getD n 0)) h Q) :
  wp P (bD (bN (aJ s.aD) (eV (n:Int) s.len)) (.load (.one (.int k)) (aB s.aD n) K)) h Q:=by
 have:=ir (j:=(n:Int)) c (by omega) (by omega) (by simpa using b);simpa[gX,eR] using this
theorem Wt{enc:Int}(A:0<bU enc a):aS P (Dc S enc a) [tS] h λ(x:Sl×Unit) z=>Dd .u8 z x.1 (cW enc a)/\TE h.size x.1:=by
 rw[gW]at A;unfold Dc aS;refine aG (λc=>?_) λc=>?_
 .rw[aV]at c
  refine wB λel=>⟨rfl,Ext.push .., (⟨_,_,_⟩,()),rfl,?_⟩;have:cW enc a=[dA .u8 (bJ .i64 (-1) a)]:=by
   rw[il (by omega) (by omega),Lt];unfold cW;rw[if_pos c];congr 1;omega
  rw[this];exact⟨mX rfl,yY⟩
 rw[aZ]at c;refine aG (λb=>?_) λb=>?_
 .rw[cJ]at b
  refine aM (Kj c (by omega)) λx e j g=>⟨rfl,j,x,rfl,?_⟩;have:cW enc a=dR a:=by unfold cW;rw[if_neg (by omega),if_pos b]
  show Dd .u8 e x.1 (cW enc a)/\TE h.size x.1;rw[this];exact g
 rw[dM]at b;refine aG (λd=>?_) λd=>?_
 .rw[cJ]at d
  refine wB λel=>⟨rfl,Ext.push .., (⟨_,_,_⟩,()),rfl,?_⟩;have:cW enc a=[dA .u8 a]:=by
   rw[Lt];unfold cW;rw[if_neg (by omega),if_neg b,if_pos d];congr 1;omega
  rw[this];exact⟨mX rfl,yY⟩
 rw[dM]at d;refine aG (λf=>?_) λf=>?_
 .rw[dT]at f
  have B:aT .i64 55296 (kV .i64 (bJ .i64 a 65536) 1024)=55296+(a-65536) / 1024:=by
   rw[il (by omega) (by omega),S8 (by omega) (by decide) (by omega),EA (by omega) (by omega)]
  have C:aT .i64 56320 (Hn .i64 a 1024)=56320+a % 1024:=by
   rw[Tb c,EA (by omega) (by omega)]
  rw[B,C];refine Ag (aM (G1 (by omega) (by omega)) λx D m ⟨g,_⟩=>Ag (aM (G1 (by omega) (by omega)) λy E k ⟨o,_⟩=>?_));have i:=k.ints g;have t:=oK enc (55296+(a-65536) / 1024);have w:=oK enc (56320+a % 1024);refine Q1 (n:=0) i (by omega) (Q1 (n:=1) i (by omega) (Q1 (n:=0) o (by omega) (Q1 (n:=1) o (by omega) ?_)));refine wB λel=>⟨rfl,(m.trans k).trans (Ext.push ..),(⟨_,_,_⟩,()),rfl,?_⟩;show Dd .u8 _ _ (cW enc a)/\TE h.size _;have:cW enc a=fM enc (55296+(a-65536) / 1024)++fM enc (56320+a % 1024):=by
   unfold cW;rw[if_neg (by omega),if_neg b,if_neg d,if_pos f]
  rw[this];generalize fM enc (55296+(a-65536) / 1024)=u at t;generalize fM enc (56320+a % 1024)=v at w
  match u,v,t,w with
  |[p,q],[r,s],_,_=>exact⟨mX rfl,λa ha=>by cases ha;exact dI m.1 k.1⟩
 .rw[fC]at f
  refine aM (G1 c f) λx e j g=>⟨rfl,j,x,rfl,?_⟩;have:cW enc a=fM enc a:=by unfold cW;rw[if_neg (by omega),if_neg b,if_neg d,if_neg (by omega)]
  show Dd .u8 e x.1 (cW enc a)/\TE h.size x.1;rw[this];exact g
theorem Ms(enc a:Int):aS P (yQ S enc a) [tI] h λ(x:Int×Unit) i=>x.1=bU enc a:=by
 unfold yQ;refine aM (Mr enc a) λ⟨x,_⟩ j d c=>?_;have c:x=decide (0<bU enc a):=c;subst c;have m:=C3 enc a;refine aG (λb=>?_) λb=>?_
 .rw[dN]at b
  have:¬0<bU enc a:=of_decide_eq_false b;exact⟨rfl,d,(0,()),rfl,by show 0=bU enc a;omega⟩
 .rw[eI]at b
  have e:0<bU enc a:=of_decide_eq_true b;refine aM (Wt e) λ⟨y,_⟩ k f ⟨g,_⟩=>⟨rfl,d.trans f,(aQ y.len,()),rfl,?_⟩;show aQ y.len=bU enc a;rw[aN,Dd.len g,oJ e]
theorem XW{b m:Sl}{r:aW}{at_:Int}(hb:kB .u8 h b l)(hm:kB .u8 h m r)(h0:0<=at_)(h1:at_<=l.length)(q:r.length<2^62)(p:l.length<2^62) :
  aS P (sQ S b at_ m) [tB] h λ(x:Bool×Unit) _=>x.1=At l at_.toNat r:=by
 have f:=hb.len;have g:=hm.len;unfold sQ aS;simp only[aN,f,g];rw[bG (by omega) (by omega)];refine aG (λj=>?_) λj=>?_
 .rw[dQ]at j
  refine aC ⟨rfl,Ext.refl _,(_,()),rfl,?_⟩;show Bool.false=_;unfold At
  symm;rw[decide_eq_false_iff_not]
  intro e;have:=congrArg List.length e;rw[dJ,cZ]at this;omega
 rw[gC]at j;refine bO (λ(s:Int×Unit) c=>c=h/\0<=s.1/\s.1<=r.length/\(l.drop at_.toNat).take s.1.toNat=r.take s.1.toNat) (λs _=>r.length-s.1.toNat)
  (λt n c=>c=h/\(t=2/\n=[]/\At l at_.toNat r=true\/t=1/\n=[.bool Bool.false]/\At l at_.toNat r=false)) ⟨rfl,by simp,by simp,by simp⟩ ?_ ?_
 .rintro⟨(i:Int),u⟩ c ⟨rfl,i0,i1,ht⟩
  dsimp only at i0 i1 ht⊢;refine aG (λhi=>?_) λhi=>?_
  .rw[aV]at hi
   rw[bG (a:=at_) (by omega) (by omega)];have o:l.getD (at_+i).toNat 0=(l.drop at_.toNat).getD i.toNat 0:=by
    rw[gF,gF,DO,show(at_+i).toNat=at_.toNat+i.toNat by omega]
   refine f ▸ qM hb (by omega) (by omega) λ_=>g ▸ qM hm i0 (by omega) λ_=>aG (λd=>?_) λd=>?_
   .rw[lB,o]at d
    refine aC ⟨λh=>absurd h (by decide),λ_=>⟨rfl, .inr ⟨rfl,rfl,?_⟩⟩⟩;unfold At;rw[decide_eq_false_iff_not];intro e;apply d;have:=congrArg (λx=>List.getD x i.toNat 0) e;simp only[gF,Hy]at this⊢;rw[if_pos (by omega)]at this;exact this
   .rw[lX,o]at d
    rw[bG (by omega) (by omega)];refine aC ⟨λ_=>⟨(i+1,()),rfl,⟨rfl,by dsimp only;omega,by dsimp only;omega,?_⟩,by dsimp only;omega⟩,λh=>absurd rfl h⟩;dsimp only;rw[show(i+1).toNat=i.toNat+1 by omega];exact I7 (by rw[cZ];omega) (by omega) ht d
  .rw[aZ]at hi
   refine aC ⟨λh=>absurd h (by decide),λ_=>⟨rfl, .inl ⟨rfl,rfl,?_⟩⟩⟩;unfold At;rw[decide_eq_true_eq];rw[show i.toNat=r.length by omega]at ht;rw[ht,fA]
 .rintro t n c ⟨rfl,⟨ht,k,e⟩|⟨ht,k,e⟩⟩
  .exact pX ht () k ⟨rfl,Ext.refl _,(_,()),rfl,by show Bool.true=_;rw[e]⟩
  .exact pY (by omega) (pX ht (Bool.false,()) k ⟨rfl,Ext.refl _,(_,()),rfl,by show Bool.false=_;rw[e]⟩)
theorem br(enc:Int):aS P (Aq S enc) [tB] h λ(x:Bool×Unit) _=>(x.1=true↔eE enc):=by
 unfold Aq;refine bW (eE enc) ?_ λb d e hb=>aC ⟨rfl,e,(b,()),rfl,hb⟩;refine aG (λc=>?_) λc=>?_
 .rw[dT]at c
  exact aC ⟨rfl,Ext.refl _,_,rfl,by rw[gD];unfold eE;omega⟩
 .rw[fC]at c
  exact aC ⟨rfl,Ext.refl _,_,rfl,by unfold eE;exact⟨(λh=>by cases h),(λh=>by omega)⟩⟩
theorem W0(hb:cA l)(h0 : -240<=a)(h1:a<=255):∀i:Nat,i<=3 -> -70000000<=O4 a l i/\O4 a l i<=70000000:=by
 have b:=hb.at 1;have c:=hb.at 2;have d:=hb.at 3;intro i hi;have:i=0\/i=1\/i=2\/i=3:=by omega
 rcases this with rfl|rfl|rfl|rfl<;>simp only[O4,Nat.reduceAdd]<;>omega
theorem YQ(m:Nat)(b:m<=4):[0,0,192,224,240].getD m (0:Int)=zB m:=by
 have:m=0\/m=1\/m=2\/m=3\/m=4:=by omega
 rcases this with rfl|rfl|rfl|rfl|rfl<;>rfl
theorem SV(m:Nat):0<=zB m/\zB m<=240:=by unfold zB;(repeat' split)<;>omega
theorem bu{b:Sl}{a:Nat}{m:Int}(hb:kB .u8 h b l)(h1:1<=m)(G:m<=4)(hm:a+m<=l.length) :
  aS P (Ar S b (a:Int) m) [tI] h λ(x:Int×Unit) _=>x.1=hO m.toNat (l.drop a):=by
 have D:=hb.len;have A:=hb.bound;have c:cA l:=hb.wf;have F:=c.at a;have E:=SV m.toNat;unfold Ar;refine jG (k:=.i64) [0,0,0,0,0] (by intro x d;simp at d;subst d;exact rU _) (by simp) λz n o1=>?_;refine Tj (l:=[0,0,0,0,0]) [0,0,192,224,240] o1 rfl (by intro x d;rw[eO];simp at d;omega) λj o2 y H=>?_;have o:Ext h j:=gG.trans n (jE.G5 y (by intro x d;cases d;exact bL _) n.size);refine qM (hb.ext o) (by omega) (by omega) λ_=>sD (YJ (by omega) (by omega)) ?_;have g:∀{K:Int->aK} {Q},wp P (K (zB m.toNat)) j Q->wp P (.load (tI) (aB (Option.some ⟨h.size,0,none⟩) (bB (bP m) 1)) K) j Q:=by
  intro K Q q;rw[gX,eR,Hz];rw[<-YQ m.toNat (by omega)]at q;exact F7 o2.kZ (by simp;omega) q
 refine g ?_;rw[cN,nU (by omega) (by omega),cY (by omega) (by omega)];have p:l.getD a 0=(l.drop a).getD 0 0:=by rw[uG,FI]
 have C:=(c.drop a).at 0;rw[p];refine bO (λ(s:Int×Int×Unit) f=>Ext h f/\1<=s.2.1/\s.2.1<=m/\s.1=O4 ((l.drop a).getD 0 0-zB m.toNat) (l.drop a) (s.2.1-1).toNat) (λs _=>(m-s.2.1).toNat)
  (λt r f=>t=2/\Ext h f/\r=[.int .i64 (hO m.toNat (l.drop a))]) ⟨o,by simp,by dsimp only;omega,rfl⟩ ?_ ?_
 .rintro⟨(x:Int),(i:Int),u⟩ f ⟨e,i0,i1,ha⟩
  dsimp only at i0 i1 ha⊢;refine aG (λhi=>?_) λhi=>?_
  .rw[aV]at hi
   have v:=W0 (c.drop a) (a:=(l.drop a).getD 0 0-zB m.toNat) (by omega) (by omega) (i-1).toNat (by omega);rw[<-ha]at v;rw[bG (a:=(a:Int)) (by omega) (by omega)];have B:=c.at ((a:Int)+i).toNat;refine qM (hb.ext e) (by omega) (by omega) λ_=>?_;rw[nU (by omega) (by omega),JQ (by omega) (by omega),bG (a:=x*64) (by omega) (by omega),cY (by omega) (by omega),bG (by omega) (by omega)];refine aC ⟨λ_=>⟨(x*64+l.getD ((a:Int)+i).toNat 0-128,i+1,()),rfl,⟨e,by dsimp only;omega,by dsimp only;omega,?_⟩,by dsimp only;omega⟩,λh=>absurd rfl h⟩;dsimp only;rw[show(i+1-1).toNat=(i-1).toNat+1 by omega];show _=O4 _ _ (i-1).toNat*64+(l.drop a).getD ((i-1).toNat+1) 0-128;rw[uG l a ((i-1).toNat+1),show a+((i-1).toNat+1)=((a:Int)+i).toNat by omega,ha]
  .rw[aZ]at hi
   refine aC ⟨λh=>absurd h (by decide),λ_=>⟨rfl,e,?_⟩⟩;unfold hO;rw[ha,show(i-1).toNat=m.toNat-1 by omega]
 .rintro t r f ⟨ht,e,w⟩
  exact pX ht (_,()) w (aC ⟨rfl,e,(_,()),rfl,rfl⟩)
theorem Wb(l m:aW)(a:Nat):At l a m=At (l.drop a) 0 m:=by unfold At;rw[DR]
theorem Wo{b:Sl}{a:Nat}(hb:kB .u8 h b l)(ha:a<l.length)(hl:l.length<2^62) :
  aS P (vE S b (a:Int)) gi h λ(x:Int×Int×Unit) _=>(x.1,x.2.1)=nB (l.drop a):=by
 have Y:=hb.len;have F:cA l:=hb.wf;have L:=F.drop a;have b0:=F.at a;unfold vE;refine bO (λ(s:Int×Unit) g=>Ext h g/\1<=s.1/\s.1<=5/\s.1<=l.length-a+1/\∀m:Nat,1<=m->(m:Int)<s.1->oU (l.drop a)≠((m:Int),(m:Int))) (λs _=>(5-s.1).toNat)
  (λt n g=>Ext h g/\(t=2/\n=[]/\nB (l.drop a)=(-1-l.getD a 0,1)\/t=1/\n=[.int .i64 (nB (l.drop a)).1, .int .i64 (nB (l.drop a)).2])) ⟨Ext.refl _,by simp,by simp,by dsimp only;omega,λm h1 W=>by dsimp only at W;omega⟩ ?_ ?_
 .rintro⟨(m:Int),u⟩ g ⟨e,m0,m1,m2,v⟩
  dsimp only at m0 m1 m2 v⊢;refine bW (m<=4/\a+m<=l.length) ?_ λc W R o=>aG (λB=>?_) λB=>?_
  .refine aG (λo=>?_) λo=>?_
   .rw[gD]at o
    refine aC ⟨rfl,Ext.refl _,_,rfl,?_⟩;rw[bG (by omega) (by omega),gD,aN,Y];omega
   .rw[nQ]at o
    exact aC ⟨rfl,Ext.refl _,_,rfl,⟨(λh=>by cases h),λh=>by omega⟩⟩
  .obtain⟨q1,q2⟩:=o.1 B
   obtain⟨m,rfl⟩:=FJ (show 0<=m by omega);have H:=Mt L (m:=m) (by omega) (by omega) (by rw[cZ];omega);have p:=e.trans R;refine eN (λt n g=>Ext h g/\(t=0/\n=[]/\¬Ub m (l.drop a)\/t=1/\Ub m (l.drop a)/\n=[.int .i64 (hO m (l.drop a)), .int .i64 m])) ?_ ?_
   .refine aM (bu (hb.ext p) (by omega) (by omega) (by omega)) λ⟨(x:Int),_⟩ h4 r E=>?_
    have E:x=hO (m:Int).toNat (l.drop a):=E;rw[cN]at E;subst E;dsimp only;refine aM (HV _) λs h5 T D=>?_;have D:s.1=decide (iD (hO m (l.drop a))):=D;refine aG (λf=>?_) λf=>?_
    .rw[dN,D]at f
     exact aC ⟨(p.trans r).trans T, .inl ⟨rfl,rfl,λd=>by have:=d.1;simp[this]at f⟩⟩
    rw[eI,D]at f;have I:iD (hO m (l.drop a)):=of_decide_eq_true f;have A:0<=hO m (l.drop a)/\hO m (l.drop a)<=1114111:=by unfold iD at I;omega
    refine aM (Kj A.1 A.2) λy X e6 ⟨N,ab⟩=>?_;have q:=((p.trans r).trans T).trans e6;have J:y.1.len=(dR (hO m (l.drop a))).length:=N.len;have hle:(dR (hO m (l.drop a))).length<=4:=by rw[JO];(repeat' split)<;>omega
    have Z:kB .u8 X ⟨y.1.aD,y.1.len,y.1.len⟩ (dR (hO m (l.drop a))):=⟨⟨N.1,N.2⟩,bL _,by dsimp only;omega,λz k=>by
     rw[vV];unfold dR at k;generalize hO m (l.drop a)=w at *
     (repeat' split at k)<;>simp at k<;>omega⟩
    have K:aS P (sQ S b (a:Int) y.1) [tB] X λ(x:Bool×Unit) _=>x.1=At (l.drop a) 0 (dR (hO m (l.drop a))):=by
     rw[<-Wb];have:=XW (P:=P) (S:=S) (hb.ext q) Z (at_:=(a:Int)) (by omega) (by omega) (by omega) hl;exact this
    refine aM K λz h7 U k=>?_;have k:z.1=At (l.drop a) 0 (dR (hO m (l.drop a))):=k;refine bW (Ub m (l.drop a)) ?_ λc h8 V G=>aG (λC=>?_) λC=>?_
    .refine aG (λM=>?_) λM=>?_
     .rw[cJ,aN,J]at M
      refine aC ⟨rfl,Ext.refl _,_,rfl,?_⟩;rw[k];exact⟨λh=>⟨I,by omega,h⟩,λh=>h.2.2⟩
     .rw[dM,aN,J]at M
      exact aC ⟨rfl,Ext.refl _,_,rfl,⟨(λh=>by cases h),λh=>by have:=h.2.1;omega⟩⟩
    .exact aC ⟨(q.trans U).trans V, .inr ⟨rfl,G.1 C,rfl⟩⟩
    .exact aC ⟨(q.trans U).trans V, .inl ⟨rfl,rfl,λd=>by rw[G.2 d]at C;cases C⟩⟩
   .rintro t n h4 ⟨r,⟨ht,i,f⟩|⟨ht,d,i⟩⟩
    .refine pY (by omega) (pX ht () i ?_)
     rw[bG (by omega) (by omega)];refine aC ⟨λ_=>⟨((m:Int)+1,()),rfl,⟨r,by dsimp only;omega,by dsimp only;omega,by dsimp only;omega,λj O j2=>?_⟩,by dsimp only;omega⟩,λh=>absurd rfl h⟩;dsimp only at j2;by_cases hj:j=m
     .subst hj;exact λhr=>f (H.2 hr)
     .exact v j O (by omega)
    .refine pX ht (hO m (l.drop a),(m:Int),()) i (aC ⟨λh=>absurd h (by decide),λ_=>⟨r, .inr ⟨rfl,?_⟩⟩⟩)
     rw[F5 L (m:=m) (by omega) (by omega) (H.1 d)]
  .refine aC ⟨λh=>absurd h (by decide),λ_=>⟨e.trans R, .inl ⟨rfl,rfl,?_⟩⟩⟩
   have f:¬(m<=4/\a+m<=l.length):=λh=>by rw[o.2 h]at B;cases B
   rw[LC L (by rw[cZ];omega) λj O j4 jl=>v j O (by rw[cZ]at jl;omega),uG,FI]
 .rintro t n g ⟨e,⟨ht,i,hf⟩|⟨ht,i⟩⟩
  .refine pX ht () i (qM (hb.ext e) (by omega) (by omega) λ_=>?_)
   rw[cN,nU (by omega) (by omega),cY (by omega) (by omega)];exact aC ⟨rfl,e,(-1-l.getD a 0,1,()),rfl,hf.symm⟩
  .exact pY (by omega) (pX ht (_,_,()) i (aC ⟨rfl,e,(_,_,()),rfl,rfl⟩))
theorem R1{enc:Int}{b:Sl}{a:Nat}(hb:kB .u8 h b l)(j:l.length<2^62)(ha:a<=l.length+4) :
  aS P (sR S enc b (a:Int)) [tI] h λ(x:Int×Unit) _=>x.1=if a+2<=l.length then cB enc l a else -1:=by
 have d:=hb.len;have e:cA l:=hb.wf;have g:=e.at a;have i:=e.at (a+1);unfold sR;simp only[aN,d];rw[bG (by omega) (by omega)];refine aG (λf=>?_) λf=>?_
 .rw[dQ]at f
  rw[if_neg (by omega)];exact aC ⟨rfl,Ext.refl _,(-1,()),rfl,rfl⟩
 rw[gC]at f;rw[if_pos (by omega),bG (by omega) (by omega)];unfold cB;refine aG (λc=>?_) λc=>?_
 .rw[cJ]at c
  rw[if_pos c];refine d ▸ qM hb (by omega) (by omega) λ_=>qM hb (by omega) (by omega) λ_=>?_;rw[cN,show((a:Int)+1).toNat=a+1 by omega,nU (by omega) (by omega),nU (by omega) (by omega),JQ (by omega) (by omega),bG (by omega) (by omega)];exact aC ⟨rfl,Ext.refl _,(_,()),rfl,rfl⟩
 .rw[dM]at c
  rw[if_neg c];refine d ▸ qM hb (by omega) (by omega) λ_=>qM hb (by omega) (by omega) λ_=>?_;rw[cN,show((a:Int)+1).toNat=a+1 by omega,nU (by omega) (by omega),nU (by omega) (by omega),JQ (by omega) (by omega),bG (by omega) (by omega)];exact aC ⟨rfl,Ext.refl _,(_,()),rfl,rfl⟩
theorem Ya{enc:Int}{b:Sl}{a:Nat}(hb:kB .u8 h b l)(ha:a<l.length)(w:l.length<2^62) :
  aS P (FP S enc b (a:Int)) gi h λ(x:Int×Int×Unit) _=>(x.1,x.2.1)=eH enc (l.drop a):=by
 have H:=hb.len;have j:cA l:=hb.wf;have I:=j.at a;have s:(l.drop a).getD 0 0=l.getD a 0:=by rw[uG,FI]
 have J:=nI (enc:=enc) j a;have K:=nI (enc:=enc) j (a+2);have C:cB enc (l.drop a) 0=cB enc l a:=NP enc l a;have D:cB enc (l.drop a) 2=cB enc l (a+2):=by unfold cB;rw[uG,uG]
 unfold FP eH;refine aG (λd=>?_) λd=>?_
 .rw[cJ]at d
  rw[if_pos d];exact aM (Wo hb ha w) λx i n F=>aC ⟨rfl,n,x,rfl,F⟩
 rw[dM]at d;rw[if_neg d];refine aG (λd=>?_) λd=>?_
 .rw[cJ]at d
  rw[if_pos d];refine qM hb (by omega) (by omega) λ_=>?_;rw[cN,nU (by omega) (by omega)];exact aC ⟨rfl,Ext.refl _,(l.getD a 0,1,()),rfl,by dsimp only;rw[s]⟩
 rw[dM]at d;rw[if_neg d];unfold gB;rw[cZ,s,C,D];refine aM (R1 hb w (by omega)) λ⟨(u:Int),_⟩ g f hu=>?_;have hu:u=if a+2<=l.length then cB enc l a else -1:=hu
 dsimp only;refine aG (λk=>?_) λk=>?_
 .rw[aV]at k
  have g:¬a+2<=l.length:=λh=>by rw[if_pos h]at hu;omega
  rw[if_pos (by omega)];refine qM (hb.ext f) (by omega) (by omega) λ_=>?_;rw[cN,nU (by omega) (by omega),cY (by omega) (by omega)];exact aC ⟨rfl,f,(_,1,()),rfl,rfl⟩
 rw[aZ]at k;have B:a+2<=l.length:=by
  by_cases h:a+2<=l.length
  .exact h
  .rw[if_neg h]at hu;omega
 rw[if_pos B]at hu;subst hu;rw[if_neg (by omega),bG (by omega) (by omega)];refine aM (R1 (a:=a+2) (hb.ext f) w (by omega)) λ⟨(v:Int),_⟩ i n e=>?_;have e:v=if a+2+2<=l.length then cB enc l (a+2) else -1:=e
 dsimp only;refine bW (55296<=cB enc l a/\cB enc l a<56320/\4<=l.length-a/\56320<=cB enc l (a+2)/\cB enc l (a+2)<57344) ?_ λc o y r=>aG (λp=>?_) λp=>?_
 .have m:∀{z:aE} {φ:Prop},¬φ->wp P (.ret 0 [(Value.bool Bool.false)]) z λt G A=>t=0/\Ext z A/\∃b,G=[.bool b]/\(b=true↔φ):=λk=>aC ⟨rfl,Ext.refl _,_,rfl,⟨(λh=>by cases h),λh=>absurd h k⟩⟩
  refine aG (λg=>?_) λg=>?_
  .rw[dT]at g
   refine aG (λi=>?_) λi=>?_
   .rw[aV]at i
    refine aG (λo=>?_) λo=>?_
    .rw[dT]at o
     have hle:a+2+2<=l.length:=by
      by_cases h:a+2+2<=l.length
      .exact h
      .rw[if_neg h]at e;omega
     rw[if_pos hle]at e;refine aC ⟨rfl,Ext.refl _,_,rfl,?_⟩;rw[aV];omega
    .rw[fC]at o
     refine m λq=>?_;rw[if_pos (by omega)]at e;omega
   .rw[aZ]at i
    exact m λq=>by omega
  .rw[fC]at g
   exact m λq=>by omega
 .have E:=r.1 p
  rw[if_pos E];rw[if_pos (by omega)]at e;rw[e,cY (a:=cB enc l a) (by omega) (by omega),JQ (by omega) (by omega),bG (a:=65536) (by omega) (by omega),bG (by omega) (by omega),cY (by omega) (by omega)];refine aC ⟨rfl,(f.trans n).trans y,(_,4,()),rfl,?_⟩;dsimp only
  congr 1;omega
 .rw[if_neg λq=>by rw[r.2 q]at p;cases p]
  exact aC ⟨rfl,(f.trans n).trans y,(_,2,()),rfl,rfl⟩
theorem T9{enc at_:Int}{b:Sl}(hb:kB .u8 h b l)(u:l.length<2^62):aS P (BF S enc b at_) gi h λ(x:Int×Int×Unit) _=>g_ enc l at_ x:=by
 have o:=hb.len;unfold BF;refine aM (br enc) λc r j e=>?_;have e:c.1=true↔eE enc:=e;refine bW (¬eE enc\/at_<0\/l.length<=at_) ?_ λc s k g=>aG (λf=>?_) λf=>?_
 .refine aG (λd=>?_) λd=>?_
  .rw[dN]at d
   exact aC ⟨rfl,Ext.refl _,_,rfl,⟨λ_=>.inl (λh=>by rw[e.2 h]at d;cases d),λ_=>rfl⟩⟩
  rw[eI]at d;have d:=e.1 d;refine aG (λe=>?_) λe=>?_
  .rw[aV]at e
   exact aC ⟨rfl,Ext.refl _,_,rfl,⟨λ_=>.inr (.inl e),λ_=>rfl⟩⟩
  .rw[aZ]at e
   refine aC ⟨rfl,Ext.refl _,_,rfl,?_⟩;rw[dT,aN,o];exact⟨λh=>.inr (.inr h),λh=>by rcases h with h|h|h;exact absurd d h;omega;exact h⟩
 .exact aC ⟨rfl,j.trans k,(0,0,()),rfl, .inl ⟨g.1 f,rfl,rfl⟩⟩
 .have m:¬(¬eE enc\/at_<0\/l.length<=at_):=λh=>by rw[g.2 h]at f;cases f
  have d:eE enc:=Classical.not_not.1 λh=>m (.inl h);have h0:0<=at_:=by
   by_cases h:at_<0
   .exact absurd (.inr (.inl h)) m
   .omega
  have n:at_<l.length:=by
   by_cases h:(l.length:Int)<=at_
   .exact absurd (.inr (.inr h)) m
   .omega
  rw[eR];have ht:=(hb.ext (j.trans k)).tail (i:=at_.toNat) (by omega);refine sD (iQ h0 (by omega)) (aM (Ya (a:=0) ht (by rw[cZ];omega) (by rw[cZ];omega)) λx t q p=>aC ⟨rfl,(j.trans k).trans q,x,rfl, .inr ⟨d,h0,n,?_⟩⟩);rw[DR]at p;exact p
end
end Go.Sw.Codec
