
/- Steps. -/
import Derived.Test.YtncolficnfcdcaaGreatSwCC
set_option linter.unusedVariables false
set_option linter.unusedSimpArgs false
set_option maxRecDepth 100000
namespace Go.Sw.Codec
section
variable{P:Program}{S:cH}{h:aG}{Q:Nat->bG->aG->Prop}
variable{a:Int}{l:bB}
theorem Im(a:Int):aS P (tF S a) [tB] h λ(x:Bool×Unit) c=>x.1=decide ((0<=a/\a<55296)\/(57343<a/\a<=1114111)):=by
 unfold tF aS
 repeat' first
  |with_reducible refine aC ?_|with_reducible refine yC ?_|with_reducible refine bE ?_|with_reducible refine oD rfl ?_|with_reducible refine gF ?_|with_reducible refine fI ?_|with_reducible refine mP ?_|with_reducible refine tV ?_|with_reducible refine bO ?_
  |with_reducible refine mV ?_|with_reducible refine lW ?_|with_reducible refine pE ?_|with_reducible refine wP (λ_=>?_)|with_reducible refine aE (λb=>?_) (λb=>?_)
 all_goals (refine⟨rfl,Ext.refl _,(_,()),rfl,?_⟩;show _=decide _)
 all_goals simp only[aU,dL,dD,gE,cK,kH,dF,aY,gD,eR,mN,dS,lQ,eC]at *
 all_goals ((try unfold xY);simp only[decide_eq_decide,Bool.true_eq,Bool.false_eq,decide_eq_true_eq,decide_eq_false_iff_not];try omega)
theorem MT(enc a:Int):aS P (zF S enc a) [tB] h λ(x:Bool×Unit) e=>x.1=decide (0<bW enc a):=by
 unfold zF aS;refine yC ?_
 with_reducible refine aE (λhe=>?_) (λhe=>?_)
 .refine yC (aM (Im a) λx f d c=>?_)
  obtain⟨x,_⟩:=x;have c:x=decide ((0<=a/\a<55296)\/(57343<a/\a<=1114111)):=c;subst c
  repeat' first
  |with_reducible refine aC ?_|with_reducible refine yC ?_|with_reducible refine bE ?_|with_reducible refine oD rfl ?_|with_reducible refine gF ?_|with_reducible refine fI ?_|with_reducible refine mP ?_|with_reducible refine tV ?_|with_reducible refine bO ?_
  |with_reducible refine mV ?_|with_reducible refine lW ?_|with_reducible refine pE ?_|with_reducible refine wP (λ_=>?_)|with_reducible refine aE (λb=>?_) (λb=>?_)
  all_goals (refine⟨rfl,d,(_,()),rfl,?_⟩;show _=decide _)
  all_goals simp only[decide_eq_true_eq,decide_eq_false_iff_not]at *
  all_goals simp only[aU,dL,dD,gE,cK,kH,dF,aY,gD,eR,mN,dS,lQ,eC]at *
  all_goals ((try unfold qG);simp only[decide_eq_decide,Bool.true_eq,Bool.false_eq,decide_eq_true_eq,decide_eq_false_iff_not,iK,ge_iff_le];try omega)
 .repeat' first
  |with_reducible refine aC ?_|with_reducible refine yC ?_|with_reducible refine bE ?_|with_reducible refine oD rfl ?_|with_reducible refine gF ?_|with_reducible refine fI ?_|with_reducible refine mP ?_|with_reducible refine tV ?_|with_reducible refine bO ?_
  |with_reducible refine mV ?_|with_reducible refine lW ?_|with_reducible refine pE ?_|with_reducible refine wP (λ_=>?_)|with_reducible refine aE (λb=>?_) (λb=>?_)
  all_goals (refine⟨rfl,Ext.refl _,(_,()),rfl,?_⟩;show _=decide _)
  all_goals simp only[aU,dL,dD,gE,cK,kH,dF,aY,gD,eR,mN,dS,lQ,eC]at *
  all_goals ((try unfold xY);simp only[decide_eq_decide,Bool.true_eq,Bool.false_eq,decide_eq_true_eq,decide_eq_false_iff_not,iK,ge_iff_le];try omega)
theorem TP{b:Int}(h0:0<=a)(hb:0<b)(h1:a<2^63):kP .i64 a b=a / b:=by
 unfold kP;rw[WO h0,IntKind.wrap_i64];have:0<=a / b:=Int.ediv_nonneg h0 (by omega);have:a / b<=a:=Int.ediv_le_self b h0;omega
theorem TT{k:IntKind}{b:Int}(h0:0<=a):HL k a b=a % b:=by
 unfold HL;exact Int.tmod_eq_emod_of_nonneg h0
theorem LW(a:Int):dC .u8 a=a % 256:=by unfold dC;exact IntKind.wrap_u8' a
def Up(n:Nat)(s:Sl):Prop:=∀a,s.aD=some a->n<=a.block
theorem zN{n m c:Nat}:Up n ⟨some ⟨n,0,none⟩,m,c⟩:=λa ha=>by cases ha;exact bM _
theorem KO(h0:0<=a)(h1:a<=1114111):aS P (vT S a) [tS] h λ(x:Sl×Unit) c=>Dy .u8 c x.1 (dV a)/\Up h.size x.1:=by
 unfold vT aS;have e:=TP (a:=a) (b:=64) h0 (by decide) (by omega);have f:=TP (a:=a) (b:=4096) h0 (by decide) (by omega);have g:=TP (a:=a) (b:=262144) h0 (by decide) (by omega);have i:=TT (k:=.i64) (a:=a) (b:=64) h0;have j:=TT (k:=.i64) (a:=a / 64) (b:=64) (by omega);have m:=TT (k:=.i64) (a:=a / 4096) (b:=64) (by omega);simp only[e,f,g,i,j,m,LW]
 repeat' first
  |with_reducible refine aC ?_|with_reducible refine yC ?_|with_reducible refine bE ?_|with_reducible refine oD rfl ?_|with_reducible refine gF ?_|with_reducible refine fI ?_|with_reducible refine mP ?_|with_reducible refine tV ?_|with_reducible refine bO ?_
  |with_reducible refine mV ?_|with_reducible refine lW ?_|with_reducible refine pE ?_|with_reducible refine wP (λ_=>?_)|with_reducible refine aE (λd=>?_) (λd=>?_)
 all_goals refine⟨rfl,Ext.push .., (⟨_,_,_⟩,()),rfl,?_⟩
 all_goals simp only[aU,dL,dD,gE,cK,kH,dF,aY,gD,eR,mN,dS,lQ,eC]at *
 .have:dV a=[a % 256]:=by unfold dV;rw[if_pos (by omega)];congr 1;omega
  rw[this];exact⟨mI rfl,zN⟩
 .have:dV a=[aT .i64 192 (a / 64) % 256,aT .i64 128 (a % 64) % 256]:=by
   rw[EX (by omega) (by omega),EX (by omega) (by omega)];unfold dV;rw[if_neg (by omega),if_pos (by omega)];congr 1;omega;congr 1;omega
  rw[this];exact⟨mI rfl,zN⟩
 .have:dV a=[aT .i64 224 (a / 4096) % 256,aT .i64 128 (a / 64 % 64) % 256,aT .i64 128 (a % 64) % 256]:=by
   rw[EX (by omega) (by omega),EX (by omega) (by omega),EX (by omega) (by omega)];unfold dV;rw[if_neg (by omega),if_neg (by omega),if_pos (by omega)];congr 1;omega;congr 1;omega;congr 1;omega
  rw[this];exact⟨mI rfl,zN⟩
 .have:dV a=[aT .i64 240 (a / 262144) % 256,aT .i64 128 (a / 4096 % 64) % 256,aT .i64 128 (a / 64 % 64) % 256,aT .i64 128 (a % 64) % 256]:=by
   rw[EX (by omega) (by omega),EX (by omega) (by omega),EX (by omega) (by omega),EX (by omega) (by omega)];unfold dV;rw[if_neg (by omega),if_neg (by omega),if_neg (by omega)];congr 1;omega;congr 1;omega;congr 1;omega;congr 1;omega
  rw[this];exact⟨mI rfl,zN⟩
theorem Hl{enc u:Int}(h0:0<=u)(h1:u<65536):aS P (uN S enc u) [tS] h λ(x:Sl×Unit) d=>Dy .u8 d x.1 (fU enc u)/\Up h.size x.1:=by
 unfold uN aS;have e:=TP (a:=u) (b:=256) h0 (by decide) (by omega);have f:=TT (k:=.i64) (a:=u) (b:=256) h0;simp only[e,f,LW]
 repeat' first
  |with_reducible refine aC ?_|with_reducible refine yC ?_|with_reducible refine bE ?_|with_reducible refine oD rfl ?_|with_reducible refine gF ?_|with_reducible refine fI ?_|with_reducible refine mP ?_|with_reducible refine tV ?_|with_reducible refine bO ?_
  |with_reducible refine mV ?_|with_reducible refine lW ?_|with_reducible refine pE ?_|with_reducible refine wP (λ_=>?_)|with_reducible refine aE (λc=>?_) (λc=>?_)
 all_goals refine⟨rfl,Ext.push .., (⟨_,_,_⟩,()),rfl,?_⟩
 all_goals simp only[aU,dL,dD,gE,cK,kH,dF,aY,gD,eR,mN,dS,lQ,eC]at *
 .have:fU enc u=[u % 256 % 256,u / 256 % 256]:=by unfold fU;rw[if_pos c];congr 1;omega;congr 1;omega
  rw[this];exact⟨mI rfl,zN⟩
 .have:fU enc u=[u / 256 % 256,u % 256 % 256]:=by unfold fU;rw[if_neg c];congr 1;omega;congr 1;omega
  rw[this];exact⟨mI rfl,zN⟩
theorem RA{k:IntKind}{s:Sl}{K:Int->aK}{n:Nat}(c:Dy k h s l)(h1:n<l.length)(b:wp P (K (l.getD n 0)) h Q) :
  wp P (bF (bN (aJ s.aD) (eV (n:Int) s.len)) (.load (.one (.int k)) (aB s.aD n) K)) h Q:=by
 have:=mu (j:=(n:Int)) c (by omega) (by omega) (by simpa using b);simpa[hO,eX] using this
theorem Xg{enc:Int}(A:0<bW enc a):aS P (Dx S enc a) [tS] h λ(x:Sl×Unit) z=>Dy .u8 z x.1 (cZ enc a)/\Up h.size x.1:=by
 rw[iK]at A;unfold Dx aS;refine aE (λc=>?_) λc=>?_
 .rw[aU]at c
  refine wP λel=>⟨rfl,Ext.push .., (⟨_,_,_⟩,()),rfl,?_⟩;have:cZ enc a=[dC .u8 (bJ .i64 (-1) a)]:=by
   rw[mm (by omega) (by omega),LW];unfold cZ;rw[if_pos c];congr 1;omega
  rw[this];exact⟨mI rfl,zN⟩
 rw[aY]at c;refine aE (λb=>?_) λb=>?_
 .rw[cK]at b
  refine aM (KO c (by omega)) λx e j g=>⟨rfl,j,x,rfl,?_⟩;have:cZ enc a=dV a:=by unfold cZ;rw[if_neg (by omega),if_pos b]
  show Dy .u8 e x.1 (cZ enc a)/\Up h.size x.1;rw[this];exact g
 rw[dS]at b;refine aE (λd=>?_) λd=>?_
 .rw[cK]at d
  refine wP λel=>⟨rfl,Ext.push .., (⟨_,_,_⟩,()),rfl,?_⟩;have:cZ enc a=[dC .u8 a]:=by
   rw[LW];unfold cZ;rw[if_neg (by omega),if_neg b,if_pos d];congr 1;omega
  rw[this];exact⟨mI rfl,zN⟩
 rw[dS]at d;refine aE (λf=>?_) λf=>?_
 .rw[dD]at f
  have B:aT .i64 55296 (kP .i64 (bJ .i64 a 65536) 1024)=55296+(a-65536) / 1024:=by
   rw[mm (by omega) (by omega),TP (by omega) (by decide) (by omega),EX (by omega) (by omega)]
  have C:aT .i64 56320 (HL .i64 a 1024)=56320+a % 1024:=by
   rw[TT c,EX (by omega) (by omega)]
  rw[B,C];refine pE (aM (Hl (by omega) (by omega)) λx D m ⟨g,_⟩=>pE (aM (Hl (by omega) (by omega)) λy E k ⟨o,_⟩=>?_));have i:=k.ints g;have t:=oS enc (55296+(a-65536) / 1024);have w:=oS enc (56320+a % 1024);refine RA (n:=0) i (by omega) (RA (n:=1) i (by omega) (RA (n:=0) o (by omega) (RA (n:=1) o (by omega) ?_)));refine wP λel=>⟨rfl,(m.trans k).trans (Ext.push ..),(⟨_,_,_⟩,()),rfl,?_⟩;show Dy .u8 _ _ (cZ enc a)/\Up h.size _;have:cZ enc a=fU enc (55296+(a-65536) / 1024)++fU enc (56320+a % 1024):=by
   unfold cZ;rw[if_neg (by omega),if_neg b,if_neg d,if_pos f]
  rw[this];generalize fU enc (55296+(a-65536) / 1024)=u at t;generalize fU enc (56320+a % 1024)=v at w
  match u,v,t,w with
  |[p,q],[r,s],_,_=>exact⟨mI rfl,λa ha=>by cases ha;exact dI m.1 k.1⟩
 .rw[eR]at f
  refine aM (Hl c f) λx e j g=>⟨rfl,j,x,rfl,?_⟩;have:cZ enc a=fU enc a:=by unfold cZ;rw[if_neg (by omega),if_neg b,if_neg d,if_neg (by omega)]
  show Dy .u8 e x.1 (cZ enc a)/\Up h.size x.1;rw[this];exact g
theorem MU(enc a:Int):aS P (zG S enc a) [tI] h λ(x:Int×Unit) i=>x.1=bW enc a:=by
 unfold zG;refine aM (MT enc a) λ⟨x,_⟩ j d c=>?_;have c:x=decide (0<bW enc a):=c;subst c;have m:=Dp enc a;refine aE (λb=>?_) λb=>?_
 .rw[dF]at b
  have:¬0<bW enc a:=of_decide_eq_false b;exact⟨rfl,d,(0,()),rfl,by show 0=bW enc a;omega⟩
 .rw[eC]at b
  have e:0<bW enc a:=of_decide_eq_true b;refine aM (Xg e) λ⟨y,_⟩ k f ⟨g,_⟩=>⟨rfl,d.trans f,(aQ y.len,()),rfl,?_⟩;show aQ y.len=bW enc a;rw[aN,Dy.len g,oQ e]
theorem YP{b m:Sl}{r:bB}{at_:Int}(hb:kW .u8 h b l)(hm:kW .u8 h m r)(h0:0<=at_)(h1:at_<=l.length)(q:r.length<2^62)(p:l.length<2^62) :
  aS P (tG S b at_ m) [tB] h λ(x:Bool×Unit) _=>x.1=AM l at_.toNat r:=by
 have f:=hb.len;have g:=hm.len;unfold tG aS;simp only[aN,f,g];rw[aX (by omega) (by omega)];refine aE (λj=>?_) λj=>?_
 .rw[dL]at j
  refine aC ⟨rfl,Ext.refl _,(_,()),rfl,?_⟩;show Bool.false=_;unfold AM
  symm;rw[decide_eq_false_iff_not]
  intro e;have:=congrArg List.length e;rw[dJ,cV]at this;omega
 rw[gD]at j;refine bL (λ(s:Int×Unit) c=>c=h/\0<=s.1/\s.1<=r.length/\(l.drop at_.toNat).take s.1.toNat=r.take s.1.toNat) (λs _=>r.length-s.1.toNat)
  (λt n c=>c=h/\(t=2/\n=[]/\AM l at_.toNat r=true\/t=1/\n=[.bool Bool.false]/\AM l at_.toNat r=false)) ⟨rfl,by simp,by simp,by simp⟩ ?_ ?_
 .rintro⟨(i:Int),u⟩ c ⟨rfl,i0,i1,ht⟩
  dsimp only at i0 i1 ht⊢;refine aE (λhi=>?_) λhi=>?_
  .rw[aU]at hi
   rw[aX (a:=at_) (by omega) (by omega)];have o:l.getD (at_+i).toNat 0=(l.drop at_.toNat).getD i.toNat 0:=by
    rw[gI,gI,Ao,show(at_+i).toNat=at_.toNat+i.toNat by omega]
   refine f ▸ qW hb (by omega) (by omega) λ_=>g ▸ qW hm i0 (by omega) λ_=>aE (λd=>?_) λd=>?_
   .rw[kH,o]at d
    refine aC ⟨λh=>absurd h (by decide),λ_=>⟨rfl, .inr ⟨rfl,rfl,?_⟩⟩⟩;unfold AM;rw[decide_eq_false_iff_not];intro e;apply d;have:=congrArg (λx=>List.getD x i.toNat 0) e;simp only[gI,F3]at this⊢;rw[if_pos (by omega)]at this;exact this
   .rw[lQ,o]at d
    rw[aX (by omega) (by omega)];refine aC ⟨λ_=>⟨(i+1,()),rfl,⟨rfl,by dsimp only;omega,by dsimp only;omega,?_⟩,by dsimp only;omega⟩,λh=>absurd rfl h⟩;dsimp only;rw[show(i+1).toNat=i.toNat+1 by omega];exact Jx (by rw[cV];omega) (by omega) ht d
  .rw[aY]at hi
   refine aC ⟨λh=>absurd h (by decide),λ_=>⟨rfl, .inl ⟨rfl,rfl,?_⟩⟩⟩;unfold AM;rw[decide_eq_true_eq];rw[show i.toNat=r.length by omega]at ht;rw[ht,fF]
 .rintro t n c ⟨rfl,⟨ht,k,e⟩|⟨ht,k,e⟩⟩
  .exact pL ht () k ⟨rfl,Ext.refl _,(_,()),rfl,by show Bool.true=_;rw[e]⟩
  .exact nP (by omega) (pL ht (Bool.false,()) k ⟨rfl,Ext.refl _,(_,()),rfl,by show Bool.false=_;rw[e]⟩)
theorem gp(enc:Int):aS P (AI S enc) [tB] h λ(x:Bool×Unit) _=>(x.1=true↔eL enc):=by
 unfold AI;refine bZ (eL enc) ?_ λb d e hb=>aC ⟨rfl,e,(b,()),rfl,hb⟩;refine aE (λc=>?_) λc=>?_
 .rw[dD]at c
  exact aC ⟨rfl,Ext.refl _,_,rfl,by rw[gE];unfold eL;omega⟩
 .rw[eR]at c
  exact aC ⟨rfl,Ext.refl _,_,rfl,by unfold eL;exact⟨(λh=>by cases h),(λh=>by omega)⟩⟩
theorem XL(hb:cC l)(h0 : -240<=a)(h1:a<=255):∀i:Nat,i<=3 -> -70000000<=PH a l i/\PH a l i<=70000000:=by
 have b:=hb.at 1;have c:=hb.at 2;have d:=hb.at 3;intro i hi;have:i=0\/i=1\/i=2\/i=3:=by omega
 rcases this with rfl|rfl|rfl|rfl<;>simp only[PH,Nat.reduceAdd]<;>omega
theorem ZI(m:Nat)(b:m<=4):[0,0,192,224,240].getD m (0:Int)=zR m:=by
 have:m=0\/m=1\/m=2\/m=3\/m=4:=by omega
 rcases this with rfl|rfl|rfl|rfl|rfl<;>rfl
theorem TC(m:Nat):0<=zR m/\zR m<=240:=by unfold zR;(repeat' split)<;>omega
theorem gq{b:Sl}{a:Nat}{m:Int}(hb:kW .u8 h b l)(h1:1<=m)(G:m<=4)(hm:a+m<=l.length) :
  aS P (AJ S b (a:Int) m) [tI] h λ(x:Int×Unit) _=>x.1=iP m.toNat (l.drop a):=by
 have D:=hb.len;have A:=hb.bound;have c:cC l:=hb.wf;have F:=c.at a;have E:=TC m.toNat;unfold AJ;refine jG (k:=.i64) [0,0,0,0,0] (by intro x d;simp at d;subst d;exact qF _) (by simp) λz n o1=>?_;refine T7 (l:=[0,0,0,0,0]) [0,0,192,224,240] o1 rfl (by intro x d;rw[eS];simp at d;omega) λj o2 y H=>?_;have o:Ext h j:=gZ.trans n (jU.Hr y (by intro x d;cases d;exact bM _) n.size);refine qW (hb.ext o) (by omega) (by omega) λ_=>sS (ZB (by omega) (by omega)) ?_;have g:∀{K:Int->aK} {Q},wp P (K (zR m.toNat)) j Q->wp P (.load (tI) (aB (Option.some ⟨h.size,0,none⟩) (aZ (bQ m) 1)) K) j Q:=by
  intro K Q q;rw[hO,eX,HV];rw[<-ZI m.toNat (by omega)]at q;exact Gn o2.lO (by simp;omega) q
 refine g ?_;rw[cS,mQ (by omega) (by omega),bY (by omega) (by omega)];have p:l.getD a 0=(l.drop a).getD 0 0:=by rw[uR,F2]
 have C:=(c.drop a).at 0;rw[p];refine bL (λ(s:Int×Int×Unit) f=>Ext h f/\1<=s.2.1/\s.2.1<=m/\s.1=PH ((l.drop a).getD 0 0-zR m.toNat) (l.drop a) (s.2.1-1).toNat) (λs _=>(m-s.2.1).toNat)
  (λt r f=>t=2/\Ext h f/\r=[.int .i64 (iP m.toNat (l.drop a))]) ⟨o,by simp,by dsimp only;omega,rfl⟩ ?_ ?_
 .rintro⟨(x:Int),(i:Int),u⟩ f ⟨e,i0,i1,ha⟩
  dsimp only at i0 i1 ha⊢;refine aE (λhi=>?_) λhi=>?_
  .rw[aU]at hi
   have v:=XL (c.drop a) (a:=(l.drop a).getD 0 0-zR m.toNat) (by omega) (by omega) (i-1).toNat (by omega);rw[<-ha]at v;rw[aX (a:=(a:Int)) (by omega) (by omega)];have B:=c.at ((a:Int)+i).toNat;refine qW (hb.ext e) (by omega) (by omega) λ_=>?_;rw[mQ (by omega) (by omega),DU (by omega) (by omega),aX (a:=x*64) (by omega) (by omega),bY (by omega) (by omega),aX (by omega) (by omega)];refine aC ⟨λ_=>⟨(x*64+l.getD ((a:Int)+i).toNat 0-128,i+1,()),rfl,⟨e,by dsimp only;omega,by dsimp only;omega,?_⟩,by dsimp only;omega⟩,λh=>absurd rfl h⟩;dsimp only;rw[show(i+1-1).toNat=(i-1).toNat+1 by omega];show _=PH _ _ (i-1).toNat*64+(l.drop a).getD ((i-1).toNat+1) 0-128;rw[uR l a ((i-1).toNat+1),show a+((i-1).toNat+1)=((a:Int)+i).toNat by omega,ha]
  .rw[aY]at hi
   refine aC ⟨λh=>absurd h (by decide),λ_=>⟨rfl,e,?_⟩⟩;unfold iP;rw[ha,show(i-1).toNat=m.toNat-1 by omega]
 .rintro t r f ⟨ht,e,w⟩
  exact pL ht (_,()) w (aC ⟨rfl,e,(_,()),rfl,rfl⟩)
theorem WW(l m:bB)(a:Nat):AM l a m=AM (l.drop a) 0 m:=by unfold AM;rw[Ej]
theorem W9{b:Sl}{a:Nat}(hb:kW .u8 h b l)(ha:a<l.length)(hl:l.length<2^62) :
  aS P (vV S b (a:Int)) ki h λ(x:Int×Int×Unit) _=>(x.1,x.2.1)=nM (l.drop a):=by
 have Y:=hb.len;have F:cC l:=hb.wf;have L:=F.drop a;have b0:=F.at a;unfold vV;refine bL (λ(s:Int×Unit) g=>Ext h g/\1<=s.1/\s.1<=5/\s.1<=l.length-a+1/\∀m:Nat,1<=m->(m:Int)<s.1->pB (l.drop a)≠((m:Int),(m:Int))) (λs _=>(5-s.1).toNat)
  (λt n g=>Ext h g/\(t=2/\n=[]/\nM (l.drop a)=(-1-l.getD a 0,1)\/t=1/\n=[.int .i64 (nM (l.drop a)).1, .int .i64 (nM (l.drop a)).2])) ⟨Ext.refl _,by simp,by simp,by dsimp only;omega,λm h1 W=>by dsimp only at W;omega⟩ ?_ ?_
 .rintro⟨(m:Int),u⟩ g ⟨e,m0,m1,m2,v⟩
  dsimp only at m0 m1 m2 v⊢;refine bZ (m<=4/\a+m<=l.length) ?_ λc W R o=>aE (λB=>?_) λB=>?_
  .refine aE (λo=>?_) λo=>?_
   .rw[gE]at o
    refine aC ⟨rfl,Ext.refl _,_,rfl,?_⟩;rw[aX (by omega) (by omega),gE,aN,Y];omega
   .rw[mN]at o
    exact aC ⟨rfl,Ext.refl _,_,rfl,⟨(λh=>by cases h),λh=>by omega⟩⟩
  .obtain⟨q1,q2⟩:=o.1 B
   obtain⟨m,rfl⟩:=CI (show 0<=m by omega);have H:=MW L (m:=m) (by omega) (by omega) (by rw[cV];omega);have p:=e.trans R;refine dB (λt n g=>Ext h g/\(t=0/\n=[]/\¬UQ m (l.drop a)\/t=1/\UQ m (l.drop a)/\n=[.int .i64 (iP m (l.drop a)), .int .i64 m])) ?_ ?_
   .refine aM (gq (hb.ext p) (by omega) (by omega) (by omega)) λ⟨(x:Int),_⟩ h4 r E=>?_
    have E:x=iP (m:Int).toNat (l.drop a):=E;rw[cS]at E;subst E;dsimp only;refine aM (Im _) λs h5 T D=>?_;have D:s.1=decide (iU (iP m (l.drop a))):=D;refine aE (λf=>?_) λf=>?_
    .rw[dF,D]at f
     exact aC ⟨(p.trans r).trans T, .inl ⟨rfl,rfl,λd=>by have:=d.1;simp[this]at f⟩⟩
    rw[eC,D]at f;have I:iU (iP m (l.drop a)):=of_decide_eq_true f;have A:0<=iP m (l.drop a)/\iP m (l.drop a)<=1114111:=by unfold iU at I;omega
    refine aM (KO A.1 A.2) λy X e6 ⟨N,ab⟩=>?_;have q:=((p.trans r).trans T).trans e6;have J:y.1.len=(dV (iP m (l.drop a))).length:=N.len;have hle:(dV (iP m (l.drop a))).length<=4:=by rw[Kj];(repeat' split)<;>omega
    have Z:kW .u8 X ⟨y.1.aD,y.1.len,y.1.len⟩ (dV (iP m (l.drop a))):=⟨⟨N.1,N.2⟩,bM _,by dsimp only;omega,λz k=>by
     rw[wJ];unfold dV at k;generalize iP m (l.drop a)=w at *
     (repeat' split at k)<;>simp at k<;>omega⟩
    have K:aS P (tG S b (a:Int) y.1) [tB] X λ(x:Bool×Unit) _=>x.1=AM (l.drop a) 0 (dV (iP m (l.drop a))):=by
     rw[<-WW];have:=YP (P:=P) (S:=S) (hb.ext q) Z (at_:=(a:Int)) (by omega) (by omega) (by omega) hl;exact this
    refine aM K λz h7 U k=>?_;have k:z.1=AM (l.drop a) 0 (dV (iP m (l.drop a))):=k;refine bZ (UQ m (l.drop a)) ?_ λc h8 V G=>aE (λC=>?_) λC=>?_
    .refine aE (λM=>?_) λM=>?_
     .rw[cK,aN,J]at M
      refine aC ⟨rfl,Ext.refl _,_,rfl,?_⟩;rw[k];exact⟨λh=>⟨I,by omega,h⟩,λh=>h.2.2⟩
     .rw[dS,aN,J]at M
      exact aC ⟨rfl,Ext.refl _,_,rfl,⟨(λh=>by cases h),λh=>by have:=h.2.1;omega⟩⟩
    .exact aC ⟨(q.trans U).trans V, .inr ⟨rfl,G.1 C,rfl⟩⟩
    .exact aC ⟨(q.trans U).trans V, .inl ⟨rfl,rfl,λd=>by rw[G.2 d]at C;cases C⟩⟩
   .rintro t n h4 ⟨r,⟨ht,i,f⟩|⟨ht,d,i⟩⟩
    .refine nP (by omega) (pL ht () i ?_)
     rw[aX (by omega) (by omega)];refine aC ⟨λ_=>⟨((m:Int)+1,()),rfl,⟨r,by dsimp only;omega,by dsimp only;omega,by dsimp only;omega,λj O j2=>?_⟩,by dsimp only;omega⟩,λh=>absurd rfl h⟩;dsimp only at j2;by_cases hj:j=m
     .subst hj;exact λhr=>f (H.2 hr)
     .exact v j O (by omega)
    .refine pL ht (iP m (l.drop a),(m:Int),()) i (aC ⟨λh=>absurd h (by decide),λ_=>⟨r, .inr ⟨rfl,?_⟩⟩⟩)
     rw[Gl L (m:=m) (by omega) (by omega) (H.1 d)]
  .refine aC ⟨λh=>absurd h (by decide),λ_=>⟨e.trans R, .inl ⟨rfl,rfl,?_⟩⟩⟩
   have f:¬(m<=4/\a+m<=l.length):=λh=>by rw[o.2 h]at B;cases B
   rw[L7 L (by rw[cV];omega) λj O j4 jl=>v j O (by rw[cV]at jl;omega),uR,F2]
 .rintro t n g ⟨e,⟨ht,i,hf⟩|⟨ht,i⟩⟩
  .refine pL ht () i (qW (hb.ext e) (by omega) (by omega) λ_=>?_)
   rw[cS,mQ (by omega) (by omega),bY (by omega) (by omega)];exact aC ⟨rfl,e,(-1-l.getD a 0,1,()),rfl,hf.symm⟩
  .exact nP (by omega) (pL ht (_,_,()) i (aC ⟨rfl,e,(_,_,()),rfl,rfl⟩))
theorem SN{enc:Int}{b:Sl}{a:Nat}(hb:kW .u8 h b l)(j:l.length<2^62)(ha:a<=l.length+4) :
  aS P (tH S enc b (a:Int)) [tI] h λ(x:Int×Unit) _=>x.1=if a+2<=l.length then cD enc l a else -1:=by
 have d:=hb.len;have e:cC l:=hb.wf;have g:=e.at a;have i:=e.at (a+1);unfold tH;simp only[aN,d];rw[aX (by omega) (by omega)];refine aE (λf=>?_) λf=>?_
 .rw[dL]at f
  rw[if_neg (by omega)];exact aC ⟨rfl,Ext.refl _,(-1,()),rfl,rfl⟩
 rw[gD]at f;rw[if_pos (by omega),aX (by omega) (by omega)];unfold cD;refine aE (λc=>?_) λc=>?_
 .rw[cK]at c
  rw[if_pos c];refine d ▸ qW hb (by omega) (by omega) λ_=>qW hb (by omega) (by omega) λ_=>?_;rw[cS,show((a:Int)+1).toNat=a+1 by omega,mQ (by omega) (by omega),mQ (by omega) (by omega),DU (by omega) (by omega),aX (by omega) (by omega)];exact aC ⟨rfl,Ext.refl _,(_,()),rfl,rfl⟩
 .rw[dS]at c
  rw[if_neg c];refine d ▸ qW hb (by omega) (by omega) λ_=>qW hb (by omega) (by omega) λ_=>?_;rw[cS,show((a:Int)+1).toNat=a+1 by omega,mQ (by omega) (by omega),mQ (by omega) (by omega),DU (by omega) (by omega),aX (by omega) (by omega)];exact aC ⟨rfl,Ext.refl _,(_,()),rfl,rfl⟩
theorem Y0{enc:Int}{b:Sl}{a:Nat}(hb:kW .u8 h b l)(ha:a<l.length)(w:l.length<2^62) :
  aS P (F7 S enc b (a:Int)) ki h λ(x:Int×Int×Unit) _=>(x.1,x.2.1)=eJ enc (l.drop a):=by
 have H:=hb.len;have j:cC l:=hb.wf;have I:=j.at a;have s:(l.drop a).getD 0 0=l.getD a 0:=by rw[uR,F2]
 have J:=nU (enc:=enc) j a;have K:=nU (enc:=enc) j (a+2);have C:cD enc (l.drop a) 0=cD enc l a:=Oq enc l a;have D:cD enc (l.drop a) 2=cD enc l (a+2):=by unfold cD;rw[uR,uR]
 unfold F7 eJ;refine aE (λd=>?_) λd=>?_
 .rw[cK]at d
  rw[if_pos d];exact aM (W9 hb ha w) λx i n F=>aC ⟨rfl,n,x,rfl,F⟩
 rw[dS]at d;rw[if_neg d];refine aE (λd=>?_) λd=>?_
 .rw[cK]at d
  rw[if_pos d];refine qW hb (by omega) (by omega) λ_=>?_;rw[cS,mQ (by omega) (by omega)];exact aC ⟨rfl,Ext.refl _,(l.getD a 0,1,()),rfl,by dsimp only;rw[s]⟩
 rw[dS]at d;rw[if_neg d];unfold gV;rw[cV,s,C,D];refine aM (SN hb w (by omega)) λ⟨(u:Int),_⟩ g f hu=>?_;have hu:u=if a+2<=l.length then cD enc l a else -1:=hu
 dsimp only;refine aE (λk=>?_) λk=>?_
 .rw[aU]at k
  have g:¬a+2<=l.length:=λh=>by rw[if_pos h]at hu;omega
  rw[if_pos (by omega)];refine qW (hb.ext f) (by omega) (by omega) λ_=>?_;rw[cS,mQ (by omega) (by omega),bY (by omega) (by omega)];exact aC ⟨rfl,f,(_,1,()),rfl,rfl⟩
 rw[aY]at k;have B:a+2<=l.length:=by
  by_cases h:a+2<=l.length
  .exact h
  .rw[if_neg h]at hu;omega
 rw[if_pos B]at hu;subst hu;rw[if_neg (by omega),aX (by omega) (by omega)];refine aM (SN (a:=a+2) (hb.ext f) w (by omega)) λ⟨(v:Int),_⟩ i n e=>?_;have e:v=if a+2+2<=l.length then cD enc l (a+2) else -1:=e
 dsimp only;refine bZ (55296<=cD enc l a/\cD enc l a<56320/\4<=l.length-a/\56320<=cD enc l (a+2)/\cD enc l (a+2)<57344) ?_ λc o y r=>aE (λp=>?_) λp=>?_
 .have m:∀{z:aG} {φ:Prop},¬φ->wp P (.ret 0 [(Value.bool Bool.false)]) z λt G A=>t=0/\Ext z A/\∃b,G=[.bool b]/\(b=true↔φ):=λk=>aC ⟨rfl,Ext.refl _,_,rfl,⟨(λh=>by cases h),λh=>absurd h k⟩⟩
  refine aE (λg=>?_) λg=>?_
  .rw[dD]at g
   refine aE (λi=>?_) λi=>?_
   .rw[aU]at i
    refine aE (λo=>?_) λo=>?_
    .rw[dD]at o
     have hle:a+2+2<=l.length:=by
      by_cases h:a+2+2<=l.length
      .exact h
      .rw[if_neg h]at e;omega
     rw[if_pos hle]at e;refine aC ⟨rfl,Ext.refl _,_,rfl,?_⟩;rw[aU];omega
    .rw[eR]at o
     refine m λq=>?_;rw[if_pos (by omega)]at e;omega
   .rw[aY]at i
    exact m λq=>by omega
  .rw[eR]at g
   exact m λq=>by omega
 .have E:=r.1 p
  rw[if_pos E];rw[if_pos (by omega)]at e;rw[e,bY (a:=cD enc l a) (by omega) (by omega),DU (by omega) (by omega),aX (a:=65536) (by omega) (by omega),aX (by omega) (by omega),bY (by omega) (by omega)];refine aC ⟨rfl,(f.trans n).trans y,(_,4,()),rfl,?_⟩;dsimp only
  congr 1;omega
 .rw[if_neg λq=>by rw[r.2 q]at p;cases p]
  exact aC ⟨rfl,(f.trans n).trans y,(_,2,()),rfl,rfl⟩
theorem UO{enc at_:Int}{b:Sl}(hb:kW .u8 h b l)(u:l.length<2^62):aS P (BU S enc b at_) ki h λ(x:Int×Int×Unit) _=>ka enc l at_ x:=by
 have o:=hb.len;unfold BU;refine aM (gp enc) λc r j e=>?_;have e:c.1=true↔eL enc:=e;refine bZ (¬eL enc\/at_<0\/l.length<=at_) ?_ λc s k g=>aE (λf=>?_) λf=>?_
 .refine aE (λd=>?_) λd=>?_
  .rw[dF]at d
   exact aC ⟨rfl,Ext.refl _,_,rfl,⟨λ_=>.inl (λh=>by rw[e.2 h]at d;cases d),λ_=>rfl⟩⟩
  rw[eC]at d;have d:=e.1 d;refine aE (λe=>?_) λe=>?_
  .rw[aU]at e
   exact aC ⟨rfl,Ext.refl _,_,rfl,⟨λ_=>.inr (.inl e),λ_=>rfl⟩⟩
  .rw[aY]at e
   refine aC ⟨rfl,Ext.refl _,_,rfl,?_⟩;rw[dD,aN,o];exact⟨λh=>.inr (.inr h),λh=>by rcases h with h|h|h;exact absurd d h;omega;exact h⟩
 .exact aC ⟨rfl,j.trans k,(0,0,()),rfl, .inl ⟨g.1 f,rfl,rfl⟩⟩
 .have m:¬(¬eL enc\/at_<0\/l.length<=at_):=λh=>by rw[g.2 h]at f;cases f
  have d:eL enc:=Classical.not_not.1 λh=>m (.inl h);have h0:0<=at_:=by
   by_cases h:at_<0
   .exact absurd (.inr (.inl h)) m
   .omega
  have n:at_<l.length:=by
   by_cases h:(l.length:Int)<=at_
   .exact absurd (.inr (.inr h)) m
   .omega
  rw[eX];have ht:=(hb.ext (j.trans k)).tail (i:=at_.toNat) (by omega);refine sS (jF h0 (by omega)) (aM (Y0 (a:=0) ht (by rw[cV];omega) (by rw[cV];omega)) λx t q p=>aC ⟨rfl,(j.trans k).trans q,x,rfl, .inr ⟨d,h0,n,?_⟩⟩);rw[Ej]at p;exact p
end
end Go.Sw.Codec
