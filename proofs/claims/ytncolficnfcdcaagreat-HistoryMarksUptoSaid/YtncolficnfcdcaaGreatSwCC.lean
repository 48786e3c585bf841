
/- Steps. -/
import Derived.Test.YtncolficnfcdcaaGreatSwFcodec
import Derived.Test.YtncolficnfcdcaaGreatSwU2
import Derived.Test.YtncolficnfcdcaaGreatSwU3
set_option linter.unusedVariables false
set_option linter.unusedSimpArgs false
set_option maxRecDepth 100000
namespace Go.Sw.Codec
section
variable{P:Program}{S:cH}{h:aG}{Q:Nat->bG->aG->Prop}
def bW(enc a:Int):Int:=
 if enc=1 then (if a < -256\/(-129<a/\a<0)\/1114111<a\/(55296<=a/\a<=57343) then 0 else if a<128 then 1 else if a<2048 then 2 else if a<65536 then 3 else 4)
 else if enc=2\/enc=3 then (if a < -256\/1114111<a then 0 else if a<0 then 1 else if a<65536 then 2 else 4)
 else if enc=4 then (if a<0\/255<a then 0 else 1)
 else 0
theorem Dp(enc a:Int):0<=bW enc a:=by
 unfold bW;repeat' split
 all_goals omega
def Bc(S:cH)(enc:Int):Value:=
 if enc=1 then .iface S.nR (.agg #[])
 else if enc=2 then .iface S.iN (.agg #[.int .i64 0])
 else if enc=3 then .iface S.iN (.agg #[.int .i64 1])
 else if enc=4 then .iface S.nT (.agg #[])
 else .nilIface
theorem E1(enc:Int):aS P (xK S enc) [.one .any] h λ(x:Value×Unit) c=>x.1=Bc S enc:=by
 refine Nl (Bc S enc,()) (λQ b=>?_) λ_=>rfl;unfold xK Bc at *;simp only[Qr,Zc,cK];have:=b h (Ext.refl h)
 repeat' split
 all_goals simp_all [Ts.inj,Ty.inj,B.inj]
structure kf(P:Program)(S:cH):Prop where
 eight:∀a,Inv P (.iface S.nR (.agg #[])) S.Cw [.int .i64 a] (rX S () a)
 WE:∀r a,Inv P (.iface S.iN (.agg #[.int .i64 r])) S.Cw [.int .i64 a] (rH S (r,()) a)
 x_:∀a,Inv P (.iface S.nT (.agg #[])) S.Cw [.int .i64 a] (vJ S () a)
theorem DD(a:Int):aS P (rX S () a) [tI] h λ(x:Int×Unit) c=>x.1=bW 1 a:=by
 unfold rX aS
 repeat' first
  |with_reducible refine aC ?_|with_reducible refine yC ?_|with_reducible refine bE ?_|with_reducible refine oD rfl ?_|with_reducible refine gF ?_|with_reducible refine fI ?_|with_reducible refine mP ?_|with_reducible refine tV ?_|with_reducible refine bO ?_
  |with_reducible refine mV ?_|with_reducible refine lW ?_|with_reducible refine pE ?_|with_reducible refine wP (λ_=>?_)|with_reducible refine aE (λb=>?_) (λb=>?_)
 all_goals (refine⟨rfl,Ext.push .., (_,()),rfl,?_⟩;show _=bW 1 a)
 all_goals simp only[aU,dL,dD,gE,cK,kH,dF,aY,gD,eR,mN,dS,lQ,eC]at *
 all_goals (unfold bW;simp only[if_true])
 all_goals first|(rw[if_pos (by omega)];done)|rw[if_neg (by omega)]
 all_goals (repeat' split)<;>omega
theorem vZ(r a enc:Int)(he:enc=2\/enc=3):aS P (rH S (r,()) a) [tI] h λ(x:Int×Unit) c=>x.1=bW enc a:=by
 unfold rH aS
 repeat' first
  |with_reducible refine aC ?_|with_reducible refine yC ?_|with_reducible refine bE ?_|with_reducible refine oD rfl ?_|with_reducible refine gF ?_|with_reducible refine fI ?_|with_reducible refine mP ?_|with_reducible refine tV ?_|with_reducible refine bO ?_
  |with_reducible refine mV ?_|with_reducible refine lW ?_|with_reducible refine pE ?_|with_reducible refine wP (λ_=>?_)|with_reducible refine aE (λb=>?_) (λb=>?_)
 all_goals (refine⟨rfl,Ext.push .., (_,()),rfl,?_⟩;show _=bW enc a)
 all_goals simp only[aU,dL,dD,gE,cK,kH,dF,aY,gD,eR,mN,dS,lQ,eC]at *
 all_goals (unfold bW;rw[if_neg (by omega),if_pos he];(repeat' split)<;>omega)
theorem Il(a:Int):aS P (vJ S () a) [tI] h λ(x:Int×Unit) c=>x.1=bW 4 a:=by
 unfold vJ aS
 repeat' first
  |with_reducible refine aC ?_|with_reducible refine yC ?_|with_reducible refine bE ?_|with_reducible refine oD rfl ?_|with_reducible refine gF ?_|with_reducible refine fI ?_|with_reducible refine mP ?_|with_reducible refine tV ?_|with_reducible refine bO ?_
  |with_reducible refine mV ?_|with_reducible refine lW ?_|with_reducible refine pE ?_|with_reducible refine wP (λ_=>?_)|with_reducible refine aE (λb=>?_) (λb=>?_)
 all_goals (refine⟨rfl,Ext.push .., (_,()),rfl,?_⟩;show _=bW 4 a)
 all_goals simp only[aU,dL,dD,gE,cK,kH,dF,aY,gD,eR,mN,dS,lQ,eC]at *
 all_goals (simp only[bW,Int.reduceEq,if_false,or_self,if_true];(repeat' split)<;>omega)
theorem Hj(M:kf P S)(enc a:Int):aS P (AD S enc a) [tI] h λ(x:Int×Unit) n=>x.1=bW enc a:=by
 unfold AD;refine aM (E1 enc) λx o d m=>?_;have m:x.1=Bc S enc:=m;simp only[m];unfold Bc;by_cases e:enc=1
 .subst e
  simp only[if_true,SV,Qr,isIface,lF,gW,if_false,true_and];refine Am (M.eight a) (DD a) λy k b c=>⟨rfl,d.trans b,(y.1,()),rfl,c⟩
 by_cases f:enc=2
 .subst f
  simp only[if_true,SV,Qr,isIface,lF,gW,if_false,true_and,Int.reduceEq];refine Am (M.WE 0 a) (vZ 0 a 2 (by simp)) λy k b c=>⟨rfl,d.trans b,(y.1,()),rfl,c⟩
 by_cases g:enc=3
 .subst g
  simp only[if_true,SV,Qr,isIface,lF,gW,if_false,true_and,Int.reduceEq];refine Am (M.WE 1 a) (vZ 1 a 3 (by simp)) λy k b c=>⟨rfl,d.trans b,(y.1,()),rfl,c⟩
 by_cases j:enc=4
 .subst j
  simp only[if_true,SV,Qr,isIface,lF,gW,if_false,true_and,Int.reduceEq];refine Am (M.x_ a) (Il a) λy k b c=>⟨rfl,d.trans b,(y.1,()),rfl,c⟩
 .simp only[e,f,g,j,if_false,SV,Qr,isIface,lF,if_true,true_and,Zc]
  refine⟨d,(0,()),rfl,?_⟩;show 0=bW enc a;simp[bW,e,f,g,j]
theorem iK(enc a:Int):0<bW enc a↔(enc=1/\((0<=a/\a<55296)\/(57343<a/\a<=1114111)\/(-256<=a/\a <= -129)))\/((enc=2\/enc=3) /\ -256<=a/\a<=1114111)\/(enc=4/\0<=a/\a<=255):=by
 unfold bW
 (repeat' split)<;>omega
end
section
variable{P:Program}{S:cH}{h:aG}{Q:Nat->bG->aG->Prop}
def dV(a:Int):bB:=
 if a<128 then [a] else if a<2048 then [192+a / 64,128+a % 64] else if a<65536 then [224+a / 4096,128+a / 64 % 64,128+a % 64]
 else [240+a / 262144,128+a / 4096 % 64,128+a / 64 % 64,128+a % 64]
def fU(enc u:Int):bB:=if enc=2 then [u % 256,u / 256] else [u / 256,u % 256]
def cZ(enc a:Int):bB:=
 if a<0 then [-1-a] else if enc=1 then dV a else if enc=4 then [a]
 else if 65536<=a then fU enc (55296+(a-65536) / 1024)++fU enc (56320+a % 1024) else fU enc a
theorem oQ{enc a:Int}(b:0<bW enc a):((cZ enc a).length:Int)=bW enc a:=by
 rw[iK]at b;unfold cZ dV fU bW
 (repeat' split)<;>simp_all<;>omega
theorem oS(enc u:Int):(fU enc u).length=2:=by unfold fU;split<;>rfl
end
section
variable{P:Program}{S:cH}{h:aG}{Q:Nat->bG->aG->Prop}
def marks(M:Int->Int)(i n:Nat):bB:=(List.range' i n).map λ(j:Nat)=>M (j:Int)
theorem Jx{l m:bB}{i:Nat}(b:i<l.length)(hm:i<m.length)(h:l.take i=m.take i)(he:l.getD i 0=m.getD i 0):l.take (i+1)=m.take (i+1):=by
 rw[eN,eN,h];rw[gI,gI,cL b,cL hm]at he;rw[cL b,cL hm];simp at he;rw[he]
end
section
variable{P:Program}{S:cH}{h:aG}{Q:Nat->bG->aG->Prop}
def AM(l:bB)(at_:Nat)(m:bB):Bool:=decide ((l.drop at_).take m.length=m)
theorem yq(l:bB)(a b c:Int):AM l 0 [a,b,c]=decide (3<=l.length/\l.getD 0 0=a/\l.getD 1 0=b/\l.getD 2 0=c):=by
 unfold AM
 match l with
 |[]=>simp
 |[x]=>simp
 |[x,y]=>simp
 |x::y::z::r=>simp
theorem yp(l:bB)(a b:Int):AM l 0 [a,b]=decide (2<=l.length/\l.getD 0 0=a/\l.getD 1 0=b):=by
 unfold AM
 match l with
 |[]=>simp
 |[x]=>simp
 |x::y::r=>simp
theorem Pn{l:bB}(h:l.all (λx=>decide (0<=x/\x<=255))=true):∀x,x∈l->cX .u8 x:=λx b=>wJ.2 (by simpa using F1.1 h x b)
end
section
variable{P:Program}{S:cH}{h:aG}{Q:Nat->bG->aG->Prop}
end
section
variable{P:Program}{S:cH}{h:aG}{Q:Nat->bG->aG->Prop}
variable{a:Int}{l:bB}
theorem Rv{enc:Int}(b:0<bW enc a):(cZ enc a).length=(bW enc a).toNat:=by have:=oQ b;omega
theorem zW(enc a:Int):bW enc a<=4:=by unfold bW;(repeat' split)<;>omega
def fc(n:Nat)(out:Sl)(h:aG)(enc:Int)(l:bB)(a:Int)(x:Sl×Unit)(h':aG):Prop:=bU n .u8 h' x.1 (l++cZ enc a)/\CN out h h' x.1
theorem SK{n:Nat}{out:Sl}(j:bU n .u8 h out l)(g:n<=h.size)(f:0<bW 4 a)(c:l.length+4<=140737488355328) :
  Cp n P (BQ S () out a) [tS] h (fc n out h 4 l a):=by
 have ha:=(iK 4 a).1 f;unfold BQ Cp;refine Jp λm b=>?_;refine HP (l:=l) (j.ext b) (by have:=b.size;omega) (range_u8 _) (by omega) (by omega) λr e k2 o2 k d=>aC ⟨rfl,gZ.trans (b.aP g) k2,(r,()),rfl,?_,CN.pre b ⟨k,d⟩⟩;have:cZ 4 a=[dC .u8 a]:=by rw[BX (by omega) (by omega)];unfold cZ;rw[if_neg (by omega),if_neg (by decide),if_pos rfl]
 show bU n .u8 e r (l++cZ 4 a);rw[this];exact o2
theorem UK{n:Nat}{out:Sl}{r u:Int}{enc:Int}(H:bU n .u8 h out l)(M:n<=h.size)(N:r=0/\enc=2\/r=1/\enc=3)(hu:0<=u)(X:u<65536)(J:l.length+2<=140737488355328) :
  Cp n P (oH S (r,()) out u) [tS] h λ(x:Sl×Unit) d=>bU n .u8 d x.1 (l++fU enc u)/\CN out h d x.1:=by
 unfold oH Cp;dsimp only;refine jG [r] (λx f=>by rw[dE.1 f,eS];omega) (by simp) λe g o1=>?_;refine jG (k:=.u8) [0,0] (by intro x f;simp at f;subst f;exact qF _) (by simp) λK c o2=>?_;have w:=(o1.ext c).lO;refine Gn w (j:=0) (by simp) (Gn w (j:=0) (by simp) (pE ?_));simp only[R1];have D:cX .u8 (dC .u8 u):=range_u8 _;have E:cX .u8 (dC .u8 (wQ .i64 u 8)):=range_u8 _;have v:∀x y,(some (⟨h.size,0,none⟩:Addr))=some x->(some (⟨e.size,0,none⟩:Addr))=some y->y.block≠x.block:=by
  intro x y f O;cases f;cases O;have:=(o1.own.lt (a:=⟨h.size,0,none⟩) rfl).2;dsimp only at this⊢;omega
 have G:n<=e.size:=by have:=g.size;omega
 have q:=g.trans c;have fin:∀(b:aG) (m:bB),bU e.size .u8 b ⟨some ⟨e.size,0,none⟩,2,2⟩ m->m=fU enc u->gZ e.size K b ->
   wp P (.append 1 1 [(Value.int IntKind.u8 0)] out (⟨(bK (Option.some ⟨e.size,0,none⟩) 2 0 1),2,2⟩) λ(A:Sl)=>.ret 0 [(Value.slice A.aD A.len A.cap)]) b
    λt U d=>t=0/\gZ n h d/\∃x:Sl×Unit,U=Ts.inj [tS] x/\bU n .u8 d x.1 (l++fU enc u)/\CN out h d x.1:=by
  intro b m o hm z;rw[eW];have F:gZ n h b:=gZ.trans (q.aP M) (z.mono G);have I:bU n .u8 b out l:=by
   refine(H.ext g).aP λa ha=>?_;have:=(H.own.lt ha).2;have:=g.size;rw[z.2.1 _ (by omega),c.2.1 _ (by omega)]
  refine TY I (by have:=F.1;omega) o.lO (by rw[hm,oS];omega) (by rw[hm,oS];omega) λy Y R o5 T b5=>aC ⟨rfl,gZ.trans F R,(y,()),rfl,by rw[hm]at o5;exact o5,?_⟩;exact CN.pre (gZ.trans q (z.mono g.size)) ⟨T,b5⟩
 rcases N with⟨rfl,rfl⟩|⟨rfl,rfl⟩
 .refine sS (by decide) (Rr o2 (j:=0) (by simp) D λL B p V=>?_)
  refine N8 ((o1.ext c).Hg p v).lO (j:=0) (by simp) rfl (sS (by decide) ?_);refine Rr B (j:=1) (by simp) E λb o C W=>?_;refine fin b _ o ?_ (gZ.trans (jU.Hr p (by intro a ha;cases ha;exact bM _) c.size) (jU.Hr C (by intro a ha;cases ha;exact bM _) (by have:=c.size;omega)));rw[EZ,EZ,x4];unfold fU;rw[if_pos rfl];simp;omega
 .refine sS (by decide) (Rr o2 (j:=1) (by simp) D λL B p V=>?_)
  refine N8 ((o1.ext c).Hg p v).lO (j:=0) (by simp) rfl (sS (by decide) ?_);refine Rr B (j:=0) (by simp) E λb o C W=>?_;refine fin b _ o ?_ (gZ.trans (jU.Hr p (by intro a ha;cases ha;exact bM _) c.size) (jU.Hr C (by intro a ha;cases ha;exact bM _) (by have:=c.size;omega)));rw[EZ,EZ,x4];unfold fU;rw[if_neg (by decide)];simp;omega
theorem GS{n:Nat}{out:Sl}{r:Int}{enc:Int}(u:bU n .u8 h out l)(o:n<=h.size)(p:r=0/\enc=2\/r=1/\enc=3)(F:0<bW enc a)(A:l.length+4<=140737488355328) :
  Cp n P (yQ S (r,()) out a) [tS] h (fc n out h enc l a):=by
 have ha:=(iK enc a).1 F;have v:cX .i64 r:=by rw[eS];omega
 unfold yQ Cp;dsimp only;refine jG [r] (λx q=>by rw[dE.1 q];exact v) (by simp) λD c o1=>?_;have g:n<=D.size:=by have:=c.size;omega
 have k:=u.ext c;refine aE (λf=>?_) λf=>?_
 .rw[aU]at f
  refine HP k g (range_u8 _) (by omega) (by omega) λy e k2 o2 I B=>aC ⟨rfl,gZ.trans (c.aP o) k2,(y,()),rfl,?_,CN.pre c ⟨I,B⟩⟩;have:cZ enc a=[dC .u8 (bJ .i64 (-1) a)]:=by
   rw[bY (by omega) (by omega),BX (by omega) (by omega)];unfold cZ;rw[if_pos f]
  show bU n .u8 e y (l++cZ enc a);rw[this];exact o2
 rw[aY]at f;refine aE (λd=>?_) λd=>?_
 .rw[aU]at d
  refine Jr o1.lO (Ow (UK k g p f d (by omega)) λy e k2 ⟨o2,m⟩=>aC ⟨rfl,gZ.trans (c.aP o) k2,y,rfl,?_,CN.pre c m⟩);have:cZ enc a=fU enc a:=by unfold cZ;rw[if_neg (by omega),if_neg (by omega),if_neg (by omega),if_neg (by omega)]
  show bU n .u8 e y.1 (l++cZ enc a);rw[this];exact o2
 rw[aY]at d;refine Jr o1.lO (Jr o1.lO (pE ?_));have v1:NX .i64 55296 (wQ .i64 (bJ .i64 a 65536) 10)=55296+(a-65536) / 1024:=by
  rw[bY (by omega) (by omega),xy];exact Gm 10 (by decide) (by decide) (by decide) (by omega) (by simp;omega) (by decide)
 have v2:NX .i64 56320 (uU .i64 a 1023)=56320+a % 1024:=by
  rw[Qc];exact Gm 10 (by decide) (by decide) (by decide) (by omega) (by simp;omega) (by decide)
 rw[v1,v2];refine Ow (UK k g p (by omega) (by omega) (by omega)) λy e k2 ⟨o2,m⟩=>?_;have w:bU h.size .i64 e ⟨some ⟨h.size,0,none⟩,1,1⟩ [r]:=by
  refine bU.Hg (t:=out) o1 m.Hg λx b q hb=>?_;cases q;have:=(u.own.lt hb).2;dsimp only;omega
 refine N8 (j:=0) w.lO (by simp) rfl ?_;refine Ow (UK o2 (by have:=k2.1;omega) p (by omega) (by omega) (by rw[bP,oS];omega)) λz E G ⟨H,C⟩=>aC ⟨rfl,gZ.trans (gZ.trans (c.aP o) k2) G,z,rfl,?_,CN.pre c (m.trans C)⟩;have:cZ enc a=fU enc (55296+(a-65536) / 1024)++fU enc (56320+a % 1024):=by
  unfold cZ;rw[if_neg (by omega),if_neg (by omega),if_neg (by omega),if_pos (by omega)]
 show bU n .u8 E z.1 (l++cZ enc a);rw[this,<-dW];exact H
theorem UT(b:0<bW 1 a)(h0:0<=a):((dV a).length:Int)=bW 1 a:=by
 have:=oQ b;unfold cZ at this;rw[if_neg (by omega),if_pos rfl]at this;exact this
theorem Xo(c:0<bW 1 a)(h0:0<=a)(i:Int)(h1:0<=i)(b:i<=bW 1 a-2):(dV a).getD (bW 1 a-1-i).toNat 0=128+wQ .i64 a (6*i) % 64:=by
 have f:=zW 1 a;have e:=(iK 1 a).1 c;have d:bW 1 a=if a<128 then 1 else if a<2048 then 2 else if a<65536 then 3 else 4:=by
  unfold bW;rw[if_pos rfl,if_neg (by omega)]
 rw[d]at b⊢;unfold dV;by_cases c1:a<128
 .rw[if_pos c1]at b;omega
 rw[if_neg c1]at b⊢;rw[if_neg c1];by_cases c2:a<2048
 .rw[if_pos c2]at b⊢
  rw[if_pos c2];obtain rfl:i=0:=by omega
  simp[um]
 rw[if_neg c2]at b⊢;rw[if_neg c2];by_cases c3:a<65536
 .rw[if_pos c3]at b⊢
  rw[if_pos c3];have:i=0\/i=1:=by omega
  rcases this with rfl|rfl
  .simp[um]
  .simp[uo]
 rw[if_neg c3]at b⊢;rw[if_neg c3];have:i=0\/i=1\/i=2:=by omega
 rcases this with rfl|rfl|rfl
 .simp[um]
 .simp[uo]
 .simp[mg]
theorem SI{n:Nat}{out:Sl}(ho:bU n .u8 h out l)(R:n<=h.size)(N:0<bW 1 a)(al:l.length+4<=140737488355328) :
  Cp n P (BP S () out a) [tS] h (fc n out h 1 l a):=by
 have ha:=(iK 1 a).1 N;have hle:=zW 1 a;unfold BP Cp;refine Jp λh1 e1=>jg (aM (DD a) λx M e2 e=>?_);have e:x.1=bW 1 a:=e;rw[e];have c:=e1.trans e2;have q:=ho.ext c;have J:n<=M.size:=by have:=c.size;omega
 refine aE (λm=>?_) λm=>?_
 .rw[aU]at m
  refine HP q J (range_u8 _) (by omega) (by omega) λy B U A W L=>aC ⟨rfl,gZ.trans (c.aP R) U,(y,()),rfl,?_,CN.pre c ⟨W,L⟩⟩;have:cZ 1 a=[dC .u8 (bJ .i64 (-1) a)]:=by
   rw[bY (by omega) (by omega),BX (by omega) (by omega)];unfold cZ;rw[if_pos m]
  show bU n .u8 B y (l++cZ 1 a);rw[this];exact A
 rw[aY]at m;have F:bW 1 a=if a<128 then 1 else if a<2048 then 2 else if a<65536 then 3 else 4:=by
  unfold bW;rw[if_pos rfl,if_neg (by omega)]
 have w:cZ 1 a=dV a:=by unfold cZ;rw[if_neg (by omega),if_pos rfl]
 refine aE (λj=>?_) λj=>?_
 .rw[cK]at j
  refine HP q J (range_u8 _) (by omega) (by omega) λy B U A W L=>aC ⟨rfl,gZ.trans (c.aP R) U,(y,()),rfl,?_,CN.pre c ⟨W,L⟩⟩;have d:a<128:=by rw[j]at F;(repeat' split at F)<;>omega
  have:cZ 1 a=[dC .u8 a]:=by rw[w,BX (by omega) (by omega)];unfold dV;rw[if_pos d]
  show bU n .u8 B y (l++cZ 1 a);rw[this];exact A
 rw[dS]at j;have d:¬a<128:=λI=>j (by rw[F,if_pos I]);have hlen:=UT N m;refine jG (k:=.u8) [0,0,0,0,0] (Pn rfl) (by simp) λB X A=>?_;refine T7 (l:=[0,0,0,0,0]) [0,0,192,224,240] A rfl (Pn rfl) λC o4 u4 z4=>?_;have p:Ext M C:=gZ.trans X (jU.Hr u4 (by intro x e;cases e;exact bM _) X.size);have Z:=q.ext p;have Y:n<=C.size:=by have:=p.size;omega
 have G:=c.trans p;refine sS (ZB (by omega) (by omega)) ?_;have E:∀{K:Int->aK} {Q},wp P (K ([0,0,192,224,240].getD (bW 1 a).toNat 0)) C Q->wp P (.load (.one (.int .u8)) (aB (Option.some ⟨M.size,0,none⟩) (aZ (bQ (bW 1 a)) 1)) K) C Q:=by
  intro K Q hk;rw[hO,eX,HV];exact Gn o4.lO (by simp;omega) hk
 refine E ?_;have hmul:qV .i64 6 (bJ .i64 (bW 1 a) 1)=6*(bW 1 a-1):=by
  rw[bY (by omega) (by omega),DU (by omega) (by omega)]
 rw[hmul];refine sS (dF.2 (aY.2 (by omega))) ?_;have O:NX .u8 ([0,0,192,224,240].getD (bW 1 a).toNat 0) (dC .u8 (wQ .i64 a (6*(bW 1 a-1))))=(dV a).getD 0 0:=by
  rw[F];unfold dV;rw[if_neg d,if_neg d];by_cases c2:a<2048
  .rw[if_pos c2,if_pos c2]
   have:wQ .i64 a (6*(2-1))=a / 64:=uo a;rw[this,BX (by omega) (by omega)];exact Ji 6 (by decide) (by decide) (by decide) (by omega) (by simp;omega) (by decide)
  rw[if_neg c2,if_neg c2];by_cases c3:a<65536
  .rw[if_pos c3,if_pos c3]
   have:wQ .i64 a (6*(3-1))=a / 4096:=mg a;rw[this,BX (by omega) (by omega)];exact Ji 4 (by decide) (by decide) (by decide) (by omega) (by simp;omega) (by decide)
  rw[if_neg c3,if_neg c3];have:wQ .i64 a (6*(4-1))=a / 262144:=xz a;rw[this,BX (by omega) (by omega)];exact Ji 4 (by decide) (by decide) (by decide) (by omega) (by simp;omega) (by decide)
 rw[O];have v:0<(dV a).length:=by omega
 have D:∀x,x∈dV a->cX .u8 x:=by
  intro x e;rw[wJ];unfold dV at e
  (repeat' split at e)<;>simp at e<;>omega
 have H:∀i,cX .u8 ((dV a).getD i 0):=by
  intro i;rw[gI];cases hi:(dV a)[i]? with
  |none=>exact qF _
  |some x=>exact D x (eM hi)
 refine HP Z Y (H 0) (by omega) (by omega) λy h5 k5 o5 u5 b5=>?_;have ab:=gZ.trans (G.aP R) k5;refine bL (λ(s:Sl×Int×Unit) f=>gZ n h f /\ -1<=s.2.1/\s.2.1<=bW 1 a-2/\bU n .u8 f s.1 (l++(dV a).take (bW 1 a-1-s.2.1).toNat)/\CN out h f s.1) (λs _=>(s.2.1+1).toNat)
  (λt vs f=>t=2/\∃x:Sl×Unit,vs=Ts.inj [tS] x/\gZ n h f/\bU n .u8 f x.1 (l++dV a)/\CN out h f x.1) ⟨ab,?_,?_,?_,CN.pre G ⟨u5,b5⟩⟩ ?_ ?_
 .rw[bY (by omega) (by omega)];dsimp only;omega
 .rw[bY (by omega) (by omega)];dsimp only;omega
 .rw[bY (by omega) (by omega),show(bW 1 a-1-(bW 1 a-2)).toNat=1 by omega]
  have:(dV a).take 1=[(dV a).getD 0 0]:=by
   match hm:dV a with
   |[]=>rw[hm]at v;simp at v
   |z::r=>rfl
  rw[this];exact o5
 .rintro⟨s,(i:Int),u⟩ f ⟨k,i0,i1,o,g⟩
  dsimp only at i0 i1 o⊢;refine aE (λhi=>?_) λhi=>?_
  .rw[dD]at hi
   rw[DU (by omega) (by omega)];refine sS (dF.2 (aY.2 (by omega))) ?_;have T:NX .u8 128 (uU .u8 (dC .u8 (wQ .i64 a (6*i))) 63)=(dV a).getD (bW 1 a-1-i).toNat 0:=by
    rw[Xo N m i hi i1,EZ,VM (by omega) (by omega)];have:=Ji (a:=128) (b:=wQ .i64 a (6*i) % 256 % 64) 6 (by decide) (by decide) (by decide) (by omega) (by simp;omega) (by decide);rw[this];omega
   rw[T];have I:((dV a).take (bW 1 a-1-i).toNat).length<=3:=by rw[dJ];omega
   refine HP o (by have:=k.1;omega) (H _) (by rw[bP];omega) (by rw[bP];omega) λz h6 V o6 u6 b6=>?_;rw[bY (by omega) (by omega)];refine aC ⟨λ_=>⟨(z,i-1,()),rfl,⟨gZ.trans k V,by dsimp only;omega,by dsimp only;omega,?_,g.trans ⟨u6,b6⟩⟩,by dsimp only;omega⟩,λh=>absurd rfl h⟩;dsimp only;rw[show(bW 1 a-1-(i-1)).toNat=(bW 1 a-1-i).toNat+1 by omega];have:(dV a).take ((bW 1 a-1-i).toNat+1)=(dV a).take (bW 1 a-1-i).toNat++[(dV a).getD (bW 1 a-1-i).toNat 0]:=by
    rw[eN,gI,cL (by omega)];rfl
   rw[this,<-dW];exact o6
  .rw[eR]at hi
   refine aC ⟨λh=>absurd h (by decide),λ_=>⟨rfl,(s,()),rfl,k,?_,g⟩⟩;rw[iW (by omega)]at o;exact o
 .rintro t vs h6 ⟨ht,x,T,V,o6,g6⟩
  refine pL ht x T (aC ⟨rfl,V,x,rfl,?_,g6⟩);rw[w];exact o6
end
section
variable{P:Program}{S:cH}{h:aG}{Q:Nat->bG->aG->Prop}
variable{a:Int}{l:bB}{i:Nat}
def eL(enc:Int):Prop:=1<=enc/\enc<=4
theorem KQ{enc:Int}(he:eL enc):isIface (Bc S enc)=true/\lF (Bc S enc)=false:=by
 unfold eL at he;have:enc=1\/enc=2\/enc=3\/enc=4:=by omega
 rcases this with rfl|rfl|rfl|rfl<;>exact⟨rfl,rfl⟩
theorem GU{enc:Int}(he:¬eL enc):Bc S enc = .nilIface:=by
 unfold eL at he;unfold Bc;rw[if_neg (by omega),if_neg (by omega),if_neg (by omega),if_neg (by omega)]
structure kB(P:Program)(S:cH):Prop where
 bw:∀a,Inv P (.iface S.nR (.agg #[])) S.Cw [.int .i64 a] (rX S () a)
 Ru:∀r a,Inv P (.iface S.iN (.agg #[.int .i64 r])) S.Cw [.int .i64 a] (rH S (r,()) a)
 bu:∀a,Inv P (.iface S.nT (.agg #[])) S.Cw [.int .i64 a] (vJ S () a)
 xk:∀(s:Sl) a,Inv P (.iface S.nR (.agg #[])) S.PE [.slice s.aD s.len s.cap, .int .i64 a] (BP S () s a)
 a_:∀r (s:Sl) a,Inv P (.iface S.iN (.agg #[.int .i64 r])) S.PE [.slice s.aD s.len s.cap, .int .i64 a] (yQ S (r,()) s a)
 Di:∀(s:Sl) a,Inv P (.iface S.nT (.agg #[])) S.PE [.slice s.aD s.len s.cap, .int .i64 a] (BQ S () s a)
 nM:∀(s:Sl),Inv P (.iface S.nR (.agg #[])) S.Cf [.slice s.aD s.len s.cap] (yM S () s)
 gV:∀r (s:Sl),Inv P (.iface S.iN (.agg #[.int .i64 r])) S.Cf [.slice s.aD s.len s.cap] (uB S (r,()) s)
 Zo:∀(s:Sl),Inv P (.iface S.nT (.agg #[])) S.Cf [.slice s.aD s.len s.cap] (yN S () s)
 xf:∀enc,eL enc->VJ P (.func (.method S.Cf) #[Bc S enc] #[])
theorem rO{enc:Int}(he:eL enc):enc=1\/enc=2\/enc=3\/enc=4:=by unfold eL at he;omega
theorem rn(M:kB P S){enc:Int}(he:eL enc){K:Int×Unit->aK}(b:∀(x:Int×Unit) c,Ext h c->x.1=bW enc a->wp P (K x) c Q) :
  wp P (.invoke (Bc S enc) S.Cw [.int .i64 a] [tI] K) h Q:=by
 rcases rO he with rfl|rfl|rfl|rfl
 .exact Am (M.bw a) (DD a) b
 .exact Am (M.Ru 0 a) (vZ 0 a 2 (.inl rfl)) b
 .exact Am (M.Ru 1 a) (vZ 1 a 3 (.inr rfl)) b
 .exact Am (M.bu a) (Il a) b
theorem wx(M:kB P S){n:Nat}{enc:Int}(he:eL enc){out:Sl}(f:bU n .u8 h out l)(e:n<=h.size)(c:0<bW enc a)(b:l.length+4<=140737488355328)
  {K:Sl×Unit->aK} (d:∀(x:Sl×Unit) g,gZ n h g->fc n out h enc l a x g->wp P (K x) g Q) :
  wp P (.invoke (Bc S enc) S.PE [.slice out.aD out.len out.cap, .int .i64 a] [tS] K) h Q:=by
 rcases rO he with rfl|rfl|rfl|rfl
 .exact Ma (M.xk out a) (SI f e c b) d
 .exact Ma (M.a_ 0 out a) (GS f e (.inl ⟨rfl,rfl⟩) c b) d
 .exact Ma (M.a_ 1 out a) (GS f e (.inr ⟨rfl,rfl⟩) c b) d
 .exact Ma (M.Di out a) (SK f e c b) d
def ez(enc:Int)(l:bB)(b:bB)(at_ e:Int):Prop:=
 (¬eL enc/\b=[]/\at_=0/\e=10) \/
 (eL enc/\(∃i:Nat,i<l.length/\(∀a,a∈l.take i->0<bW enc a)/\¬0<bW enc (l.getD i 0)/\b=[]/\at_=i/\e=11)) \/
 (eL enc/\(∀a,a∈l->0<bW enc a)/\b=l.flatMap (cZ enc)/\at_=0/\e=0)
theorem G7{j:Nat}(hi:i<j)(b:i<l.length):l.getD i 0∈l.take j:=by
 rw[gI,cL b];exact eM (i:=i) (by rw[F3,if_pos hi];exact cL b)
theorem Tc(b:i<l.length):l.getD i 0∈l:=by
 rw[gI,cL b];exact CK b
theorem ez.fn{enc:Int}{b o:bB}{p t e e':Int}(h:ez enc l b p e)(h':ez enc l o t e'):b=o/\p=t/\e=e':=by
 rcases h with⟨f,rfl,rfl,rfl⟩|⟨f,i,hi,k,q,rfl,rfl,rfl⟩|⟨f,k,rfl,rfl,rfl⟩<;>rcases h' with⟨c,rfl,rfl,rfl⟩|⟨c,n,j,d,g,rfl,rfl,rfl⟩|⟨c,d,rfl,rfl,rfl⟩
 all_goals first|exact absurd c f|exact absurd f c|skip
 .exact⟨rfl,rfl,rfl⟩
 .have:i=n:=by
   by_cases r:i<n
   .exact absurd (d _ (G7 r hi)) q
   .by_cases m:n<i
    .exact absurd (k _ (G7 m j)) g
    .omega
  subst this;exact⟨rfl,rfl,rfl⟩
 .exact absurd (d _ (Tc hi)) q
 .exact absurd (k _ (Tc j)) g
 .exact⟨rfl,rfl,rfl⟩
def tri:List Ty:=[tS, tI, tI]
def ew(n:Nat)(enc:Int)(l:bB)(x:Sl×Int×Int×Unit)(h':aG):Prop:=∃b,bU n .u8 h' x.1 b/\ez enc l b x.2.1 x.2.2.1
theorem Xy{enc:Int}(hi:i<l.length):(l.take (i+1)).flatMap (cZ enc)=(l.take i).flatMap (cZ enc)++cZ enc (l.getD i 0):=by
 rw[eN,gX,gI,cL hi];simp
theorem Pb(hi:i<l.length){p:Int->Prop}(h:∀a,a∈l.take i->p a)(b:p (l.getD i 0)):∀a,a∈l.take (i+1)->p a:=by
 intro a ha;rw[eN,cL hi,dH]at ha;rcases ha with ha|ha
 .exact h a ha
 .simp at ha;subst ha
  rw[gI,cL hi]at b;exact b
theorem gL{enc:Int}:∀{l:bB},(∀a,a∈l->0<bW enc a)->(l.flatMap (cZ enc)).length<=4*l.length:=by
 intro l
 induction l with
 |nil=>intro _;simp
 |cons a l c=>
  intro h;have d:=c λb hb=>h b (eK _ hb);have e:=Rv (h a (eO ..));have f:=zW enc a;simp only[gB,bP,fK];omega
theorem YK(M:kB P S){enc:Int}{s:Sl}(w:kW .i64 h s l)(F:l.length<=1099511627776):aS P (rC S enc s) tri h (ew h.size enc l):=by
 have j:=w.len;unfold rC;refine aM (E1 enc) λc C q m=>?_;have m:c.1=Bc S enc:=m;rw[m];by_cases d:¬eL enc
 .rw[GU d]
  exact sS rfl (mV (aC ⟨rfl,q,(⟨none,0,0⟩,0,10,()),rfl,[],bU.nil .., .inl ⟨d,rfl,rfl,rfl⟩⟩))
 have d:=Classical.not_not.1 d;obtain⟨k1,k2⟩:=KQ (S:=S) d;rw[k1,k2];refine sS rfl (lW ?_);refine bL (λ(s:Sl×Int×Unit) e=>gZ h.size h e/\0<=s.2.1/\s.2.1<=l.length/\(∀a,a∈l.take s.2.1.toNat->0<bW enc a)/\bU h.size .u8 e s.1 ((l.take s.2.1.toNat).flatMap (cZ enc))) (λs _=>l.length-s.2.1.toNat)
  (λt p e=>gZ h.size h e/\(t=2/\(∃x:Sl×Unit,p=Ts.inj [tS] x/\(∀a,a∈l->0<bW enc a)/\bU h.size .u8 e x.1 (l.flatMap (cZ enc))) \/
   t=1/\∃i:Nat,p=[.slice none 0 0, .int .i64 i, .int .i64 11]/\i<l.length/\(∀a,a∈l.take i->0<bW enc a)/\¬0<bW enc (l.getD i 0))) ⟨q,by simp,by simp,by simp,bU.nil ..⟩ ?_ ?_
 .rintro⟨out,(i:Int),u⟩ e ⟨k,i0,i1,b,o⟩
  dsimp only at i0 i1 b o⊢;refine aE (λhi=>?_) λhi=>?_
  .rw[aU,aN,j]at hi
   refine qW (w.ext k) i0 (by omega) λ_=>rn M d λx D g z=>aE (λf=>?_) λf=>?_
   .rw[cK,z]at f
    refine aC ⟨λh=>absurd h (by decide),λ_=>⟨gZ.trans k (g.aP k.1), .inr ⟨rfl,i.toNat,?_,by omega,b,by omega⟩⟩⟩;rw[Int.toNat_of_nonneg i0]
   .rw[dS,z]at f
    have v:0<bW enc (l.getD i.toNat 0):=by have:=Dp enc (l.getD i.toNat 0);omega
    have r:=gL b;rw[dJ]at r;refine wx M d (o.ext g) (by have:=k.1;have:=g.1;omega) v (by omega) λy E A ⟨B,_⟩=>?_;rw[aX (by omega) (by omega)];refine aC ⟨λ_=>⟨(y.1,i+1,()),rfl,⟨gZ.trans (gZ.trans k (g.aP k.1)) A,by dsimp only;omega,by dsimp only;omega,?_,?_⟩,by dsimp only;omega⟩,λh=>absurd rfl h⟩
    .dsimp only;rw[show(i+1).toNat=i.toNat+1 by omega];exact Pb (by omega) b v
    .dsimp only;rw[show(i+1).toNat=i.toNat+1 by omega,Xy (by omega)];exact B
  .rw[aY,aN,j]at hi
   rw[iW (by omega)]at b o;exact aC ⟨λh=>absurd h (by decide),λ_=>⟨k, .inl ⟨rfl,(out,()),rfl,b,o⟩⟩⟩
 .rintro t p e ⟨k,⟨ht,x,n,b,o⟩|⟨ht,i,n,hi,b,f⟩⟩
  .exact pL ht x n (aC ⟨rfl,k,(x.1,0,0,()),rfl,_,o, .inr (.inr ⟨d,b,rfl,rfl,rfl⟩)⟩)
  .exact nP (by omega) (pL ht (⟨none,0,0⟩,(i:Int),11,()) n (aC ⟨rfl,k,(⟨none,0,0⟩,(i:Int),11,()),rfl,[],bU.nil .., .inr (.inl ⟨d,i,hi,b,f,rfl,rfl,rfl⟩)⟩))
end
section
variable{l:bB}{i:Nat}{a:Int}
def eI(c:Int):Int×Int×Int:=
 if c<128 then (1,0,0) else if c<194 then (0,0,0) else if c<224 then (2,128,191) else if c=224 then (3,160,191) else if c=237 then (3,128,159)
 else if c<240 then (3,128,191) else if c=240 then (4,144,191) else if c<244 then (4,128,191) else if c=244 then (4,128,143) else (0,0,0)
def pY(x:Int):Prop:=128<=x/\x<=191
instance (x:Int):Decidable (pY x):=inferInstanceAs (Decidable (_/\_))
def Dl(b0 b1 b2 b3:Int):Int×Int:=
 if (eI b0).1<2 then ((eI b0).1,(eI b0).1)
 else if ¬((eI b0).2.1<=b1/\b1<=(eI b0).2.2) then (1,(eI b0).1)
 else if (eI b0).1=2\/¬pY b2 then (2,(eI b0).1)
 else if (eI b0).1=3\/¬pY b3 then (3,(eI b0).1)
 else (4,(eI b0).1)
def pB(l:bB):Int×Int:=Dl (l.getD 0 0) (l.getD 1 0) (l.getD 2 0) (l.getD 3 0)
def De(n b0:Int):Int:=if n=2 then b0 % 32 else if n=3 then b0 % 16 else if n=4 then b0 % 8 else b0
def LO(a:Int)(l:bB):Nat->Int
 |0=>a
 |i+1=>LO a l i*64+l.getD (i+1) 0 % 64
def nM(l:bB):Int×Int:=
 if (pB l).2=0\/(pB l).1<(pB l).2 then (-1-l.getD 0 0,1) else (LO (De (pB l).2 (l.getD 0 0)) l ((pB l).2-1).toNat,(pB l).2)
def cD(enc:Int)(l:bB)(i:Nat):Int:=if enc=2 then l.getD i 0+256*l.getD (i+1) 0 else 256*l.getD i 0+l.getD (i+1) 0
def gV(enc:Int)(l:bB):Int×Int:=
 if l.length=1 then (-1-l.getD 0 0,1)
 else if 55296<=cD enc l 0/\cD enc l 0<56320/\4<=l.length/\56320<=cD enc l 2/\cD enc l 2<57344 then (65536+(cD enc l 0-55296)*1024+(cD enc l 2-56320),4)
 else (cD enc l 0,2)
def eJ(enc:Int)(l:bB):Int×Int:=if enc=1 then nM l else if enc=4 then (l.getD 0 0,1) else gV enc l
def cC(l:bB):Prop:=∀x,x∈l->cX .u8 x
theorem cC.at(h:cC l)(i:Nat):0<=l.getD i 0/\l.getD i 0<=255:=by
 rw[gI];cases hi:l[i]? with
 |none=>exact⟨by decide,by decide⟩
 |some x=>exact wJ.1 (h x (eM hi))
theorem cC.drop{l:bB}(h:cC l)(i:Nat):cC (l.drop i):=λx b=>h x (BD b)
theorem cC.take{l:bB}(h:cC l)(i:Nat):cC (l.take i):=λx b=>h x (rU b)
theorem uR(l:bB)(a i:Nat):(l.drop a).getD i 0=l.getD (a+i) 0:=by
 rw[gI,gI,Ao]
theorem HA(h:l.getD i 0≠0):i<l.length:=by
 by_cases b:i<l.length
 .exact b
 .rw[gI,JM (by omega)]at h;exact absurd rfl h
theorem Bb(c:Int)(h0:0<=c)(h1:c<=255):0<=(eI c).1/\(eI c).1<=4/\((eI c).1<2\/128<=(eI c).2.1):=by
 unfold eI;(repeat' split)<;>simp
theorem Jo(b c d e:Int)(h0:0<=b)(h1:b<=255):(Dl b c d e).2=(eI b).1/\(Dl b c d e).1<=(Dl b c d e).2/\0<=(Dl b c d e).1:=by
 have:=Bb b h0 h1;unfold Dl;generalize(eI b).1=n at *;generalize(eI b).2.1=lo at *;generalize(eI b).2.2=hi at *
 (repeat' split)<;>simp<;>omega
theorem aj{b c d e:Int}(f:2<=(Dl b c d e).2):(2<=(Dl b c d e).1->128<=c)/\(3<=(Dl b c d e).1->128<=d)/\(4<=(Dl b c d e).1->128<=e)/\1<=(Dl b c d e).1:=by
 have hb:(eI b).1<2\/128<=(eI b).2.1:=by unfold eI;(repeat' split)<;>simp
 unfold Dl pY at *;generalize(eI b).1=n at *;generalize(eI b).2.1=lo at *;generalize(eI b).2.2=hi at *
 (repeat' split at f)<;>(repeat' split)<;>simp at *<;>omega
theorem Rn(k:0<l.length)(hb:cC l):(pB l).1<=l.length\/(pB l).2<2:=by
 by_cases f:2<=(pB l).2
 .left
  unfold pB at *;obtain⟨c,d,e,j⟩:=aj f;have b:=hb.at 0;have hle:=Jo (l.getD 0 0) (l.getD 1 0) (l.getD 2 0) (l.getD 3 0) b.1 b.2;have g:=Bb (l.getD 0 0) b.1 b.2;generalize m:Dl (l.getD 0 0) (l.getD 1 0) (l.getD 2 0) (l.getD 3 0)=r at *;have k1:2<=r.1->1<l.length:=λh=>HA (by have:=c h;omega);have k2:3<=r.1->2<l.length:=λh=>HA (by have:=d h;omega);have n:4<=r.1->3<l.length:=λh=>HA (by have:=e h;omega);omega
 .right;omega
theorem S6(c:0<l.length)(hb:cC l):1<=(nM l).2/\(nM l).2<=4/\(nM l).2<=l.length:=by
 have b:=hb.at 0;have hle:=Jo (l.getD 0 0) (l.getD 1 0) (l.getD 2 0) (l.getD 3 0) b.1 b.2;have e:=Bb (l.getD 0 0) b.1 b.2;have f:=Rn c hb;unfold nM;have d:pB l=Dl (l.getD 0 0) (l.getD 1 0) (l.getD 2 0) (l.getD 3 0):=rfl;rw[<-d]at hle;split
 .simp;omega
 .dsimp only;omega
theorem Qw{enc:Int}(b:0<l.length):1<=(gV enc l).2/\(gV enc l).2<=4/\(gV enc l).2<=l.length:=by
 unfold gV;(repeat' split)<;>simp<;>omega
theorem jM{enc:Int}(b:0<l.length)(hb:cC l):1<=(eJ enc l).2/\(eJ enc l).2<=4/\(eJ enc l).2<=l.length:=by
 unfold eJ
 (repeat' split)
 .exact S6 b hb
 .simp;omega
 .exact Qw b
theorem Vy(h0:0<=a)(h1:a<256):∀i:Nat,0<=LO a l i/\LO a l i<256*64^i:=by
 intro i
 induction i with
 |zero=>simp[LO];omega
 |succ i b=>
  simp only[LO];have e:(64:Int) ^ (i+1)=64^i*64:=by rw[Int.pow_succ]
  rw[e];generalize(64:Int) ^ i=p at *;omega
theorem Ou(h0:0<=a)(h1:a<256)(hi:i<=3):0<=LO a l i/\LO a l i<67108864:=by
 have:=Vy (l:=l) h0 h1 i;have:i=0\/i=1\/i=2\/i=3:=by omega
 rcases this with rfl|rfl|rfl|rfl<;>simp at this⊢<;>omega
def wg(enc:Int):Nat->bB->bB
 |0,_=>[]
 |n+1,l=>if l.length=0 then [] else (eJ enc l).1::wg enc n (l.drop (eJ enc l).2.toNat)
def dec(enc:Int)(l:bB):bB:=wg enc l.length l
def zR(m:Nat):Int:=if m=2 then 192 else if m=3 then 224 else if m=4 then 240 else 0
def PH(a:Int)(l:bB):Nat->Int
 |0=>a
 |i+1=>PH a l i*64+l.getD (i+1) 0-128
def iP(m:Nat)(l:bB):Int:=PH (l.getD 0 0-zR m) l (m-1)
def iU(a:Int):Prop:=(0<=a/\a<55296)\/(57343<a/\a<=1114111)
instance (x:Int):Decidable (iU x):=inferInstanceAs (Decidable (_\/_))
def UQ(m:Nat)(l:bB):Prop:=iU (iP m l)/\(dV (iP m l)).length=m/\AM l 0 (dV (iP m l))=true
theorem yo(l:bB)(a:Int):AM l 0 [a]=decide (1<=l.length/\l.getD 0 0=a):=by
 unfold AM
 match l with
 |[]=>simp
 |x::r=>simp
theorem yr(l:bB)(a b c d:Int):AM l 0 [a,b,c,d]=decide (4<=l.length/\l.getD 0 0=a/\l.getD 1 0=b/\l.getD 2 0=c/\l.getD 3 0=d):=by
 unfold AM
 match l with
 |[]=>simp
 |[x]=>simp
 |[x,y]=>simp
 |[x,y,z]=>simp
 |x::y::z::w::r=>simp
theorem WY:AM l 0 (dV a)=true ↔
  (a<128/\1<=l.length/\l.getD 0 0=a)\/(128<=a/\a<2048/\2<=l.length/\l.getD 0 0=192+a / 64/\l.getD 1 0=128+a % 64) \/
  (2048<=a/\a<65536/\3<=l.length/\l.getD 0 0=224+a / 4096/\l.getD 1 0=128+a / 64 % 64/\l.getD 2 0=128+a % 64) \/
  (65536<=a/\4<=l.length/\l.getD 0 0=240+a / 262144/\l.getD 1 0=128+a / 4096 % 64/\l.getD 2 0=128+a / 64 % 64/\l.getD 3 0=128+a % 64):=by
 unfold dV;by_cases b:a<128
 .rw[if_pos b,yo,decide_eq_true_eq];omega
 rw[if_neg b];by_cases c:a<2048
 .rw[if_pos c,yp,decide_eq_true_eq];omega
 rw[if_neg c];by_cases d:a<65536
 .rw[if_pos d,yq,decide_eq_true_eq];omega
 rw[if_neg d,yr,decide_eq_true_eq];omega
theorem Kj(a:Int):(dV a).length=if a<128 then 1 else if a<2048 then 2 else if a<65536 then 3 else 4:=by
 unfold dV;(repeat' split)<;>rfl
theorem Qd(x:Int)(h0:0<=x)(h1:x<=255) :
  (x<128/\eI x=(1,0,0))\/(128<=x/\x<194/\eI x=(0,0,0))\/(194<=x/\x<224/\eI x=(2,128,191))\/(x=224/\eI x=(3,160,191))\/(x=237/\eI x=(3,128,159)) \/
  (224<x/\x<240/\x≠237/\eI x=(3,128,191))\/(x=240/\eI x=(4,144,191))\/(240<x/\x<244/\eI x=(4,128,191))\/(x=244/\eI x=(4,128,143))\/(244<x/\eI x=(0,0,0)):=by
 unfold eI
 (repeat' split)<;>simp<;>omega
theorem Ko{b x1 x2 x3:Int}(h0:0<=b)(h1:b<=255)(m:Int)(hm:1<=m):Dl b x1 x2 x3=(m,m) ↔
  (m=1/\b<128)\/(m=2/\194<=b/\b<224/\pY x1) \/
  (m=3/\224<=b/\b<240/\pY x1/\pY x2/\(b=224->160<=x1)/\(b=237->x1<=159)) \/
  (m=4/\240<=b/\b<=244/\pY x1/\pY x2/\pY x3/\(b=240->144<=x1)/\(b=244->x1<=143)):=by
 unfold Dl pY;rcases Qd b h0 h1 with⟨c,e⟩|⟨c,d,e⟩|⟨c,d,e⟩|⟨c,e⟩|⟨c,e⟩|⟨c,d,f,e⟩|⟨c,e⟩|⟨c,d,e⟩|⟨c,e⟩|⟨c,e⟩
 all_goals rw[e]
 all_goals dsimp only
 all_goals (repeat' split)
 all_goals simp only[oU]
 all_goals omega
theorem il(a:Int)(m:Nat):(dV a).length=m↔(m=1/\a<128)\/(m=2/\128<=a/\a<2048)\/(m=3/\2048<=a/\a<65536)\/(m=4/\65536<=a):=by
 rw[Kj];(repeat' split)<;>omega
theorem MW(hb:cC l){m:Nat}(h1:1<=m)(B:m<=4)(hm:m<=l.length):UQ m l↔pB l=((m:Int),(m:Int)):=by
 have o:=hb.at 0;have r:=hb.at 1;have p:=hb.at 2;have j:=hb.at 3;unfold UQ;rw[WY,il];unfold pB;rw[Ko o.1 o.2 _ (by omega)];unfold iU iP pY;have g:m=1\/m=2\/m=3\/m=4:=by omega
 rcases g with rfl|rfl|rfl|rfl
 .simp only[PH,zR,Nat.reduceSub,if_false,Nat.reduceEqDiff,Int.reduceEq,Nat.reduceEqDiff,true_and,false_and,or_false,false_or,Ml,reduceCtorEq,Int.natCast_one]
  generalize l.getD 0 0=c at *;clear r p j;constructor
  .rintro⟨h,f,b⟩;omega
  .intro h;exact⟨by omega,by omega,by omega⟩
 .simp only[PH,zR,Nat.reduceSub,if_true,if_false,Nat.reduceEqDiff,Nat.reduceAdd,Int.reduceEq,Nat.reduceEqDiff,true_and,false_and,or_false,false_or,Ml,reduceCtorEq]
  generalize l.getD 0 0=c at *;generalize l.getD 1 0=d at *;obtain⟨a,ha⟩:∃a,a=(c-192)*64+d-128:=⟨_,rfl⟩;rw[<-ha];clear p j;constructor
  .rintro⟨h,f,b⟩
   have f:128<=a/\a<2048:=by omega
   have b:c=192+a / 64/\d=128+a % 64:=by omega
   omega
  .intro h
   have h:194<=c/\c<224/\128<=d/\d<=191:=by omega
   exact⟨by omega,by omega, .inr (.inl (by omega))⟩
 .simp only[PH,zR,Nat.reduceSub,if_true,if_false,Nat.reduceEqDiff,Nat.reduceAdd,Int.reduceEq,Nat.reduceEqDiff,true_and,false_and,or_false,false_or,Ml,reduceCtorEq]
  generalize l.getD 0 0=c at *;generalize l.getD 1 0=d at *;generalize l.getD 2 0=e at *;obtain⟨a,ha⟩:∃a,a=((c-224)*64+d-128)*64+e-128:=⟨_,rfl⟩;rw[<-ha];clear j;constructor
  .rintro⟨h,f,b⟩
   have f:2048<=a/\a<65536:=by omega
   rcases b with b|b|b|b
   .omega
   .omega
   .obtain⟨_,_,_,e0,k,q⟩:=b
    exact⟨by omega,by omega,by omega,by omega,by omega,by omega⟩
   .omega
  .intro h
   have h:224<=c/\c<240/\(128<=d/\d<=191)/\(128<=e/\e<=191)/\(c=224->160<=d)/\(c=237->d<=159):=by omega
   obtain⟨t,u,v,w,x,y⟩:=h;have e0:a / 4096=c-224:=by omega
   have k:a / 64=(c-224)*64+d-128:=by omega
   refine⟨by omega,⟨by omega,by omega⟩, .inr (.inr (.inl ⟨by omega,by omega,hm,by omega,by omega,by omega⟩))⟩
 .simp only[PH,zR,Nat.reduceSub,if_true,if_false,Nat.reduceEqDiff,Nat.reduceAdd,Int.reduceEq,Nat.reduceEqDiff,true_and,false_and,or_false,false_or,Ml,reduceCtorEq]
  generalize l.getD 0 0=c at *;generalize l.getD 1 0=d at *;generalize l.getD 2 0=e at *;generalize l.getD 3 0=n at *;obtain⟨a,ha⟩:∃a,a=(((c-240)*64+d-128)*64+e-128)*64+n-128:=⟨_,rfl⟩;rw[<-ha];constructor
  .rintro⟨h,f,b⟩
   have f:65536<=a:=by omega
   have h:a<=1114111:=by omega
   rcases b with b|b|b|b
   .omega
   .omega
   .omega
   .obtain⟨_,_,e0,k,q,A⟩:=b
    exact⟨by omega,by omega,by omega,by omega,by omega,by omega,by omega⟩
  .intro h
   have h:240<=c/\c<=244/\(128<=d/\d<=191)/\(128<=e/\e<=191)/\(128<=n/\n<=191)/\(c=240->144<=d)/\(c=244->d<=143):=by omega
   obtain⟨t,u,v,w,z,x,y⟩:=h;have e0:a / 262144=c-240:=by omega
   have k:a / 4096=(c-240)*64+d-128:=by omega
   have q:a / 64=((c-240)*64+d-128)*64+e-128:=by omega
   refine⟨by omega,by omega, .inr (.inr (.inr ⟨by omega,hm,by omega,by omega,by omega,by omega⟩))⟩
theorem Gl(hb:cC l){m:Nat}(h1:1<=m)(f:m<=4)(e:pB l=((m:Int),(m:Int))):nM l=(iP m l,(m:Int)):=by
 have d:=hb.at 0;have b:=e;unfold pB at b;rw[Ko d.1 d.2 _ (by omega)]at b;unfold nM;rw[e,if_neg (by dsimp only;omega)];unfold iP De pY at *;have c:m=1\/m=2\/m=3\/m=4:=by omega
 rcases c with rfl|rfl|rfl|rfl
 all_goals simp[LO,PH,zR]
 all_goals simp at b d
 all_goals generalize l[0]?.getD 0=g at *
 all_goals generalize l[1]?.getD 0=j at *
 all_goals generalize l[2]?.getD 0=k at *
 all_goals generalize l[3]?.getD 0=n at *
 all_goals omega
theorem L7(hb:cC l)(d:0<l.length)(e:∀m:Nat,1<=m->m<=4->m<=l.length->pB l≠((m:Int),(m:Int))):nM l=(-1-l.getD 0 0,1):=by
 have b:=hb.at 0;have hle:=Jo (l.getD 0 0) (l.getD 1 0) (l.getD 2 0) (l.getD 3 0) b.1 b.2;have f:=Bb (l.getD 0 0) b.1 b.2;have g:=Rn d hb;unfold nM;split
 .rfl
 .rename_i j
  exfalso;have c:pB l=Dl (l.getD 0 0) (l.getD 1 0) (l.getD 2 0) (l.getD 3 0):=rfl;rw[<-c]at hle;refine e (pB l).2.toNat (by omega) (by omega) (by omega) ?_;refine Prod.ext ?_ ?_<;>dsimp only<;>omega
end
section
variable{P:Program}{S:cH}{h:aG}{Q:Nat->bG->aG->Prop}
variable{l:bB}{s:Sl}
theorem YR{c:Int}:aS P (vG S c) [tI, .one (.int .u8), .one (.int .u8)] h λ(x:Int×Int×Int×Unit) _=>(x.1,x.2.1,x.2.2.1)=eI c:=by
 refine Nl ((eI c).1,(eI c).2.1,(eI c).2.2,()) (λQ b=>?_) λ_=>rfl;unfold vG eI at *;simp only[Qr,Zc,cK,aU];have:=b h (Ext.refl h)
 repeat' split
 all_goals simp_all [Ts.inj,Ty.inj,B.inj]
theorem vw{b:Sl}(hb:kW .u8 h b l)(T:0<l.length):aS P (BO S b) [tI, tI] h λ(x:Int×Int×Unit) _=>(x.1,x.2.1)=pB l:=by
 have r:=hb.len;have Z:=hb.bound;have F:=hb.byte 0;have A:=Bb (l.getD 0 0) F.1 F.2;unfold BO pB Dl;refine PT (n:=0) hb T λ_=>aM YR λ⟨(n:Int),(lo:Int),(hi:Int),_⟩ w v f=>?_;have f:(n,lo,hi)=eI (l.getD 0 0):=f;rw[<-f]at A⊢;dsimp only at A⊢;refine aE (λd=>?_) λd=>?_
 .rw[aU]at d
  rw[if_pos d];exact aC ⟨rfl,v,(n,n,()),rfl,rfl⟩
 rw[aY]at d;rw[if_neg (by omega)];have z:=hb.ext v;have y:∀{g K Q},Ext w g->1<l.length->wp P (K (l.getD 1 0)) g Q->wp P (bF (bN (aJ b.aD) (eV 1 b.len)) (.load (.one (.int .u8)) (aB b.aD 1) K)) g Q:=λe w o=>PT (n:=1) (z.ext e) w λ_=>o;have O:∀i,l.length<=i->l.getD i 0=0:=λi hi=>by rw[gI,JM hi];rfl
 refine bZ (¬(lo<=l.getD 1 0/\l.getD 1 0<=hi)) ?_ λc H C B=>aE (λm=>?_) λm=>?_
 .refine aE (λd=>?_) λd=>?_
  .rw[aU,aN,r]at d
   refine aC ⟨rfl,Ext.refl _,_,rfl,?_⟩;rw[O 1 (by omega)];exact⟨λ_=>by omega,λ_=>rfl⟩
  rw[aY,aN,r]at d;refine y (Ext.refl _) (by omega) (aE (λd=>?_) λd=>?_)
  .rw[aU]at d
   exact aC ⟨rfl,Ext.refl _,_,rfl,⟨λ_=>by omega,λ_=>rfl⟩⟩
  rw[aY]at d;refine y (Ext.refl _) (by omega) (aC ⟨rfl,Ext.refl _,_,rfl,?_⟩);rw[dL];omega
 .rw[if_pos (B.1 m)]
  exact aC ⟨rfl,v.trans C,(1,n,()),rfl,rfl⟩
 have I:lo<=l.getD 1 0/\l.getD 1 0<=hi:=Classical.not_not.1 λp=>by rw[B.2 p]at m;cases m
 rw[if_neg (λp=>p I)];have Y:=z.ext C;refine bL (λ(s:Int×Unit) g=>Ext h g/\2<=s.1/\s.1<=n/\∀j:Nat,2<=j->(j:Int)<s.1->pY (l.getD j 0)) (λs _=>4-s.1.toNat)
  (λt R g=>t=2/\∃k:Int,R=[.int .i64 k]/\Ext h g/\2<=k/\k<=n/\(∀j:Nat,2<=j->(j:Int)<k->pY (l.getD j 0))/\(k<n->¬pY (l.getD k.toNat 0))) ⟨v.trans C,by simp,by dsimp only;omega,λj w H=>by dsimp only at H;omega⟩ ?_ ?_
 .rintro⟨(k:Int),u⟩ g ⟨e,E,k1,o⟩
  dsimp only at E k1 o⊢;refine bZ (k<n/\pY (l.getD k.toNat 0)) ?_ λc m G d=>aE (λm=>?_) λm=>?_
  .refine aE (λd=>?_) λd=>?_
   .rw[aU]at d
    refine aE (λD=>?_) λD=>?_
    .rw[aU,aN,r]at D
     refine qW (hb.ext e) (by omega) (by omega) λL=>aC ⟨rfl,Ext.refl _,_,rfl,?_⟩;rw[wJ]at L;rw[cK,YA L.1 (by omega)];unfold pY;omega
    .rw[aY,aN,r]at D
     refine aC ⟨rfl,Ext.refl _,_,rfl,?_⟩;rw[O _ (by omega)];simp[pY]
   .rw[aY]at d
    exact aC ⟨rfl,Ext.refl _,_,rfl,by
     constructor;· intro h;cases h
     .intro h;omega⟩
  .obtain⟨q1,X⟩:=d.1 m
   rw[aX (by omega) (by omega)];refine aC ⟨λ_=>⟨(k+1,()),rfl,⟨e.trans G,by dsimp only;omega,by dsimp only;omega,λj V W=>?_⟩,by dsimp only;omega⟩,λh=>absurd rfl h⟩;dsimp only at W;by_cases hj:(j:Int)=k
   .rw[show j=k.toNat by omega];exact X
   .exact o j V (by omega)
  .refine aC ⟨λh=>absurd h (by decide),λ_=>⟨rfl,k,rfl,e.trans G,E,k1,o,λN J=>?_⟩⟩
   rw[d.2 ⟨N,J⟩]at m;cases m
 .rintro t R g ⟨ht,k,U,e,E,k1,o,q⟩
  refine pL ht (k,()) U (aC ⟨rfl,e,(k,n,()),rfl,?_⟩);dsimp only;have c2:2<k->pY (l.getD 2 0):=λh=>o 2 (by omega) (by omega);have c3:3<k->pY (l.getD 3 0):=λh=>o 3 (by omega) (by omega);have d2:k=2->2<n->¬pY (l.getD 2 0):=λh g=>by have:=q (by omega);rwa [h]at this
  have d3:k=3->3<n->¬pY (l.getD 3 0):=λh g=>by have:=q (by omega);rwa [h]at this
  have M:k=2\/k=3\/k=4:=by omega
  rcases M with rfl|rfl|rfl
  .rw[if_pos]
   by_cases p:n=2
   .exact .inl p
   .exact .inr (d2 rfl (by omega))
  .rw[if_neg (by intro f;rcases f with f|f;omega;exact f (c2 (by omega))),if_pos]
   by_cases p:n=3
   .exact .inl p
   .exact .inr (d3 rfl (by omega))
  .rw[if_neg (by intro f;rcases f with f|f;omega;exact f (c2 (by omega))),if_neg (by intro f;rcases f with f|f;omega;exact f (c3 (by omega)))]
def ki:List Ty:=[tI, tI]
theorem OL{b:Sl}(hb:kW .u8 h b l)(r:0<l.length):aS P (yM S () b) ki h λ(x:Int×Int×Unit) _=>(x.1,x.2.1)=nM l:=by
 have Y:=hb.len;have W:=hb.bound;have y:cC l:=hb.wf;have q:=hb.byte 0;have hle:=Jo (l.getD 0 0) (l.getD 1 0) (l.getD 2 0) (l.getD 3 0) q.1 q.2;have X:=Bb (l.getD 0 0) q.1 q.2;have A:=Rn r y;have O:pB l=Dl (l.getD 0 0) (l.getD 1 0) (l.getD 2 0) (l.getD 3 0):=rfl;rw[<-O]at hle;unfold yM nM;refine Jp λH F=>aM (vw (hb.ext F) r) λ⟨(p:Int),(n:Int),_⟩ I T E=>?_;have E:(p,n)=pB l:=E;rw[<-E]at hle A⊢;dsimp only at hle A⊢;have k:=F.trans T;refine bZ (n=0\/p<n) ?_ λc Z C L=>aE (λf=>?_) λf=>?_
 .refine aE (λd=>?_) λd=>?_
  .rw[cK]at d
   exact aC ⟨rfl,Ext.refl _,_,rfl,by simp[d]⟩
  .rw[dS]at d
   exact aC ⟨rfl,Ext.refl _,_,rfl,by rw[aU];omega⟩
 .rw[if_pos (L.1 f)]
  refine PT (n:=0) ((hb.ext k).ext C) r λ_=>?_;rw[mQ (by omega) (by omega),bY (by omega) (by omega)];exact aC ⟨rfl,k.trans C,(_,1,()),rfl,rfl⟩
 have N:¬(n=0\/p<n):=λh=>by rw[L.2 h]at f;cases f
 rw[if_neg N];have v:=k.trans C;refine PT (n:=0) (hb.ext v) r λ_=>?_;rw[mQ (by omega) (by omega),vj,vi,yn];refine gA (tys:=[tI]) (λ(x:Int×Unit) _=>x.1=De n (l.getD 0 0)) ?_ λ⟨(m:Int),_⟩ J U hm=>?_
 .unfold De
  refine aE (λd=>?_) λd=>?_
  .rw[cK]at d
   exact aC ⟨rfl,Ext.refl _,(_,()),rfl,by rw[if_pos d]⟩
  rw[dS]at d;rw[if_neg d];refine aE (λd=>?_) λd=>?_
  .rw[cK]at d
   exact aC ⟨rfl,Ext.refl _,(_,()),rfl,by rw[if_pos d]⟩
  rw[dS]at d;rw[if_neg d];refine aE (λd=>?_) λd=>?_
  .rw[cK]at d
   exact aC ⟨rfl,Ext.refl _,(_,()),rfl,by rw[if_pos d]⟩
  rw[dS]at d;exact aC ⟨rfl,Ext.refl _,(l.getD 0 0,()),rfl,by rw[if_neg d]⟩
 have hm:m=De n (l.getD 0 0):=hm;subst hm;have z:0<=De n (l.getD 0 0)/\De n (l.getD 0 0)<256:=by unfold De;(repeat' split)<;>omega
 dsimp only;have V:=hb.cap;refine sS (fC.2 ⟨jF (by omega) (by omega),jF (by omega) (by rw[eX];omega)⟩) ?_;have w:=v.trans U;have D:kW .u8 J ⟨bK b.aD b.cap 1 1,cY (bQ n) 1,b.cap-1⟩ ((l.drop 1).take (n-1).toNat):=by
  have H:=(hb.ext w).drop (i:=1) (m:=b.cap-1) (by omega) (by omega) (by have:=hb.max;omega);have I:=H.take (n:=(n-1).toNat) (m:=b.cap-1) (by rw[cV];omega) (by omega) (by have:=hb.max;omega);have:cY (bQ n) 1=(n-1).toNat:=by rw[eX];unfold cY;omega
  rw[this];exact I
 have g:=D.len;dsimp only at g;rw[dJ,cV]at g;rw[g];have o:min (n-1).toNat (l.length-1)=(n-1).toNat:=by omega
 rw[o];rw[g,o]at D;refine bL (λ(s:Int×Int×Unit) j=>Ext h j/\Ext J j/\0<=s.2.1/\s.2.1<=n-1/\s.1=LO (De n (l.getD 0 0)) l s.2.1.toNat) (λs _=>(n-1-s.2.1).toNat)
  (λt R j=>t=3/\Ext h j/\R=[.int .i64 (LO (De n (l.getD 0 0)) l (n-1).toNat)]) ⟨w,Ext.refl _,by simp,by dsimp only;omega,rfl⟩ ?_ ?_
 .rintro⟨(a:Int),(i:Int),u⟩ j ⟨e,G,i0,i1,ha⟩
  dsimp only at i0 i1 ha⊢;refine aE (λhi=>?_) λhi=>?_
  .rw[aU,aN]at hi
   have B:=Ou (l:=l) z.1 z.2 (i:=i.toNat) (by omega);rw[<-ha]at B;have K:=y.at (i.toNat+1);have M:((l.drop 1).take (n-1).toNat).getD i.toNat 0=l.getD (i.toNat+1) 0:=by
    rw[gI,F3,if_pos (by omega),Ao,<-gI,F0]
   refine qW (D.ext G) i0 (by rw[dJ,cV];omega) λ_=>pE ?_;rw[M,zo B.1 (by omega),VM K.1 (by omega),mQ (by omega) (by omega)];rw[Gm (a:=a*64) (b:=l.getD (i.toNat+1) 0 % 64) 6 (by omega) (by omega) (by simp) (by omega) (by simp;omega) (by decide)];rw[aX (by omega) (by omega)];refine aC ⟨λ_=>⟨(a*64+l.getD (i.toNat+1) 0 % 64,i+1,()),rfl,⟨e,G,by dsimp only;omega,by dsimp only;omega,?_⟩,by dsimp only;omega⟩,λh=>absurd rfl h⟩;dsimp only;rw[show(i+1).toNat=i.toNat+1 by omega];show _=LO _ l i.toNat*64+_;rw[ha]
  .rw[aY,aN]at hi
   refine aC ⟨λh=>absurd h (by decide),λ_=>⟨rfl,e,?_⟩⟩;rw[ha,show i.toNat=(n-1).toNat by omega]
 .rintro t R j ⟨ht,e,p⟩
  exact pL ht (_,()) p (aC ⟨rfl,e,(_,n,()),rfl,rfl⟩)
theorem OM{b:Sl}(hb:kW .u8 h b l)(d:0<l.length):aS P (yN S () b) ki h λ(x:Int×Int×Unit) _=>(x.1,x.2.1)=(l.getD 0 0,1):=by
 have e:=hb.byte 0;unfold yN;refine Jp λf c=>PT (n:=0) (hb.ext c) d λ_=>?_;rw[mQ (by omega) (by omega)];exact aC ⟨rfl,c,(l.getD 0 0,1,()),rfl,rfl⟩
def ij(r enc:Int):Prop:=r=0/\enc=2\/r=1/\enc=3
theorem Y3{b:Sl}{r enc:Int}(d:ij r enc)(hb:kW .u8 h b l)(n:2<=l.length):aS P (rI S (r,()) b) [tI] h λ(x:Int×Unit) _=>x.1=cD enc l 0:=by
 have g:=hb.byte 0;have k:=hb.byte 1;unfold ij at d;unfold rI;dsimp only;refine jG [r] (λx e=>by rw[dE.1 e,eS];omega) (by simp) λm c o1=>?_;refine Gn o1.lO (j:=0) (by simp) ?_;simp only[R1];refine qW (hb.ext c) (by omega) (by omega) λ_=>Gn o1.lO (j:=0) (by simp) ?_;simp only[R1];rw[bY (by omega) (by omega)];refine qW (hb.ext c) (by omega) (by omega) λ_=>pE ?_;have key:NX .i64 (dC .i64 (l.getD r.toNat 0)) (GO .i64 (dC .i64 (l.getD (1-r).toNat 0)) 8)=cD enc l 0:=by
  have j:∀x y:Int,0<=x->x<=255->0<=y->y<=255->NX .i64 (dC .i64 x) (GO .i64 (dC .i64 y) 8)=x+256*y:=by
   intro x y o p f q;rw[mQ (by omega) (by omega),mQ (by omega) (by omega),zq f (by omega)];have:NX .i64 x (y*256)=NX .i64 (y*256) x:=by
    unfold NX;rw[BitVec.or_comm]
   rw[this,Gm (a:=y*256) (b:=x) 8 (by omega) (by omega) (by simp) (by omega) (by simp;omega) (by decide)];omega
  rcases d with⟨rfl,rfl⟩|⟨rfl,rfl⟩
  .rw[j _ _ (hb.byte _).1 (hb.byte _).2 (hb.byte _).1 (hb.byte _).2];rfl
  .rw[j _ _ (hb.byte _).1 (hb.byte _).2 (hb.byte _).1 (hb.byte _).2]
   show l.getD 1 0+256*l.getD 0 0=256*l.getD 0 0+l.getD 1 0;omega
 rw[key];exact aC ⟨rfl,c,(cD enc l 0,()),rfl,rfl⟩
theorem nU{enc:Int}(hb:cC l)(i:Nat):0<=cD enc l i/\cD enc l i<65536:=by
 have h0:=hb.at i;have b:=hb.at (i+1);unfold cD;split<;>omega
theorem px{u:Int}(h0:0<=u)(h1:u<65536):aS P (AE S u) [tB] h λ(x:Bool×Unit) _=>(x.1=true↔55296<=u/\u<56320):=by
 unfold AE;rw[ML h0 (by omega)];exact aC ⟨rfl,Ext.refl _,(gM _ 55296,()),rfl,by show gM _ _=true↔_;rw[cK];omega⟩
theorem vv{u:Int}(h0:0<=u)(h1:u<65536):aS P (BN S u) [tB] h λ(x:Bool×Unit) _=>(x.1=true↔56320<=u/\u<57344):=by
 unfold BN;rw[ML h0 (by omega)];exact aC ⟨rfl,Ext.refl _,(gM _ 56320,()),rfl,by show gM _ _=true↔_;rw[cK];omega⟩
theorem Oq(enc:Int)(l:bB)(i:Nat):cD enc (l.drop i) 0=cD enc l i:=by
 unfold cD;rw[uR,uR];simp
end
end Go.Sw.Codec
namespace Go.Sw
open Go.Sw.Codec
variable{P:Program}{S:cH}{h:aG}{Q:Nat->bG->aG->Prop}
variable{l:bB}{s:Sl}
theorem kW.tail{k:IntKind}(b:kW k h s l){i:Nat}(hi:i<=l.length):kW k h ⟨bK s.aD s.cap i 1,cY s.len i,cY s.cap i⟩ (l.drop i):=
 b.drop hi (by have:=b.cap;unfold cY;omega) (by have:=b.max;unfold cY;omega)
end Go.Sw
namespace Go.Sw.Codec
section
variable{P:Program}{S:cH}{h:aG}{Q:Nat->bG->aG->Prop}
variable{l:bB}{s:Sl}
theorem En{b:Sl}{r enc:Int}(y:ij r enc)(hb:kW .u8 h b l)(K:0<l.length):aS P (uB S (r,()) b) ki h λ(x:Int×Int×Unit) _=>(x.1,x.2.1)=gV enc l:=by
 have m:=hb.len;have p:cC l:=hb.wf;have T:=hb.byte 0;have F:cX .i64 r:=by unfold ij at y;rw[eS];omega
 have H:=nU (enc:=enc) p 0;have I:=nU (enc:=enc) p 2;unfold uB gV;dsimp only;refine jG [r] (λx j=>by rw[dE.1 j];exact F) (by simp) λU o o1=>?_;refine aE (λw=>?_) λw=>?_
 .rw[cK,aN,m]at w
  rw[if_pos (by omega)];refine PT (n:=0) (hb.ext o) K λ_=>?_;rw[mQ (by omega) (by omega),bY (by omega) (by omega)];exact aC ⟨rfl,o,(_,1,()),rfl,rfl⟩
 rw[dS,aN,m]at w;rw[if_neg (by omega)];refine Jr o1.lO (aM (Y3 y (hb.ext o) (by omega)) λ⟨(u:Int),_⟩ V A hu=>?_);have hu:u=cD enc l 0:=hu;subst hu;dsimp only;have k:=o.trans A;have E:=hb.ext k;refine dB (λt z D=>Ext h D/\(t=0/\z=[]/\¬(55296<=cD enc l 0/\cD enc l 0<56320/\4<=l.length/\56320<=cD enc l 2/\cD enc l 2<57344) \/
  t=1/\(55296<=cD enc l 0/\cD enc l 0<56320/\4<=l.length/\56320<=cD enc l 2/\cD enc l 2<57344)/\z=[.int .i64 (65536+(cD enc l 0-55296)*1024+(cD enc l 2-56320)), .int .i64 4])) ?_ ?_
 .refine bZ (55296<=cD enc l 0/\cD enc l 0<56320/\4<=l.length) ?_ λc J f q=>aE (λd=>?_) λd=>?_
  .refine aM (px H.1 H.2) λx J f j=>aE (λd=>?_) λd=>?_
   .refine aC ⟨rfl,f,_,rfl,?_⟩
    have:=j.1 d;rw[dD,aN,m];omega
   .refine aC ⟨rfl,f,_,rfl,?_⟩
    have:¬(55296<=cD enc l 0/\cD enc l 0<56320):=λh=>by rw[j.2 h]at d;cases d
    exact⟨(λh=>by cases h),λh=>absurd ⟨h.1,h.2.1⟩ this⟩
  .obtain⟨N,O,R⟩:=q.1 d
   refine Jr (o1.ext (A.trans f)).lO (sS (jF (by decide) (by omega)) (aM (Y3 y ((E.ext f).tail (i:=2) (by omega)) (by rw[cV];omega)) λ⟨(v:Int),_⟩ W B g=>?_));have g:v=cD enc (l.drop 2) 0:=g;rw[Oq]at g;subst g;dsimp only;refine aM (vv I.1 I.2) λx X C j=>aE (λd=>pE ?_) λd=>?_
   .have G:=j.1 d
    rw[Qc,Qc,xx (by omega) (by omega),aX (a:=65536) (by omega) (by omega),aX (by omega) (by omega)];refine aC ⟨((k.trans f).trans B).trans C, .inr ⟨rfl,⟨N,O,R,G.1,G.2⟩,?_⟩⟩
    congr 2;omega
   .have:¬(56320<=cD enc l 2/\cD enc l 2<57344):=λh=>by rw[j.2 h]at d;cases d
    exact aC ⟨((k.trans f).trans B).trans C, .inl ⟨rfl,rfl,λh=>this h.2.2.2⟩⟩
  .have:¬(55296<=cD enc l 0/\cD enc l 0<56320/\4<=l.length):=λh=>by rw[q.2 h]at d;cases d
   exact aC ⟨k.trans f, .inl ⟨rfl,rfl,λh=>this ⟨h.1,h.2.1,h.2.2.1⟩⟩⟩
 .rintro t z D ⟨e,⟨ht,g,L⟩|⟨ht,M,g⟩⟩
  .rw[if_neg L]
   exact nP (by omega) (pL ht () g (aC ⟨rfl,e,(cD enc l 0,2,()),rfl,rfl⟩))
  .rw[if_pos M]
   exact pL ht (_,4,()) g (aC ⟨rfl,e,(_,4,()),rfl,rfl⟩)
theorem ib(M:kB P S){enc:Int}(he:eL enc)(d:kW .u8 h s l)(c:0<l.length)
  {K:Int×Int×Unit->aK} (b:∀(x:Int×Int×Unit) e,Ext h e->(x.1,x.2.1)=eJ enc l->wp P (K x) e Q) :
  wp P (.invoke (Bc S enc) S.Cf [.slice s.aD s.len s.cap] ki K) h Q:=by
 rcases rO he with rfl|rfl|rfl|rfl
 .exact Am (M.nM s) (OL d c) b
 .exact Am (M.gV 0 s) (En (.inl ⟨rfl,rfl⟩) d c) b
 .exact Am (M.gV 1 s) (En (.inr ⟨rfl,rfl⟩) d c) b
 .exact Am (M.Zo s) (OM d c) b
end
section
variable{P:Program}{S:cH}{h:aG}{Q:Nat->bG->aG->Prop}
theorem P6{v:Value}:∀n,jP [v] n=List.replicate n v:=by
 intro n;induction n with
 |zero=>rfl
 |succ n b=>simp[jP,b,JN]
theorem S7{enc:Int}{l:bB}(hb:cC l):cX .i64 (eJ enc l).1:=by
 rw[eS];have b:=hb.at 0;have g:=nU (enc:=enc) hb 0;have j:=nU (enc:=enc) hb 2;have hle:=Jo (l.getD 0 0) (l.getD 1 0) (l.getD 2 0) (l.getD 3 0) b.1 b.2;have e:=Bb (l.getD 0 0) b.1 b.2;have c:0<=De (pB l).2 (l.getD 0 0)/\De (pB l).2 (l.getD 0 0)<256:=by unfold De;(repeat' split)<;>omega
 have d:pB l=Dl (l.getD 0 0) (l.getD 1 0) (l.getD 2 0) (l.getD 3 0):=rfl;rw[<-d]at hle;have f:=Ou (l:=l) c.1 c.2 (i:=((pB l).2-1).toNat) (by omega);unfold eJ nM gV
 (repeat' split)<;>dsimp only<;>omega
end
section
variable{l:bB}{a:Int}
theorem WX{m:bB}(h:AM l 0 m=true):m=l.take m.length:=by
 unfold AM at h;simpa using (of_decide_eq_true h).symm
theorem IV(hb:cC l)(f:0<l.length) :
  (∃m:Nat,1<=m/\m<=4/\m<=l.length/\pB l=((m:Int),(m:Int))/\UQ m l/\nM l=(iP m l,(m:Int))) \/
  ((∀m:Nat,1<=m->m<=4->m<=l.length->pB l≠((m:Int),(m:Int)))/\nM l=(-1-l.getD 0 0,1)):=by
 by_cases h:∃m:Nat,1<=m/\m<=4/\m<=l.length/\pB l=((m:Int),(m:Int))
 .obtain⟨m,b,c,hm,d⟩:=h
  exact .inl ⟨m,b,c,hm,d,(MW hb b c hm).2 d,Gl hb b c d⟩
 .have e:∀m:Nat,1<=m->m<=4->m<=l.length->pB l≠((m:Int),(m:Int)):=λm b c hm d=>h ⟨m,b,c,hm,d⟩
  exact .inr ⟨e,L7 hb f e⟩
theorem af(hb:cC l)(d:0<l.length)(c:∀m:Nat,1<=m->m<=4->m<=l.length->pB l≠((m:Int),(m:Int))):128<=l.getD 0 0:=by
 have b:=hb.at 0;by_cases h:l.getD 0 0<128
 .exfalso
  refine c 1 (by omega) (by omega) (by omega) ?_;unfold pB;rw[Ko b.1 b.2 _ (by omega)];exact .inl ⟨rfl,h⟩
 .omega
theorem take_one(b:0<l.length):l.take 1=[l.getD 0 0]:=by
 match l,b with
 |x::r,_=>rfl
theorem Ue(b:2<=l.length):l.take 2=[l.getD 0 0,l.getD 1 0]:=by
 match l,b with
 |x::y::r,_=>rfl
theorem P1(b:4<=l.length):l.take 4=[l.getD 0 0,l.getD 1 0,l.getD 2 0,l.getD 3 0]:=by
 match l,b with
 |x::y::z::w::r,_=>rfl
theorem Xx{enc:Int}(he:eL enc)(hb:cC l)(d:0<l.length) :
  0<bW enc (eJ enc l).1/\cZ enc (eJ enc l).1=l.take (eJ enc l).2.toNat:=by
 have r:=hb.at 0;have t:=hb.at 1;have u:=hb.at 2;have v:=hb.at 3;unfold eJ;rcases rO he with rfl|e|e|rfl
 .rw[if_pos rfl]
  rcases IV hb d with⟨m,c,w,hm,x,n,j⟩|⟨o,j⟩
  .rw[j]
   dsimp only;obtain⟨c1,c2,c3⟩:=n;unfold iU at c1;refine⟨(iK _ _).2 (by omega),?_⟩;unfold cZ;rw[if_neg (by omega),if_pos rfl,cS];have:=WX c3
   rwa [c2]at this
  .have k:=af hb d o
   rw[j];dsimp only;refine⟨(iK _ _).2 (by omega),?_⟩;unfold cZ;rw[if_pos (by omega),show(1:Int).toNat=1 from rfl,take_one d]
   congr 1;omega
 .subst e
  rw[if_neg (by decide),if_neg (by decide)];unfold gV;by_cases c:l.length=1
  .rw[if_pos c]
   dsimp only;refine⟨(iK _ _).2 (by omega),?_⟩;unfold cZ;rw[if_pos (by omega),show(1:Int).toNat=1 from rfl,take_one d]
   congr 1;omega
  rw[if_neg c];have p:=nU (enc:=2) hb 0;have q:=nU (enc:=2) hb 2;by_cases b:55296<=cD 2 l 0/\cD 2 l 0<56320/\4<=l.length/\56320<=cD 2 l 2/\cD 2 l 2<57344
  .rw[if_pos b]
   dsimp only;refine⟨(iK _ _).2 (by omega),?_⟩;unfold cZ;rw[if_neg (by omega),if_neg (by decide),if_neg (by decide),if_pos (by omega),show(4:Int).toNat=4 from rfl,P1 b.2.2.1];have f:55296+(65536+(cD 2 l 0-55296)*1024+(cD 2 l 2-56320)-65536) / 1024=cD 2 l 0:=by omega
   have g:56320+(65536+(cD 2 l 0-55296)*1024+(cD 2 l 2-56320)) % 1024=cD 2 l 2:=by omega
   rw[f,g];simp only[cD,fU,Int.reduceEq,if_true,if_false,Ed,GA,Nat.reduceAdd]
   congr 1;omega
   congr 1;omega
   congr 1;omega
   congr 1;omega
  .rw[if_neg b]
   dsimp only;refine⟨(iK _ _).2 (by omega),?_⟩;unfold cZ;rw[if_neg (by omega),if_neg (by decide),if_neg (by decide),if_neg (by omega),show(2:Int).toNat=2 from rfl,Ue (by omega)];simp only[cD,fU,Int.reduceEq,if_true,if_false,Nat.reduceAdd]
   congr 1;omega
   congr 1;omega
 .subst e
  rw[if_neg (by decide),if_neg (by decide)];unfold gV;by_cases c:l.length=1
  .rw[if_pos c]
   dsimp only;refine⟨(iK _ _).2 (by omega),?_⟩;unfold cZ;rw[if_pos (by omega),show(1:Int).toNat=1 from rfl,take_one d]
   congr 1;omega
  rw[if_neg c];have p:=nU (enc:=3) hb 0;have q:=nU (enc:=3) hb 2;by_cases b:55296<=cD 3 l 0/\cD 3 l 0<56320/\4<=l.length/\56320<=cD 3 l 2/\cD 3 l 2<57344
  .rw[if_pos b]
   dsimp only;refine⟨(iK _ _).2 (by omega),?_⟩;unfold cZ;rw[if_neg (by omega),if_neg (by decide),if_neg (by decide),if_pos (by omega),show(4:Int).toNat=4 from rfl,P1 b.2.2.1];have f:55296+(65536+(cD 3 l 0-55296)*1024+(cD 3 l 2-56320)-65536) / 1024=cD 3 l 0:=by omega
   have g:56320+(65536+(cD 3 l 0-55296)*1024+(cD 3 l 2-56320)) % 1024=cD 3 l 2:=by omega
   rw[f,g];simp only[cD,fU,Int.reduceEq,if_true,if_false,Ed,GA,Nat.reduceAdd]
   congr 1;omega
   congr 1;omega
   congr 1;omega
   congr 1;omega
  .rw[if_neg b]
   dsimp only;refine⟨(iK _ _).2 (by omega),?_⟩;unfold cZ;rw[if_neg (by omega),if_neg (by decide),if_neg (by decide),if_neg (by omega),show(2:Int).toNat=2 from rfl,Ue (by omega)];simp only[cD,fU,Int.reduceEq,if_true,if_false,Nat.reduceAdd]
   congr 1;omega
   congr 1;omega
 .rw[if_neg (by decide),if_pos rfl]
  dsimp only;refine⟨(iK _ _).2 (by omega),?_⟩;unfold cZ;rw[if_neg (by omega),if_neg (by decide),if_pos rfl,show(1:Int).toNat=1 from rfl,take_one d]
theorem Gc{enc:Int}(c:0<bW enc a):cC (cZ enc a):=by
 have hu:=(iK enc a).1 c;intro x b;rw[wJ];unfold cZ dV fU at b
 (repeat' split at b)<;>simp at b<;>omega
theorem Ij{m:bB}(b:cC l)(hm:cC m):cC (l++m):=λx c=>(dH.1 c).elim (b x) (hm x)
theorem Uy{enc:Int}(c:∀a,a∈l->0<bW enc a):cC (l.flatMap (cZ enc)):=by
 intro x b;obtain⟨a,ha,b⟩:=GB.1 b;exact Gc (c a ha) x b
theorem Qx{enc:Int}(he:eL enc)(k:0<bW enc a)(t:iU a){r:bB}(q:cC r):eJ enc (cZ enc a++r)=(a,bW enc a):=by
 have hb:=Ij (Gc k) q;have hlen:=oQ k;have hu:=(iK enc a).1 k;unfold iU at t;unfold eJ;rcases rO he with rfl|d|d|rfl
 .rw[if_pos rfl]
  have b:cZ 1 a=dV a:=by unfold cZ;rw[if_neg (by omega),if_pos rfl]
  rw[b]at hb hlen⊢;have o:=Kj a;have hm:iP (dV a).length (dV a++r)=a:=by
   unfold iP dV;by_cases f:a<128
   .simp[f,PH,zR]
   by_cases j:a<2048
   .simp[f,j,PH,zR];omega
   by_cases n:a<65536
   .simp[f,j,n,PH,zR];omega
   .simp[f,j,n,PH,zR];omega
  have c:1<=(dV a).length/\(dV a).length<=4:=by rw[o];(repeat' split)<;>omega
  have p:UQ (dV a).length (dV a++r):=by
   refine⟨by rw[hm];unfold iU;omega,by rw[hm],?_⟩;rw[hm];unfold AM;rw[decide_eq_true_eq,Ej];exact R2 rfl
  have m:=(MW hb c.1 c.2 (by rw[bP];omega)).1 p;rw[Gl hb c.1 c.2 m,hm,hlen]
 .subst d
  rw[if_neg (by decide),if_neg (by decide)];by_cases e:65536<=a
  .have b:cZ 2 a=fU 2 (55296+(a-65536) / 1024)++fU 2 (56320+a % 1024):=by
    unfold cZ;rw[if_neg (by omega),if_neg (by decide),if_neg (by decide),if_pos e]
   rw[b]at hlen⊢;rw[<-hlen];have e0:cD 2 (fU 2 (55296+(a-65536) / 1024)++fU 2 (56320+a % 1024)++r) 0=55296+(a-65536) / 1024:=by
    simp[cD,fU];omega
   have g:cD 2 (fU 2 (55296+(a-65536) / 1024)++fU 2 (56320+a % 1024)++r) 2=56320+a % 1024:=by
    simp[cD,fU];omega
   unfold gV;rw[e0,g,bP,bP,oS,oS,if_neg (by omega),if_pos (by omega)];refine Prod.ext ?_ rfl;dsimp only;omega
  .have b:cZ 2 a=fU 2 a:=by
    unfold cZ;rw[if_neg (by omega),if_neg (by decide),if_neg (by decide),if_neg e]
   rw[b]at hlen⊢;rw[<-hlen];have e0:cD 2 (fU 2 a++r) 0=a:=by
    simp[cD,fU];omega
   unfold gV;rw[e0,bP,oS,if_neg (by omega),if_neg (by omega)];rfl
 .subst d
  rw[if_neg (by decide),if_neg (by decide)];by_cases e:65536<=a
  .have b:cZ 3 a=fU 3 (55296+(a-65536) / 1024)++fU 3 (56320+a % 1024):=by
    unfold cZ;rw[if_neg (by omega),if_neg (by decide),if_neg (by decide),if_pos e]
   rw[b]at hlen⊢;rw[<-hlen];have e0:cD 3 (fU 3 (55296+(a-65536) / 1024)++fU 3 (56320+a % 1024)++r) 0=55296+(a-65536) / 1024:=by
    simp[cD,fU];omega
   have g:cD 3 (fU 3 (55296+(a-65536) / 1024)++fU 3 (56320+a % 1024)++r) 2=56320+a % 1024:=by
    simp[cD,fU];omega
   unfold gV;rw[e0,g,bP,bP,oS,oS,if_neg (by omega),if_pos (by omega)];refine Prod.ext ?_ rfl;dsimp only;omega
  .have b:cZ 3 a=fU 3 a:=by
    unfold cZ;rw[if_neg (by omega),if_neg (by decide),if_neg (by decide),if_neg e]
   rw[b]at hlen⊢;rw[<-hlen];have e0:cD 3 (fU 3 a++r) 0=a:=by
    simp[cD,fU];omega
   unfold gV;rw[e0,bP,oS,if_neg (by omega),if_neg (by omega)];rfl
 .rw[if_neg (by decide),if_pos rfl]
  have b:cZ 4 a=[a]:=by unfold cZ;rw[if_neg (by omega),if_neg (by decide),if_pos rfl]
  rw[b]at hlen⊢;rw[<-hlen];rfl
end
section
variable{P:Program}{S:cH}{h:aG}{Q:Nat->bG->aG->Prop}
theorem kB.x7(M:kB P S):kf P S:=⟨M.bw,M.Ru,M.bu⟩
theorem ew.fits{n:Nat}{enc:Int}{l:bB}{x:Sl×Int×Int×Unit}{h1:aG}(f:eL enc)(e:∀a,a∈l->0<bW enc a)(g:ew n enc l x h1):bU n .u8 h1 x.1 (l.flatMap (cZ enc))/\x.2.1=0/\x.2.2.1=0:=by
 obtain⟨b,o,r⟩:=g;obtain⟨rfl,c,d⟩:=r.fn (.inr (.inr ⟨f,e,rfl,rfl,rfl⟩));exact⟨o,c,d⟩
end
section
variable{l:bB}
theorem fV{m i:Nat}(h:i<m):(l.take m).getD i 0=l.getD i 0:=by
 rw[gI,gI,F3,if_pos h]
theorem TV(hb:cC l){m j:Nat}(h1:1<=j)(o:j<=m)(p:j<=l.length):pB (l.take m)=((j:Int),(j:Int))↔pB l=((j:Int),(j:Int)):=by
 have e:=hb.at 0;have c0:=(hb.take m).at 0;unfold pB;rw[Ko e.1 e.2 _ (by omega),Ko c0.1 c0.2 _ (by omega)];unfold pY;have f:(l.take m).getD 0 0=l.getD 0 0:=fV (by omega);have b:2<=j->(l.take m).getD 1 0=l.getD 1 0:=λh=>fV (by omega);have c:3<=j->(l.take m).getD 2 0=l.getD 2 0:=λh=>fV (by omega);have d:4<=j->(l.take m).getD 3 0=l.getD 3 0:=λh=>fV (by omega);rw[f];by_cases g:j=1
 .subst g;constructor<;>intro h<;>omega
 have b:=b (by omega);rw[b];by_cases k:j=2
 .subst k;constructor<;>intro h<;>omega
 have c:=c (by omega);rw[c];by_cases n:j=3
 .subst n;constructor<;>intro h<;>omega
 have d:=d (by omega);rw[d]
theorem Vb{m j:Nat}(h1:1<=j)(c:j<=m)(b:j<=4):iP j (l.take m)=iP j l:=by
 have:j=1\/j=2\/j=3\/j=4:=by omega
 rcases this with rfl|rfl|rfl|rfl
 .simp only[iP,PH,Nat.reduceSub];rw[fV (by omega)]
 .simp only[iP,PH,Nat.reduceSub,Nat.reduceAdd];rw[fV (by omega),fV (by omega)]
 .simp only[iP,PH,Nat.reduceSub,Nat.reduceAdd];rw[fV (by omega),fV (by omega),fV (by omega)]
 .simp only[iP,PH,Nat.reduceSub,Nat.reduceAdd];rw[fV (by omega),fV (by omega),fV (by omega),fV (by omega)]
theorem UY{enc:Int}(hb:cC l)(r:0<l.length){m:Nat}(hm:(eJ enc l).2<=m)(y:enc=1\/enc=4\/(2<=m\/l.length=1)):eJ enc (l.take m)=eJ enc l:=by
 have b:=jM (enc:=enc) r hb;have n:0<(l.take m).length:=by rw[dJ];omega
 unfold eJ at hm b⊢;by_cases f:enc=1
 .rw[if_pos f]at hm b⊢
  rw[if_pos f];rcases IV hb r with⟨j,d,k,p,c,_,o⟩|⟨u,o⟩
  .rw[o]at hm b⊢
   dsimp only at hm;have:=(TV hb (m:=m) d (by omega) p).2 c;rw[Gl (hb.take m) d k this,Vb d (by omega) k]
  .rw[o,L7 (hb.take m) n λj d k p c=>?_,fV (by rw[dJ]at n;omega)]
   rw[dJ]at p;exact u j d k (by omega) ((TV hb (m:=m) d (by omega) (by omega)).1 c)
 rw[if_neg f]at hm b⊢;rw[if_neg f];by_cases g:enc=4
 .rw[if_pos g]at hm b⊢
  rw[if_pos g];dsimp only at hm;rw[fV (by omega)]
 rw[if_neg g]at hm b⊢;rw[if_neg g];unfold gV at hm b⊢;by_cases e:l.length=1
 .have:l.take m=l:=iW (by rw[e];rw[if_pos e]at hm;dsimp only at hm;omega)
  rw[this]
 rw[if_neg e]at hm b⊢;have x:2<=m:=by omega
 rw[dJ,if_neg (by omega)];have v:cD enc (l.take m) 0=cD enc l 0:=by unfold cD;rw[fV (by omega),fV (by omega)]
 rw[v];by_cases t:55296<=cD enc l 0/\cD enc l 0<56320/\4<=l.length/\56320<=cD enc l 2/\cD enc l 2<57344
 .rw[if_pos t]at hm⊢
  dsimp only at hm;have q:cD enc (l.take m) 2=cD enc l 2:=by unfold cD;rw[fV (by omega),fV (by omega)]
  rw[q,if_pos (by omega)]
 .rw[if_neg t]at hm⊢
  by_cases w:4<=m
  .have q:cD enc (l.take m) 2=cD enc l 2:=by unfold cD;rw[fV (by omega),fV (by omega)]
   rw[q,if_neg (by omega)]
  .rw[if_neg (by omega)]
inductive Un(enc:Int)(l:bB):Nat->Prop where
 |zero:Un enc l 0
 |step {k:Nat}:Un enc l k->k<l.length->Un enc l (k+(eJ enc (l.drop k)).2.toNat)
theorem Un.le{enc:Int}(hb:cC l){k:Nat}(h:Un enc l k):k<=l.length:=by
 cases h with
 |zero=>omega
 |step h b=>
  rename_i k;have:=jM (enc:=enc) (l:=l.drop k) (by rw[cV];omega) (hb.drop k);rw[cV]at this;omega
theorem Un.next{enc:Int}(hb:cC l){j k:Nat}(b:Un enc l j)(e:Un enc l k)(n:j<k):j+(eJ enc (l.drop j)).2.toNat<=k:=by
 have key:∀{k},Un enc l k->∀{j},Un enc l j->(j<k->j+(eJ enc (l.drop j)).2.toNat<=k)/\(k<j->k+(eJ enc (l.drop k)).2.toNat<=j):=by
  intro k e
  induction e with
  |zero=>
   intro j b;refine⟨λh=>by omega,?_⟩
   induction b with
   |zero=>intro h;omega
   |step b m f=>
    rename_i j;intro _;by_cases h0:j=0
    .subst h0;omega
    .have:=f (by omega);omega
  |step e p f=>
   rename_i k;intro j b;have q:=jM (enc:=enc) (l:=l.drop k) (by rw[cV];omega) (hb.drop k);have hi:=f b;refine⟨λh=>?_,?_⟩
   .by_cases d:j<k
    .have:=hi.1 d;omega
    .by_cases he:j=k
     .subst he;omega
     .have:=hi.2 (by omega);omega
   .induction b with
    |zero=>intro h;omega
    |step b m o=>
     rename_i j;intro h;have c:=f b;by_cases d:j<k
     .have:=c.1 d;omega
     .by_cases he:j=k
      .subst he;omega
      .by_cases g:j=k+(eJ enc (l.drop k)).2.toNat
       .rw[g];omega
       .have:=o c (by have:=c.2 (by omega);omega)
        omega
 exact(key e b).1 n
end
section
theorem S5{enc:Int}{l:bB}(h1:l.length≠1)(b:0<l.length):((gV enc l).2=4/\55296<=cD enc l 0/\cD enc l 0<56320/\4<=l.length/\56320<=cD enc l 2/\cD enc l 2<57344) \/
  (gV enc l=(cD enc l 0,2)/\¬(55296<=cD enc l 0/\cD enc l 0<56320/\4<=l.length/\56320<=cD enc l 2/\cD enc l 2<57344)):=by
 unfold gV;rw[if_neg h1];split
 .rename_i h;exact .inl ⟨rfl,h⟩
 .rename_i h;exact .inr ⟨rfl,h⟩
end
section
variable{P:Program}{S:cH}{h:aG}{Q:Nat->bG->aG->Prop}
end
section
variable{P:Program}{S:cH}{h:aG}{Q:Nat->bG->aG->Prop}
theorem jj{x:Value}{K:aK}(c:VJ P x)(b:wp P K h Q):wp P (.TH x K) h Q:=⟨c,b⟩
def ka(enc:Int)(l:bB)(at_:Int)(x:Int×Int×Unit):Prop:=
 ((¬eL enc\/at_<0\/l.length<=at_)/\x.1=0/\x.2.1=0)\/(eL enc/\0<=at_/\at_<l.length/\(x.1,x.2.1)=eJ enc (l.drop at_.toNat))
theorem Qh(M:kB P S){enc at_:Int}{b:Sl}{l:bB}(hb:kW .u8 h b l):aS P (pG S enc b at_) ki h λ(x:Int×Int×Unit) _=>ka enc l at_ x:=by
 have o:=hb.len;unfold pG;refine aM (E1 enc) λc r j e=>?_;have e:c.1=Bc S enc:=e;rw[e];refine bZ (¬eL enc\/at_<0\/l.length<=at_) ?_ λc t k g=>aE (λf=>?_) λf=>?_
 .by_cases d:¬eL enc
  .rw[GU d]
   exact sS rfl (mV (aC ⟨rfl,Ext.refl _,_,rfl,⟨λ_=>.inl d,λ_=>rfl⟩⟩))
  have d:=Classical.not_not.1 d;obtain⟨k1,k2⟩:=KQ (S:=S) d;rw[k1,k2];refine sS rfl (lW (aE (λe=>?_) λe=>?_))
  .rw[aU]at e
   exact aC ⟨rfl,Ext.refl _,_,rfl,⟨λ_=>.inr (.inl e),λ_=>rfl⟩⟩
  .rw[aY]at e
   refine aC ⟨rfl,Ext.refl _,_,rfl,?_⟩;rw[dD,aN,o];exact⟨λh=>.inr (.inr h),λh=>by rcases h with h|h|h;exact absurd d h;omega;exact h⟩
 .exact aC ⟨rfl,j.trans k,(0,0,()),rfl, .inl ⟨g.1 f,rfl,rfl⟩⟩
 .have m:¬(¬eL enc\/at_<0\/l.length<=at_):=λh=>by rw[g.2 h]at f;cases f
  have d:eL enc:=Classical.not_not.1 λh=>m (.inl h);have h0:0<=at_:=by
   by_cases h:at_<0
   .exact absurd (.inr (.inl h)) m
   .omega
  have n:at_<l.length:=by
   by_cases h:(l.length:Int)<=at_
   .exact absurd (.inr (.inr h)) m
   .omega
  rw[eX];refine sS (jF h0 (by omega)) (jj (M.xf enc d) (ib M d (s:=⟨_,_,_⟩) (((hb.ext (j.trans k)).tail (i:=at_.toNat) (by omega))) (by rw[cV];omega) λx u p q=>aC ⟨rfl,(j.trans k).trans p,x,rfl, .inr ⟨d,h0,n,q⟩⟩))
end
section
def kr(enc:Int)(l:bB):Prop:=
 if enc=1 then 1<(pB l).2/\(pB l).1=l.length/\(pB l).1<(pB l).2
 else if enc=4 then False
 else l.length=1\/(l.length<4/\55296<=cD enc l 0/\cD enc l 0<56320)
theorem OW{enc:Int}{l:bB}(hb:cC l){m k:Nat}(hm:Un enc l m)(e:Un enc l k)(h:k<m):eJ enc ((l.take m).drop k)=eJ enc (l.drop k):=by
 have f:=hm.le hb;have g:=e.next hb hm h
 have j:=jM (enc:=enc) (l:=l.drop k) (by rw[cV];omega) (hb.drop k);rw[Mm];refine UY (hb.drop k) (by rw[cV];omega) (by omega) ?_;by_cases c:enc=1
 .exact .inl c
 by_cases d:enc=4
 .exact .inr (.inl d)
 refine .inr (.inr ?_);by_cases b:(l.drop k).length=1
 .exact .inr b
 .left
  have:(eJ enc (l.drop k)).2≠1:=by
   unfold eJ;rw[if_neg c,if_neg d];rcases S5 (enc:=enc) b (by rw[cV];omega) with⟨q,_⟩|⟨q,_⟩
   .omega
   .rw[q];dsimp only;omega
  omega
structure aac(enc:Int)(all:bB)(p:Nat):Prop where
 bytes:cC all
 bnd:Un enc all p
 sure:∀j,Un enc all j->j<p->¬kr enc (all.drop j)
 more:p=all.length\/p<all.length/\kr enc (all.drop p)
end
end Go.Sw.Codec
