
/- Steps. -/
import Derived.Test.YtncolficnfcdcaaGreatSwFcodec
import Derived.Test.YtncolficnfcdcaaGreatSwU2
import Derived.Test.YtncolficnfcdcaaGreatSwU3
set_option linter.unusedVariables false
set_option linter.unusedSimpArgs false
set_option maxRecDepth 100000
namespace Go.Sw.Codec
section
variable{P:Program}{S:cG}{h:aE}{Q:Nat->bE->aE->Prop}
def bU(enc a:Int):Int:=
 if enc=1 then (if a < -256\/(-129<a/\a<0)\/1114111<a\/(55296<=a/\a<=57343) then 0 else if a<128 then 1 else if a<2048 then 2 else if a<65536 then 3 else 4)
 else if enc=2\/enc=3 then (if a < -256\/1114111<a then 0 else if a<0 then 1 else if a<65536 then 2 else 4)
 else if enc=4 then (if a<0\/255<a then 0 else 1)
 else 0
theorem C3(enc a:Int):0<=bU enc a:=by
 unfold bU;repeat' split
 all_goals omega
def AP(S:cG)(enc:Int):Value:=
 if enc=1 then .iface S.nG (.agg #[])
 else if enc=2 then .iface S.hH (.agg #[.int .i64 0])
 else if enc=3 then .iface S.hH (.agg #[.int .i64 1])
 else if enc=4 then .iface S.nH (.agg #[])
 else .nilIface
theorem ED(enc:Int):aS P (wU S enc) [.one .any] h λ(x:Value×Unit) c=>x.1=AP S enc:=by
 refine MJ (AP S enc,()) (λQ b=>?_) λ_=>rfl;unfold wU AP at *;simp only[PS,Ym,cJ];have:=b h (Ext.refl h)
 repeat' split
 all_goals simp_all [Ts.inj,Ty.inj,B.inj]
structure gb(P:Program)(S:cG):Prop where
 eight:∀a,Inv P (.iface S.nG (.agg #[])) S.Ce [.int .i64 a] (rJ S () a)
 VW:∀r a,Inv P (.iface S.hH (.agg #[.int .i64 r])) S.Ce [.int .i64 a] (qW S (r,()) a)
 rn:∀a,Inv P (.iface S.nH (.agg #[])) S.Ce [.int .i64 a] (uW S () a)
theorem Di(a:Int):aS P (rJ S () a) [tI] h λ(x:Int×Unit) c=>x.1=bU 1 a:=by
 unfold rJ aS
 repeat' first
  |with_reducible refine aC ?_|with_reducible refine xN ?_|with_reducible refine bK ?_|with_reducible refine nT rfl ?_|with_reducible refine jQ ?_|with_reducible refine gZ ?_|with_reducible refine lZ ?_|with_reducible refine wC ?_|with_reducible refine bV ?_
  |with_reducible refine mI ?_|with_reducible refine lI ?_|with_reducible refine Ag ?_|with_reducible refine wB (λ_=>?_)|with_reducible refine aG (λb=>?_) (λb=>?_)
 all_goals (refine⟨rfl,Ext.push .., (_,()),rfl,?_⟩;show _=bU 1 a)
 all_goals simp only[aV,dQ,dT,gD,cJ,lB,dN,aZ,gC,fC,nQ,dM,lX,eI]at *
 all_goals (unfold bU;simp only[if_true])
 all_goals first|(rw[if_pos (by omega)];done)|rw[if_neg (by omega)]
 all_goals (repeat' split)<;>omega
theorem vJ(r a enc:Int)(he:enc=2\/enc=3):aS P (qW S (r,()) a) [tI] h λ(x:Int×Unit) c=>x.1=bU enc a:=by
 unfold qW aS
 repeat' first
  |with_reducible refine aC ?_|with_reducible refine xN ?_|with_reducible refine bK ?_|with_reducible refine nT rfl ?_|with_reducible refine jQ ?_|with_reducible refine gZ ?_|with_reducible refine lZ ?_|with_reducible refine wC ?_|with_reducible refine bV ?_
  |with_reducible refine mI ?_|with_reducible refine lI ?_|with_reducible refine Ag ?_|with_reducible refine wB (λ_=>?_)|with_reducible refine aG (λb=>?_) (λb=>?_)
 all_goals (refine⟨rfl,Ext.push .., (_,()),rfl,?_⟩;show _=bU enc a)
 all_goals simp only[aV,dQ,dT,gD,cJ,lB,dN,aZ,gC,fC,nQ,dM,lX,eI]at *
 all_goals (unfold bU;rw[if_neg (by omega),if_pos he];(repeat' split)<;>omega)
theorem HU(a:Int):aS P (uW S () a) [tI] h λ(x:Int×Unit) c=>x.1=bU 4 a:=by
 unfold uW aS
 repeat' first
  |with_reducible refine aC ?_|with_reducible refine xN ?_|with_reducible refine bK ?_|with_reducible refine nT rfl ?_|with_reducible refine jQ ?_|with_reducible refine gZ ?_|with_reducible refine lZ ?_|with_reducible refine wC ?_|with_reducible refine bV ?_
  |with_reducible refine mI ?_|with_reducible refine lI ?_|with_reducible refine Ag ?_|with_reducible refine wB (λ_=>?_)|with_reducible refine aG (λb=>?_) (λb=>?_)
 all_goals (refine⟨rfl,Ext.push .., (_,()),rfl,?_⟩;show _=bU 4 a)
 all_goals simp only[aV,dQ,dT,gD,cJ,lB,dN,aZ,gC,fC,nQ,dM,lX,eI]at *
 all_goals (simp only[bU,Int.reduceEq,if_false,or_self,if_true];(repeat' split)<;>omega)
theorem GY(M:gb P S)(enc a:Int):aS P (Ak S enc a) [tI] h λ(x:Int×Unit) n=>x.1=bU enc a:=by
 unfold Ak;refine aM (ED enc) λx o d m=>?_;have m:x.1=AP S enc:=m;simp only[m];unfold AP;by_cases e:enc=1
 .subst e
  simp only[if_true,R8,PS,isIface,kK,gE,if_false,true_and];refine zX (M.eight a) (Di a) λy k b c=>⟨rfl,d.trans b,(y.1,()),rfl,c⟩
 by_cases f:enc=2
 .subst f
  simp only[if_true,R8,PS,isIface,kK,gE,if_false,true_and,Int.reduceEq];refine zX (M.VW 0 a) (vJ 0 a 2 (by simp)) λy k b c=>⟨rfl,d.trans b,(y.1,()),rfl,c⟩
 by_cases g:enc=3
 .subst g
  simp only[if_true,R8,PS,isIface,kK,gE,if_false,true_and,Int.reduceEq];refine zX (M.VW 1 a) (vJ 1 a 3 (by simp)) λy k b c=>⟨rfl,d.trans b,(y.1,()),rfl,c⟩
 by_cases j:enc=4
 .subst j
  simp only[if_true,R8,PS,isIface,kK,gE,if_false,true_and,Int.reduceEq];refine zX (M.rn a) (HU a) λy k b c=>⟨rfl,d.trans b,(y.1,()),rfl,c⟩
 .simp only[e,f,g,j,if_false,R8,PS,isIface,kK,if_true,true_and,Ym]
  refine⟨d,(0,()),rfl,?_⟩;show 0=bU enc a;simp[bU,e,f,g,j]
theorem gW(enc a:Int):0<bU enc a↔(enc=1/\((0<=a/\a<55296)\/(57343<a/\a<=1114111)\/(-256<=a/\a <= -129)))\/((enc=2\/enc=3) /\ -256<=a/\a<=1114111)\/(enc=4/\0<=a/\a<=255):=by
 unfold bU
 (repeat' split)<;>omega
end
section
variable{P:Program}{S:cG}{h:aE}{Q:Nat->bE->aE->Prop}
def dR(a:Int):aW:=
 if a<128 then [a] else if a<2048 then [192+a / 64,128+a % 64] else if a<65536 then [224+a / 4096,128+a / 64 % 64,128+a % 64]
 else [240+a / 262144,128+a / 4096 % 64,128+a / 64 % 64,128+a % 64]
def fM(enc u:Int):aW:=if enc=2 then [u % 256,u / 256] else [u / 256,u % 256]
def cW(enc a:Int):aW:=
 if a<0 then [-1-a] else if enc=1 then dR a else if enc=4 then [a]
 else if 65536<=a then fM enc (55296+(a-65536) / 1024)++fM enc (56320+a % 1024) else fM enc a
theorem oJ{enc a:Int}(b:0<bU enc a):((cW enc a).length:Int)=bU enc a:=by
 rw[gW]at b;unfold cW dR fM bU
 (repeat' split)<;>simp_all<;>omega
theorem oK(enc u:Int):(fM enc u).length=2:=by unfold fM;split<;>rfl
end
section
variable{P:Program}{S:cG}{h:aE}{Q:Nat->bE->aE->Prop}
def marks(M:Int->Int)(i n:Nat):aW:=(List.range' i n).map λ(j:Nat)=>M (j:Int)
theorem I7{l m:aW}{i:Nat}(b:i<l.length)(hm:i<m.length)(h:l.take i=m.take i)(he:l.getD i 0=m.getD i 0):l.take (i+1)=m.take (i+1):=by
 rw[eG,eG,h];rw[gF,gF,cM b,cM hm]at he;rw[cM b,cM hm];simp at he;rw[he]
end
section
variable{P:Program}{S:cG}{h:aE}{Q:Nat->bE->aE->Prop}
def At(l:aW)(at_:Nat)(m:aW):Bool:=decide ((l.drop at_).take m.length=m)
theorem v_(l:aW)(a b c:Int):At l 0 [a,b,c]=decide (3<=l.length/\l.getD 0 0=a/\l.getD 1 0=b/\l.getD 2 0=c):=by
 unfold At
 match l with
 |[]=>simp
 |[x]=>simp
 |[x,y]=>simp
 |x::y::z::r=>simp
theorem uz(l:aW)(a b:Int):At l 0 [a,b]=decide (2<=l.length/\l.getD 0 0=a/\l.getD 1 0=b):=by
 unfold At
 match l with
 |[]=>simp
 |[x]=>simp
 |x::y::r=>simp
theorem OM{l:aW}(h:l.all (λx=>decide (0<=x/\x<=255))=true):∀x,x∈l->cR .u8 x:=λx b=>vV.2 (by simpa using FF.1 h x b)
end
section
variable{P:Program}{S:cG}{h:aE}{Q:Nat->bE->aE->Prop}
end
section
variable{P:Program}{S:cG}{h:aE}{Q:Nat->bE->aE->Prop}
variable{a:Int}{l:aW}
theorem QW{enc:Int}(b:0<bU enc a):(cW enc a).length=(bU enc a).toNat:=by have:=oJ b;omega
theorem zE(enc a:Int):bU enc a<=4:=by unfold bU;(repeat' split)<;>omega
def ah(n:Nat)(out:Sl)(h:aE)(enc:Int)(l:aW)(a:Int)(x:Sl×Unit)(h':aE):Prop:=bR n .u8 h' x.1 (l++cW enc a)/\Cu out h h' x.1
theorem RZ{n:Nat}{out:Sl}(j:bR n .u8 h out l)(g:n<=h.size)(f:0<bU 4 a)(c:l.length+4<=140737488355328) :
  B8 n P (BA S () out a) [tS] h (ah n out h 4 l a):=by
 have ha:=(gW 4 a).1 f;unfold BA B8;refine IZ λm b=>?_;refine Hr (l:=l) (j.ext b) (by have:=b.size;omega) (range_u8 _) (by omega) (by omega) λr e k2 o2 k d=>aC ⟨rfl,gG.trans (b.aP g) k2,(r,()),rfl,?_,Cu.pre b ⟨k,d⟩⟩;have:cW 4 a=[dA .u8 a]:=by rw[Dh (by omega) (by omega)];unfold cW;rw[if_neg (by omega),if_neg (by decide),if_pos rfl]
 show bR n .u8 e r (l++cW 4 a);rw[this];exact o2
theorem T6{n:Nat}{out:Sl}{r u:Int}{enc:Int}(H:bR n .u8 h out l)(M:n<=h.size)(N:r=0/\enc=2\/r=1/\enc=3)(hu:0<=u)(X:u<65536)(J:l.length+2<=140737488355328) :
  B8 n P (nX S (r,()) out u) [tS] h λ(x:Sl×Unit) d=>bR n .u8 d x.1 (l++fM enc u)/\Cu out h d x.1:=by
 unfold nX B8;dsimp only;refine jG [r] (λx f=>by rw[dE.1 f,eO];omega) (by simp) λe g o1=>?_;refine jG (k:=.u8) [0,0] (by intro x f;simp at f;subst f;exact rU _) (by simp) λK c o2=>?_;have w:=(o1.ext c).kZ;refine F7 w (j:=0) (by simp) (F7 w (j:=0) (by simp) (Ag ?_));simp only[Rn];have D:cR .u8 (dA .u8 u):=range_u8 _;have E:cR .u8 (dA .u8 (wD .i64 u 8)):=range_u8 _;have v:∀x y,(some (⟨h.size,0,none⟩:Addr))=some x->(some (⟨e.size,0,none⟩:Addr))=some y->y.block≠x.block:=by
  intro x y f O;cases f;cases O;have:=(o1.own.lt (a:=⟨h.size,0,none⟩) rfl).2;dsimp only at this⊢;omega
 have G:n<=e.size:=by have:=g.size;omega
 have q:=g.trans c;have fin:∀(b:aE) (m:aW),bR e.size .u8 b ⟨some ⟨e.size,0,none⟩,2,2⟩ m->m=fM enc u->gG e.size K b ->
   wp P (.append 1 1 [(Value.int IntKind.u8 0)] out (⟨(bF (Option.some ⟨e.size,0,none⟩) 2 0 1),2,2⟩) λ(A:Sl)=>.ret 0 [(Value.slice A.aD A.len A.cap)]) b
    λt U d=>t=0/\gG n h d/\∃x:Sl×Unit,U=Ts.inj [tS] x/\bR n .u8 d x.1 (l++fM enc u)/\Cu out h d x.1:=by
  intro b m o hm z;rw[eQ];have F:gG n h b:=gG.trans (q.aP M) (z.mono G);have I:bR n .u8 b out l:=by
   refine(H.ext g).aP λa ha=>?_;have:=(H.own.lt ha).2;have:=g.size;rw[z.2.1 _ (by omega),c.2.1 _ (by omega)]
  refine Tf I (by have:=F.1;omega) o.kZ (by rw[hm,oK];omega) (by rw[hm,oK];omega) λy Y R o5 T b5=>aC ⟨rfl,gG.trans F R,(y,()),rfl,by rw[hm]at o5;exact o5,?_⟩;exact Cu.pre (gG.trans q (z.mono g.size)) ⟨T,b5⟩
 rcases N with⟨rfl,rfl⟩|⟨rfl,rfl⟩
 .refine sD (by decide) (QT o2 (j:=0) (by simp) D λL B p V=>?_)
  refine Nz ((o1.ext c).GV p v).kZ (j:=0) (by simp) rfl (sD (by decide) ?_);refine QT B (j:=1) (by simp) E λb o C W=>?_;refine fin b _ o ?_ (gG.trans (jE.G5 p (by intro a ha;cases ha;exact bL _) c.size) (jE.G5 C (by intro a ha;cases ha;exact bL _) (by have:=c.size;omega)));rw[EC,EC,tx];unfold fM;rw[if_pos rfl];simp;omega
 .refine sD (by decide) (QT o2 (j:=1) (by simp) D λL B p V=>?_)
  refine Nz ((o1.ext c).GV p v).kZ (j:=0) (by simp) rfl (sD (by decide) ?_);refine QT B (j:=0) (by simp) E λb o C W=>?_;refine fin b _ o ?_ (gG.trans (jE.G5 p (by intro a ha;cases ha;exact bL _) c.size) (jE.G5 C (by intro a ha;cases ha;exact bL _) (by have:=c.size;omega)));rw[EC,EC,tx];unfold fM;rw[if_neg (by decide)];simp;omega
theorem Gu{n:Nat}{out:Sl}{r:Int}{enc:Int}(u:bR n .u8 h out l)(o:n<=h.size)(p:r=0/\enc=2\/r=1/\enc=3)(F:0<bU enc a)(A:l.length+4<=140737488355328) :
  B8 n P (yA S (r,()) out a) [tS] h (ah n out h enc l a):=by
 have ha:=(gW enc a).1 F;have v:cR .i64 r:=by rw[eO];omega
 unfold yA B8;dsimp only;refine jG [r] (λx q=>by rw[dE.1 q];exact v) (by simp) λD c o1=>?_;have g:n<=D.size:=by have:=c.size;omega
 have k:=u.ext c;refine aG (λf=>?_) λf=>?_
 .rw[aV]at f
  refine Hr k g (range_u8 _) (by omega) (by omega) λy e k2 o2 I B=>aC ⟨rfl,gG.trans (c.aP o) k2,(y,()),rfl,?_,Cu.pre c ⟨I,B⟩⟩;have:cW enc a=[dA .u8 (bJ .i64 (-1) a)]:=by
   rw[cY (by omega) (by omega),Dh (by omega) (by omega)];unfold cW;rw[if_pos f]
  show bR n .u8 e y (l++cW enc a);rw[this];exact o2
 rw[aZ]at f;refine aG (λd=>?_) λd=>?_
 .rw[aV]at d
  refine I1 o1.kZ (NT (T6 k g p f d (by omega)) λy e k2 ⟨o2,m⟩=>aC ⟨rfl,gG.trans (c.aP o) k2,y,rfl,?_,Cu.pre c m⟩);have:cW enc a=fM enc a:=by unfold cW;rw[if_neg (by omega),if_neg (by omega),if_neg (by omega),if_neg (by omega)]
  show bR n .u8 e y.1 (l++cW enc a);rw[this];exact o2
 rw[aZ]at d;refine I1 o1.kZ (I1 o1.kZ (Ag ?_));have v1:Nq .i64 55296 (wD .i64 (bJ .i64 a 65536) 10)=55296+(a-65536) / 1024:=by
  rw[cY (by omega) (by omega),tv];exact F6 10 (by decide) (by decide) (by decide) (by omega) (by simp;omega) (by decide)
 have v2:Nq .i64 56320 (yU .i64 a 1023)=56320+a % 1024:=by
  rw[PD];exact F6 10 (by decide) (by decide) (by decide) (by omega) (by simp;omega) (by decide)
 rw[v1,v2];refine NT (T6 k g p (by omega) (by omega) (by omega)) λy e k2 ⟨o2,m⟩=>?_;have w:bR h.size .i64 e ⟨some ⟨h.size,0,none⟩,1,1⟩ [r]:=by
  refine bR.GV (t:=out) o1 m.GV λx b q hb=>?_;cases q;have:=(u.own.lt hb).2;dsimp only;omega
 refine Nz (j:=0) w.kZ (by simp) rfl ?_;refine NT (T6 o2 (by have:=k2.1;omega) p (by omega) (by omega) (by rw[bM,oK];omega)) λz E G ⟨H,C⟩=>aC ⟨rfl,gG.trans (gG.trans (c.aP o) k2) G,z,rfl,?_,Cu.pre c (m.trans C)⟩;have:cW enc a=fM enc (55296+(a-65536) / 1024)++fM enc (56320+a % 1024):=by
  unfold cW;rw[if_neg (by omega),if_neg (by omega),if_neg (by omega),if_pos (by omega)]
 show bR n .u8 E z.1 (l++cW enc a);rw[this,<-eC];exact H
theorem Ue(b:0<bU 1 a)(h0:0<=a):((dR a).length:Int)=bU 1 a:=by
 have:=oJ b;unfold cW at this;rw[if_neg (by omega),if_pos rfl]at this;exact this
theorem WA(c:0<bU 1 a)(h0:0<=a)(i:Int)(h1:0<=i)(b:i<=bU 1 a-2):(dR a).getD (bU 1 a-1-i).toNat 0=128+wD .i64 a (6*i) % 64:=by
 have f:=zE 1 a;have e:=(gW 1 a).1 c;have d:bU 1 a=if a<128 then 1 else if a<2048 then 2 else if a<65536 then 3 else 4:=by
  unfold bU;rw[if_pos rfl,if_neg (by omega)]
 rw[d]at b⊢;unfold dR;by_cases c1:a<128
 .rw[if_pos c1]at b;omega
 rw[if_neg c1]at b⊢;rw[if_neg c1];by_cases c2:a<2048
 .rw[if_pos c2]at b⊢
  rw[if_pos c2];obtain rfl:i=0:=by omega
  simp[od]
 rw[if_neg c2]at b⊢;rw[if_neg c2];by_cases c3:a<65536
 .rw[if_pos c3]at b⊢
  rw[if_pos c3];have:i=0\/i=1:=by omega
  rcases this with rfl|rfl
  .simp[od]
  .simp[oh]
 rw[if_neg c3]at b⊢;rw[if_neg c3];have:i=0\/i=1\/i=2:=by omega
 rcases this with rfl|rfl|rfl
 .simp[od]
 .simp[oh]
 .simp[ik]
theorem RY{n:Nat}{out:Sl}(ho:bR n .u8 h out l)(R:n<=h.size)(N:0<bU 1 a)(al:l.length+4<=140737488355328) :
  B8 n P (Bz S () out a) [tS] h (ah n out h 1 l a):=by
 have ha:=(gW 1 a).1 N;have hle:=zE 1 a;unfold Bz B8;refine IZ λh1 e1=>ek (aM (Di a) λx M e2 e=>?_);have e:x.1=bU 1 a:=e;rw[e];have c:=e1.trans e2;have q:=ho.ext c;have J:n<=M.size:=by have:=c.size;omega
 refine aG (λm=>?_) λm=>?_
 .rw[aV]at m
  refine Hr q J (range_u8 _) (by omega) (by omega) λy B U A W L=>aC ⟨rfl,gG.trans (c.aP R) U,(y,()),rfl,?_,Cu.pre c ⟨W,L⟩⟩;have:cW 1 a=[dA .u8 (bJ .i64 (-1) a)]:=by
   rw[cY (by omega) (by omega),Dh (by omega) (by omega)];unfold cW;rw[if_pos m]
  show bR n .u8 B y (l++cW 1 a);rw[this];exact A
 rw[aZ]at m;have F:bU 1 a=if a<128 then 1 else if a<2048 then 2 else if a<65536 then 3 else 4:=by
  unfold bU;rw[if_pos rfl,if_neg (by omega)]
 have w:cW 1 a=dR a:=by unfold cW;rw[if_neg (by omega),if_pos rfl]
 refine aG (λj=>?_) λj=>?_
 .rw[cJ]at j
  refine Hr q J (range_u8 _) (by omega) (by omega) λy B U A W L=>aC ⟨rfl,gG.trans (c.aP R) U,(y,()),rfl,?_,Cu.pre c ⟨W,L⟩⟩;have d:a<128:=by rw[j]at F;(repeat' split at F)<;>omega
  have:cW 1 a=[dA .u8 a]:=by rw[w,Dh (by omega) (by omega)];unfold dR;rw[if_pos d]
  show bR n .u8 B y (l++cW 1 a);rw[this];exact A
 rw[dM]at j;have d:¬a<128:=λI=>j (by rw[F,if_pos I]);have hlen:=Ue N m;refine jG (k:=.u8) [0,0,0,0,0] (OM rfl) (by simp) λB X A=>?_;refine Tj (l:=[0,0,0,0,0]) [0,0,192,224,240] A rfl (OM rfl) λC o4 u4 z4=>?_;have p:Ext M C:=gG.trans X (jE.G5 u4 (by intro x e;cases e;exact bL _) X.size);have Z:=q.ext p;have Y:n<=C.size:=by have:=p.size;omega
 have G:=c.trans p;refine sD (YJ (by omega) (by omega)) ?_;have E:∀{K:Int->aK} {Q},wp P (K ([0,0,192,224,240].getD (bU 1 a).toNat 0)) C Q->wp P (.load (.one (.int .u8)) (aB (Option.some ⟨M.size,0,none⟩) (bB (bP (bU 1 a)) 1)) K) C Q:=by
  intro K Q hk;rw[gX,eR,Hz];exact F7 o4.kZ (by simp;omega) hk
 refine E ?_;have hmul:sK .i64 6 (bJ .i64 (bU 1 a) 1)=6*(bU 1 a-1):=by
  rw[cY (by omega) (by omega),JQ (by omega) (by omega)]
 rw[hmul];refine sD (dN.2 (aZ.2 (by omega))) ?_;have O:Nq .u8 ([0,0,192,224,240].getD (bU 1 a).toNat 0) (dA .u8 (wD .i64 a (6*(bU 1 a-1))))=(dR a).getD 0 0:=by
  rw[F];unfold dR;rw[if_neg d,if_neg d];by_cases c2:a<2048
  .rw[if_pos c2,if_pos c2]
   have:wD .i64 a (6*(2-1))=a / 64:=oh a;rw[this,Dh (by omega) (by omega)];exact IS 6 (by decide) (by decide) (by decide) (by omega) (by simp;omega) (by decide)
  rw[if_neg c2,if_neg c2];by_cases c3:a<65536
  .rw[if_pos c3,if_pos c3]
   have:wD .i64 a (6*(3-1))=a / 4096:=ik a;rw[this,Dh (by omega) (by omega)];exact IS 4 (by decide) (by decide) (by decide) (by omega) (by simp;omega) (by decide)
  rw[if_neg c3,if_neg c3];have:wD .i64 a (6*(4-1))=a / 262144:=tw a;rw[this,Dh (by omega) (by omega)];exact IS 4 (by decide) (by decide) (by decide) (by omega) (by simp;omega) (by decide)
 rw[O];have v:0<(dR a).length:=by omega
 have D:∀x,x∈dR a->cR .u8 x:=by
  intro x e;rw[vV];unfold dR at e
  (repeat' split at e)<;>simp at e<;>omega
 have H:∀i,cR .u8 ((dR a).getD i 0):=by
  intro i;rw[gF];cases hi:(dR a)[i]? with
  |none=>exact rU _
  |some x=>exact D x (eL hi)
 refine Hr Z Y (H 0) (by omega) (by omega) λy h5 k5 o5 u5 b5=>?_;have ab:=gG.trans (G.aP R) k5;refine bO (λ(s:Sl×Int×Unit) f=>gG n h f /\ -1<=s.2.1/\s.2.1<=bU 1 a-2/\bR n .u8 f s.1 (l++(dR a).take (bU 1 a-1-s.2.1).toNat)/\Cu out h f s.1) (λs _=>(s.2.1+1).toNat)
  (λt vs f=>t=2/\∃x:Sl×Unit,vs=Ts.inj [tS] x/\gG n h f/\bR n .u8 f x.1 (l++dR a)/\Cu out h f x.1) ⟨ab,?_,?_,?_,Cu.pre G ⟨u5,b5⟩⟩ ?_ ?_
 .rw[cY (by omega) (by omega)];dsimp only;omega
 .rw[cY (by omega) (by omega)];dsimp only;omega
 .rw[cY (by omega) (by omega),show(bU 1 a-1-(bU 1 a-2)).toNat=1 by omega]
  have:(dR a).take 1=[(dR a).getD 0 0]:=by
   match hm:dR a with
   |[]=>rw[hm]at v;simp at v
   |z::r=>rfl
  rw[this];exact o5
 .rintro⟨s,(i:Int),u⟩ f ⟨k,i0,i1,o,g⟩
  dsimp only at i0 i1 o⊢;refine aG (λhi=>?_) λhi=>?_
  .rw[dT]at hi
   rw[JQ (by omega) (by omega)];refine sD (dN.2 (aZ.2 (by omega))) ?_;have T:Nq .u8 128 (yU .u8 (dA .u8 (wD .i64 a (6*i))) 63)=(dR a).getD (bU 1 a-1-i).toNat 0:=by
    rw[WA N m i hi i1,EC,U7 (by omega) (by omega)];have:=IS (a:=128) (b:=wD .i64 a (6*i) % 256 % 64) 6 (by decide) (by decide) (by decide) (by omega) (by simp;omega) (by decide);rw[this];omega
   rw[T];have I:((dR a).take (bU 1 a-1-i).toNat).length<=3:=by rw[dJ];omega
   refine Hr o (by have:=k.1;omega) (H _) (by rw[bM];omega) (by rw[bM];omega) λz h6 V o6 u6 b6=>?_;rw[cY (by omega) (by omega)];refine aC ⟨λ_=>⟨(z,i-1,()),rfl,⟨gG.trans k V,by dsimp only;omega,by dsimp only;omega,?_,g.trans ⟨u6,b6⟩⟩,by dsimp only;omega⟩,λh=>absurd rfl h⟩;dsimp only;rw[show(bU 1 a-1-(i-1)).toNat=(bU 1 a-1-i).toNat+1 by omega];have:(dR a).take ((bU 1 a-1-i).toNat+1)=(dR a).take (bU 1 a-1-i).toNat++[(dR a).getD (bU 1 a-1-i).toNat 0]:=by
    rw[eG,gF,cM (by omega)];rfl
   rw[this,<-eC];exact o6
  .rw[fC]at hi
   refine aC ⟨λh=>absurd h (by decide),λ_=>⟨rfl,(s,()),rfl,k,?_,g⟩⟩;rw[iF (by omega)]at o;exact o
 .rintro t vs h6 ⟨ht,x,T,V,o6,g6⟩
  refine pX ht x T (aC ⟨rfl,V,x,rfl,?_,g6⟩);rw[w];exact o6
end
section
variable{P:Program}{S:cG}{h:aE}{Q:Nat->bE->aE->Prop}
variable{a:Int}{l:aW}{i:Nat}
def eE(enc:Int):Prop:=1<=enc/\enc<=4
theorem Kl{enc:Int}(he:eE enc):isIface (AP S enc)=true/\kK (AP S enc)=false:=by
 unfold eE at he;have:enc=1\/enc=2\/enc=3\/enc=4:=by omega
 rcases this with rfl|rfl|rfl|rfl<;>exact⟨rfl,rfl⟩
theorem Gv{enc:Int}(he:¬eE enc):AP S enc = .nilIface:=by
 unfold eE at he;unfold AP;rw[if_neg (by omega),if_neg (by omega),if_neg (by omega),if_neg (by omega)]
structure jM(P:Program)(S:cG):Prop where
 ZG:∀a,Inv P (.iface S.nG (.agg #[])) S.Ce [.int .i64 a] (rJ S () a)
 QV:∀r a,Inv P (.iface S.hH (.agg #[.int .i64 r])) S.Ce [.int .i64 a] (qW S (r,()) a)
 ZF:∀a,Inv P (.iface S.nH (.agg #[])) S.Ce [.int .i64 a] (uW S () a)
 sq:∀(s:Sl) a,Inv P (.iface S.nG (.agg #[])) S.O1 [.slice s.aD s.len s.cap, .int .i64 a] (Bz S () s a)
 Zh:∀r (s:Sl) a,Inv P (.iface S.hH (.agg #[.int .i64 r])) S.O1 [.slice s.aD s.len s.cap, .int .i64 a] (yA S (r,()) s a)
 CW:∀(s:Sl) a,Inv P (.iface S.nH (.agg #[])) S.O1 [.slice s.aD s.len s.cap, .int .i64 a] (BA S () s a)
 nB:∀(s:Sl),Inv P (.iface S.nG (.agg #[])) S.BY [.slice s.aD s.len s.cap] (xW S () s)
 gB:∀r (s:Sl),Inv P (.iface S.hH (.agg #[.int .i64 r])) S.BY [.slice s.aD s.len s.cap] (tM S (r,()) s)
 Yw:∀(s:Sl),Inv P (.iface S.nH (.agg #[])) S.BY [.slice s.aD s.len s.cap] (xX S () s)
 sc:∀enc,eE enc->U4 P (.func (.method S.BY) #[AP S enc] #[])
theorem rA{enc:Int}(he:eE enc):enc=1\/enc=2\/enc=3\/enc=4:=by unfold eE at he;omega
theorem kq(M:jM P S){enc:Int}(he:eE enc){K:Int×Unit->aK}(b:∀(x:Int×Unit) c,Ext h c->x.1=bU enc a->wp P (K x) c Q) :
  wp P (.invoke (AP S enc) S.Ce [.int .i64 a] [tI] K) h Q:=by
 rcases rA he with rfl|rfl|rfl|rfl
 .exact zX (M.ZG a) (Di a) b
 .exact zX (M.QV 0 a) (vJ 0 a 2 (.inl rfl)) b
 .exact zX (M.QV 1 a) (vJ 1 a 3 (.inr rfl)) b
 .exact zX (M.ZF a) (HU a) b
theorem rh(M:jM P S){n:Nat}{enc:Int}(he:eE enc){out:Sl}(f:bR n .u8 h out l)(e:n<=h.size)(c:0<bU enc a)(b:l.length+4<=140737488355328)
  {K:Sl×Unit->aK} (d:∀(x:Sl×Unit) g,gG n h g->ah n out h enc l a x g->wp P (K x) g Q) :
  wp P (.invoke (AP S enc) S.O1 [.slice out.aD out.len out.cap, .int .i64 a] [tS] K) h Q:=by
 rcases rA he with rfl|rfl|rfl|rfl
 .exact LG (M.sq out a) (RY f e c b) d
 .exact LG (M.Zh 0 out a) (Gu f e (.inl ⟨rfl,rfl⟩) c b) d
 .exact LG (M.Zh 1 out a) (Gu f e (.inr ⟨rfl,rfl⟩) c b) d
 .exact LG (M.CW out a) (RZ f e c b) d
def a_(enc:Int)(l:aW)(b:aW)(at_ e:Int):Prop:=
 (¬eE enc/\b=[]/\at_=0/\e=10) \/
 (eE enc/\(∃i:Nat,i<l.length/\(∀a,a∈l.take i->0<bU enc a)/\¬0<bU enc (l.getD i 0)/\b=[]/\at_=i/\e=11)) \/
 (eE enc/\(∀a,a∈l->0<bU enc a)/\b=l.flatMap (cW enc)/\at_=0/\e=0)
theorem GJ{j:Nat}(hi:i<j)(b:i<l.length):l.getD i 0∈l.take j:=by
 rw[gF,cM b];exact eL (i:=i) (by rw[Hy,if_pos hi];exact cM b)
theorem Sv(b:i<l.length):l.getD i 0∈l:=by
 rw[gF,cM b];exact Cp b
theorem a_.fn{enc:Int}{b o:aW}{p t e e':Int}(h:a_ enc l b p e)(h':a_ enc l o t e'):b=o/\p=t/\e=e':=by
 rcases h with⟨f,rfl,rfl,rfl⟩|⟨f,i,hi,k,q,rfl,rfl,rfl⟩|⟨f,k,rfl,rfl,rfl⟩<;>rcases h' with⟨c,rfl,rfl,rfl⟩|⟨c,n,j,d,g,rfl,rfl,rfl⟩|⟨c,d,rfl,rfl,rfl⟩
 all_goals first|exact absurd c f|exact absurd f c|skip
 .exact⟨rfl,rfl,rfl⟩
 .have:i=n:=by
   by_cases r:i<n
   .exact absurd (d _ (GJ r hi)) q
   .by_cases m:n<i
    .exact absurd (k _ (GJ m j)) g
    .omega
  subst this;exact⟨rfl,rfl,rfl⟩
 .exact absurd (d _ (Sv hi)) q
 .exact absurd (k _ (Sv j)) g
 .exact⟨rfl,rfl,rfl⟩
def xu:List Ty:=[tS, tI, tI]
def Z9(n:Nat)(enc:Int)(l:aW)(x:Sl×Int×Int×Unit)(h':aE):Prop:=∃b,bR n .u8 h' x.1 b/\a_ enc l b x.2.1 x.2.2.1
theorem WM{enc:Int}(hi:i<l.length):(l.take (i+1)).flatMap (cW enc)=(l.take i).flatMap (cW enc)++cW enc (l.getD i 0):=by
 rw[eG,hQ,gF,cM hi];simp
theorem OC(hi:i<l.length){p:Int->Prop}(h:∀a,a∈l.take i->p a)(b:p (l.getD i 0)):∀a,a∈l.take (i+1)->p a:=by
 intro a ha;rw[eG,cM hi,dD]at ha;rcases ha with ha|ha
 .exact h a ha
 .simp at ha;subst ha
  rw[gF,cM hi]at b;exact b
theorem fT{enc:Int}:∀{l:aW},(∀a,a∈l->0<bU enc a)->(l.flatMap (cW enc)).length<=4*l.length:=by
 intro l
 induction l with
 |nil=>intro _;simp
 |cons a l c=>
  intro h;have d:=c λb hb=>h b (dZ _ hb);have e:=QW (h a (cX ..));have f:=zE enc a;simp only[fY,bM,fF];omega
theorem XR(M:jM P S){enc:Int}{s:Sl}(w:kB .i64 h s l)(F:l.length<=1099511627776):aS P (qS S enc s) xu h (Z9 h.size enc l):=by
 have j:=w.len;unfold qS;refine aM (ED enc) λc C q m=>?_;have m:c.1=AP S enc:=m;rw[m];by_cases d:¬eE enc
 .rw[Gv d]
  exact sD rfl (mI (aC ⟨rfl,q,(⟨none,0,0⟩,0,10,()),rfl,[],bR.nil .., .inl ⟨d,rfl,rfl,rfl⟩⟩))
 have d:=Classical.not_not.1 d;obtain⟨k1,k2⟩:=Kl (S:=S) d;rw[k1,k2];refine sD rfl (lI ?_);refine bO (λ(s:Sl×Int×Unit) e=>gG h.size h e/\0<=s.2.1/\s.2.1<=l.length/\(∀a,a∈l.take s.2.1.toNat->0<bU enc a)/\bR h.size .u8 e s.1 ((l.take s.2.1.toNat).flatMap (cW enc))) (λs _=>l.length-s.2.1.toNat)
  (λt p e=>gG h.size h e/\(t=2/\(∃x:Sl×Unit,p=Ts.inj [tS] x/\(∀a,a∈l->0<bU enc a)/\bR h.size .u8 e x.1 (l.flatMap (cW enc))) \/
   t=1/\∃i:Nat,p=[.slice none 0 0, .int .i64 i, .int .i64 11]/\i<l.length/\(∀a,a∈l.take i->0<bU enc a)/\¬0<bU enc (l.getD i 0))) ⟨q,by simp,by simp,by simp,bR.nil ..⟩ ?_ ?_
 .rintro⟨out,(i:Int),u⟩ e ⟨k,i0,i1,b,o⟩
  dsimp only at i0 i1 b o⊢;refine aG (λhi=>?_) λhi=>?_
  .rw[aV,aN,j]at hi
   refine qM (w.ext k) i0 (by omega) λ_=>kq M d λx D g z=>aG (λf=>?_) λf=>?_
   .rw[cJ,z]at f
    refine aC ⟨λh=>absurd h (by decide),λ_=>⟨gG.trans k (g.aP k.1), .inr ⟨rfl,i.toNat,?_,by omega,b,by omega⟩⟩⟩;rw[Int.toNat_of_nonneg i0]
   .rw[dM,z]at f
    have v:0<bU enc (l.getD i.toNat 0):=by have:=C3 enc (l.getD i.toNat 0);omega
    have r:=fT b;rw[dJ]at r;refine rh M d (o.ext g) (by have:=k.1;have:=g.1;omega) v (by omega) λy E A ⟨B,_⟩=>?_;rw[bG (by omega) (by omega)];refine aC ⟨λ_=>⟨(y.1,i+1,()),rfl,⟨gG.trans (gG.trans k (g.aP k.1)) A,by dsimp only;omega,by dsimp only;omega,?_,?_⟩,by dsimp only;omega⟩,λh=>absurd rfl h⟩
    .dsimp only;rw[show(i+1).toNat=i.toNat+1 by omega];exact OC (by omega) b v
    .dsimp only;rw[show(i+1).toNat=i.toNat+1 by omega,WM (by omega)];exact B
  .rw[aZ,aN,j]at hi
   rw[iF (by omega)]at b o;exact aC ⟨λh=>absurd h (by decide),λ_=>⟨k, .inl ⟨rfl,(out,()),rfl,b,o⟩⟩⟩
 .rintro t p e ⟨k,⟨ht,x,n,b,o⟩|⟨ht,i,n,hi,b,f⟩⟩
  .exact pX ht x n (aC ⟨rfl,k,(x.1,0,0,()),rfl,_,o, .inr (.inr ⟨d,b,rfl,rfl,rfl⟩)⟩)
  .exact pY (by omega) (pX ht (⟨none,0,0⟩,(i:Int),11,()) n (aC ⟨rfl,k,(⟨none,0,0⟩,(i:Int),11,()),rfl,[],bR.nil .., .inr (.inl ⟨d,i,hi,b,f,rfl,rfl,rfl⟩)⟩))
end
section
variable{l:aW}{i:Nat}{a:Int}
def dY(c:Int):Int×Int×Int:=
 if c<128 then (1,0,0) else if c<194 then (0,0,0) else if c<224 then (2,128,191) else if c=224 then (3,160,191) else if c=237 then (3,128,159)
 else if c<240 then (3,128,191) else if c=240 then (4,144,191) else if c<244 then (4,128,191) else if c=244 then (4,128,143) else (0,0,0)
def pQ(x:Int):Prop:=128<=x/\x<=191
instance (x:Int):Decidable (pQ x):=inferInstanceAs (Decidable (_/\_))
def CY(b0 b1 b2 b3:Int):Int×Int:=
 if (dY b0).1<2 then ((dY b0).1,(dY b0).1)
 else if ¬((dY b0).2.1<=b1/\b1<=(dY b0).2.2) then (1,(dY b0).1)
 else if (dY b0).1=2\/¬pQ b2 then (2,(dY b0).1)
 else if (dY b0).1=3\/¬pQ b3 then (3,(dY b0).1)
 else (4,(dY b0).1)
def oU(l:aW):Int×Int:=CY (l.getD 0 0) (l.getD 1 0) (l.getD 2 0) (l.getD 3 0)
def CT(n b0:Int):Int:=if n=2 then b0 % 32 else if n=3 then b0 % 16 else if n=4 then b0 % 8 else b0
def Ll(a:Int)(l:aW):Nat->Int
 |0=>a
 |i+1=>Ll a l i*64+l.getD (i+1) 0 % 64
def nB(l:aW):Int×Int:=
 if (oU l).2=0\/(oU l).1<(oU l).2 then (-1-l.getD 0 0,1) else (Ll (CT (oU l).2 (l.getD 0 0)) l ((oU l).2-1).toNat,(oU l).2)
def cB(enc:Int)(l:aW)(i:Nat):Int:=if enc=2 then l.getD i 0+256*l.getD (i+1) 0 else 256*l.getD i 0+l.getD (i+1) 0
def gB(enc:Int)(l:aW):Int×Int:=
 if l.length=1 then (-1-l.getD 0 0,1)
 else if 55296<=cB enc l 0/\cB enc l 0<56320/\4<=l.length/\56320<=cB enc l 2/\cB enc l 2<57344 then (65536+(cB enc l 0-55296)*1024+(cB enc l 2-56320),4)
 else (cB enc l 0,2)
def eH(enc:Int)(l:aW):Int×Int:=if enc=1 then nB l else if enc=4 then (l.getD 0 0,1) else gB enc l
def cA(l:aW):Prop:=∀x,x∈l->cR .u8 x
theorem cA.at(h:cA l)(i:Nat):0<=l.getD i 0/\l.getD i 0<=255:=by
 rw[gF];cases hi:l[i]? with
 |none=>exact⟨by decide,by decide⟩
 |some x=>exact vV.1 (h x (eL hi))
theorem cA.drop{l:aW}(h:cA l)(i:Nat):cA (l.drop i):=λx b=>h x (Bi b)
theorem cA.take{l:aW}(h:cA l)(i:Nat):cA (l.take i):=λx b=>h x (rG b)
theorem uG(l:aW)(a i:Nat):(l.drop a).getD i 0=l.getD (a+i) 0:=by
 rw[gF,gF,DO]
theorem He(h:l.getD i 0≠0):i<l.length:=by
 by_cases b:i<l.length
 .exact b
 .rw[gF,Ro (by omega)]at h;exact absurd rfl h
theorem AO(c:Int)(h0:0<=c)(h1:c<=255):0<=(dY c).1/\(dY c).1<=4/\((dY c).1<2\/128<=(dY c).2.1):=by
 unfold dY;(repeat' split)<;>simp
theorem IY(b c d e:Int)(h0:0<=b)(h1:b<=255):(CY b c d e).2=(dY b).1/\(CY b c d e).1<=(CY b c d e).2/\0<=(CY b c d e).1:=by
 have:=AO b h0 h1;unfold CY;generalize(dY b).1=n at *;generalize(dY b).2.1=lo at *;generalize(dY b).2.2=hi at *
 (repeat' split)<;>simp<;>omega
theorem Zn{b c d e:Int}(f:2<=(CY b c d e).2):(2<=(CY b c d e).1->128<=c)/\(3<=(CY b c d e).1->128<=d)/\(4<=(CY b c d e).1->128<=e)/\1<=(CY b c d e).1:=by
 have hb:(dY b).1<2\/128<=(dY b).2.1:=by unfold dY;(repeat' split)<;>simp
 unfold CY pQ at *;generalize(dY b).1=n at *;generalize(dY b).2.1=lo at *;generalize(dY b).2.2=hi at *
 (repeat' split at f)<;>(repeat' split)<;>simp at *<;>omega
theorem QP(k:0<l.length)(hb:cA l):(oU l).1<=l.length\/(oU l).2<2:=by
 by_cases f:2<=(oU l).2
 .left
  unfold oU at *;obtain⟨c,d,e,j⟩:=Zn f;have b:=hb.at 0;have hle:=IY (l.getD 0 0) (l.getD 1 0) (l.getD 2 0) (l.getD 3 0) b.1 b.2;have g:=AO (l.getD 0 0) b.1 b.2;generalize m:CY (l.getD 0 0) (l.getD 1 0) (l.getD 2 0) (l.getD 3 0)=r at *;have k1:2<=r.1->1<l.length:=λh=>He (by have:=c h;omega);have k2:3<=r.1->2<l.length:=λh=>He (by have:=d h;omega);have n:4<=r.1->3<l.length:=λh=>He (by have:=e h;omega);omega
 .right;omega
theorem Sn(c:0<l.length)(hb:cA l):1<=(nB l).2/\(nB l).2<=4/\(nB l).2<=l.length:=by
 have b:=hb.at 0;have hle:=IY (l.getD 0 0) (l.getD 1 0) (l.getD 2 0) (l.getD 3 0) b.1 b.2;have e:=AO (l.getD 0 0) b.1 b.2;have f:=QP c hb;unfold nB;have d:oU l=CY (l.getD 0 0) (l.getD 1 0) (l.getD 2 0) (l.getD 3 0):=rfl;rw[<-d]at hle;split
 .simp;omega
 .dsimp only;omega
theorem PX{enc:Int}(b:0<l.length):1<=(gB enc l).2/\(gB enc l).2<=4/\(gB enc l).2<=l.length:=by
 unfold gB;(repeat' split)<;>simp<;>omega
theorem iW{enc:Int}(b:0<l.length)(hb:cA l):1<=(eH enc l).2/\(eH enc l).2<=4/\(eH enc l).2<=l.length:=by
 unfold eH
 (repeat' split)
 .exact Sn b hb
 .simp;omega
 .exact PX b
theorem UT(h0:0<=a)(h1:a<256):∀i:Nat,0<=Ll a l i/\Ll a l i<256*64^i:=by
 intro i
 induction i with
 |zero=>simp[Ll];omega
 |succ i b=>
  simp only[Ll];have e:(64:Int) ^ (i+1)=64^i*64:=by rw[Int.pow_succ]
  rw[e];generalize(64:Int) ^ i=p at *;omega
theorem NR(h0:0<=a)(h1:a<256)(hi:i<=3):0<=Ll a l i/\Ll a l i<67108864:=by
 have:=UT (l:=l) h0 h1 i;have:i=0\/i=1\/i=2\/i=3:=by omega
 rcases this with rfl|rfl|rfl|rfl<;>simp at this⊢<;>omega
def zB(m:Nat):Int:=if m=2 then 192 else if m=3 then 224 else if m=4 then 240 else 0
def O4(a:Int)(l:aW):Nat->Int
 |0=>a
 |i+1=>O4 a l i*64+l.getD (i+1) 0-128
def hO(m:Nat)(l:aW):Int:=O4 (l.getD 0 0-zB m) l (m-1)
def iD(a:Int):Prop:=(0<=a/\a<55296)\/(57343<a/\a<=1114111)
instance (x:Int):Decidable (iD x):=inferInstanceAs (Decidable (_\/_))
def Ub(m:Nat)(l:aW):Prop:=iD (hO m l)/\(dR (hO m l)).length=m/\At l 0 (dR (hO m l))=true
theorem uy(l:aW)(a:Int):At l 0 [a]=decide (1<=l.length/\l.getD 0 0=a):=by
 unfold At
 match l with
 |[]=>simp
 |x::r=>simp
theorem vb(l:aW)(a b c d:Int):At l 0 [a,b,c,d]=decide (4<=l.length/\l.getD 0 0=a/\l.getD 1 0=b/\l.getD 2 0=c/\l.getD 3 0=d):=by
 unfold At
 match l with
 |[]=>simp
 |[x]=>simp
 |[x,y]=>simp
 |[x,y,z]=>simp
 |x::y::z::w::r=>simp
theorem Wd:At l 0 (dR a)=true ↔
  (a<128/\1<=l.length/\l.getD 0 0=a)\/(128<=a/\a<2048/\2<=l.length/\l.getD 0 0=192+a / 64/\l.getD 1 0=128+a % 64) \/
  (2048<=a/\a<65536/\3<=l.length/\l.getD 0 0=224+a / 4096/\l.getD 1 0=128+a / 64 % 64/\l.getD 2 0=128+a % 64) \/
  (65536<=a/\4<=l.length/\l.getD 0 0=240+a / 262144/\l.getD 1 0=128+a / 4096 % 64/\l.getD 2 0=128+a / 64 % 64/\l.getD 3 0=128+a % 64):=by
 unfold dR;by_cases b:a<128
 .rw[if_pos b,uy,decide_eq_true_eq];omega
 rw[if_neg b];by_cases c:a<2048
 .rw[if_pos c,uz,decide_eq_true_eq];omega
 rw[if_neg c];by_cases d:a<65536
 .rw[if_pos d,v_,decide_eq_true_eq];omega
 rw[if_neg d,vb,decide_eq_true_eq];omega
theorem JO(a:Int):(dR a).length=if a<128 then 1 else if a<2048 then 2 else if a<65536 then 3 else 4:=by
 unfold dR;(repeat' split)<;>rfl
theorem PE(x:Int)(h0:0<=x)(h1:x<=255) :
  (x<128/\dY x=(1,0,0))\/(128<=x/\x<194/\dY x=(0,0,0))\/(194<=x/\x<224/\dY x=(2,128,191))\/(x=224/\dY x=(3,160,191))\/(x=237/\dY x=(3,128,159)) \/
  (224<x/\x<240/\x≠237/\dY x=(3,128,191))\/(x=240/\dY x=(4,144,191))\/(240<x/\x<244/\dY x=(4,128,191))\/(x=244/\dY x=(4,128,143))\/(244<x/\dY x=(0,0,0)):=by
 unfold dY
 (repeat' split)<;>simp<;>omega
theorem JV{b x1 x2 x3:Int}(h0:0<=b)(h1:b<=255)(m:Int)(hm:1<=m):CY b x1 x2 x3=(m,m) ↔
  (m=1/\b<128)\/(m=2/\194<=b/\b<224/\pQ x1) \/
  (m=3/\224<=b/\b<240/\pQ x1/\pQ x2/\(b=224->160<=x1)/\(b=237->x1<=159)) \/
  (m=4/\240<=b/\b<=244/\pQ x1/\pQ x2/\pQ x3/\(b=240->144<=x1)/\(b=244->x1<=143)):=by
 unfold CY pQ;rcases PE b h0 h1 with⟨c,e⟩|⟨c,d,e⟩|⟨c,d,e⟩|⟨c,e⟩|⟨c,e⟩|⟨c,d,f,e⟩|⟨c,e⟩|⟨c,d,e⟩|⟨c,e⟩|⟨c,e⟩
 all_goals rw[e]
 all_goals dsimp only
 all_goals (repeat' split)
 all_goals simp only[oL]
 all_goals omega
theorem db(a:Int)(m:Nat):(dR a).length=m↔(m=1/\a<128)\/(m=2/\128<=a/\a<2048)\/(m=3/\2048<=a/\a<65536)\/(m=4/\65536<=a):=by
 rw[JO];(repeat' split)<;>omega
theorem Mt(hb:cA l){m:Nat}(h1:1<=m)(B:m<=4)(hm:m<=l.length):Ub m l↔oU l=((m:Int),(m:Int)):=by
 have o:=hb.at 0;have r:=hb.at 1;have p:=hb.at 2;have j:=hb.at 3;unfold Ub;rw[Wd,db];unfold oU;rw[JV o.1 o.2 _ (by omega)];unfold iD hO pQ;have g:m=1\/m=2\/m=3\/m=4:=by omega
 rcases g with rfl|rfl|rfl|rfl
 .simp only[O4,zB,Nat.reduceSub,if_false,Nat.reduceEqDiff,Int.reduceEq,Nat.reduceEqDiff,true_and,false_and,or_false,false_or,LR,reduceCtorEq,Int.natCast_one]
  generalize l.getD 0 0=c at *;clear r p j;constructor
  .rintro⟨h,f,b⟩;omega
  .intro h;exact⟨by omega,by omega,by omega⟩
 .simp only[O4,zB,Nat.reduceSub,if_true,if_false,Nat.reduceEqDiff,Nat.reduceAdd,Int.reduceEq,Nat.reduceEqDiff,true_and,false_and,or_false,false_or,LR,reduceCtorEq]
  generalize l.getD 0 0=c at *;generalize l.getD 1 0=d at *;obtain⟨a,ha⟩:∃a,a=(c-192)*64+d-128:=⟨_,rfl⟩;rw[<-ha];clear p j;constructor
  .rintro⟨h,f,b⟩
   have f:128<=a/\a<2048:=by omega
   have b:c=192+a / 64/\d=128+a % 64:=by omega
   omega
  .intro h
   have h:194<=c/\c<224/\128<=d/\d<=191:=by omega
   exact⟨by omega,by omega, .inr (.inl (by omega))⟩
 .simp only[O4,zB,Nat.reduceSub,if_true,if_false,Nat.reduceEqDiff,Nat.reduceAdd,Int.reduceEq,Nat.reduceEqDiff,true_and,false_and,or_false,false_or,LR,reduceCtorEq]
  generalize l.getD 0 0=c at *;generalize l.getD 1 0=d at *;generalize l.getD 2 0=e at *;obtain⟨a,ha⟩:∃a,a=((c-224)*64+d-128)*64+e-128:=⟨_,rfl⟩;rw[<-ha];clear j;constructor
  .rintro⟨h,f,b⟩
   have f:2048<=a/\a<65536:=by omega
   rcases b with b|b|b|b
   .omega
   .omega
   .obtain⟨_,_,_,e0,k,q⟩:=b
    exact⟨by omega,by omega,by omega,by omega,by omega,by omega⟩
   .omega
  .intro h
   have h:224<=c/\c<240/\(128<=d/\d<=191)/\(128<=e/\e<=191)/\(c=224->160<=d)/\(c=237->d<=159):=by omega
   obtain⟨t,u,v,w,x,y⟩:=h;have e0:a / 4096=c-224:=by omega
   have k:a / 64=(c-224)*64+d-128:=by omega
   refine⟨by omega,⟨by omega,by omega⟩, .inr (.inr (.inl ⟨by omega,by omega,hm,by omega,by omega,by omega⟩))⟩
 .simp only[O4,zB,Nat.reduceSub,if_true,if_false,Nat.reduceEqDiff,Nat.reduceAdd,Int.reduceEq,Nat.reduceEqDiff,true_and,false_and,or_false,false_or,LR,reduceCtorEq]
  generalize l.getD 0 0=c at *;generalize l.getD 1 0=d at *;generalize l.getD 2 0=e at *;generalize l.getD 3 0=n at *;obtain⟨a,ha⟩:∃a,a=(((c-240)*64+d-128)*64+e-128)*64+n-128:=⟨_,rfl⟩;rw[<-ha];constructor
  .rintro⟨h,f,b⟩
   have f:65536<=a:=by omega
   have h:a<=1114111:=by omega
   rcases b with b|b|b|b
   .omega
   .omega
   .omega
   .obtain⟨_,_,e0,k,q,A⟩:=b
    exact⟨by omega,by omega,by omega,by omega,by omega,by omega,by omega⟩
  .intro h
   have h:240<=c/\c<=244/\(128<=d/\d<=191)/\(128<=e/\e<=191)/\(128<=n/\n<=191)/\(c=240->144<=d)/\(c=244->d<=143):=by omega
   obtain⟨t,u,v,w,z,x,y⟩:=h;have e0:a / 262144=c-240:=by omega
   have k:a / 4096=(c-240)*64+d-128:=by omega
   have q:a / 64=((c-240)*64+d-128)*64+e-128:=by omega
   refine⟨by omega,by omega, .inr (.inr (.inr ⟨by omega,hm,by omega,by omega,by omega,by omega⟩))⟩
theorem F5(hb:cA l){m:Nat}(h1:1<=m)(f:m<=4)(e:oU l=((m:Int),(m:Int))):nB l=(hO m l,(m:Int)):=by
 have d:=hb.at 0;have b:=e;unfold oU at b;rw[JV d.1 d.2 _ (by omega)]at b;unfold nB;rw[e,if_neg (by dsimp only;omega)];unfold hO CT pQ at *;have c:m=1\/m=2\/m=3\/m=4:=by omega
 rcases c with rfl|rfl|rfl|rfl
 all_goals simp[Ll,O4,zB]
 all_goals simp at b d
 all_goals generalize l[0]?.getD 0=g at *
 all_goals generalize l[1]?.getD 0=j at *
 all_goals generalize l[2]?.getD 0=k at *
 all_goals generalize l[3]?.getD 0=n at *
 all_goals omega
theorem LC(hb:cA l)(d:0<l.length)(e:∀m:Nat,1<=m->m<=4->m<=l.length->oU l≠((m:Int),(m:Int))):nB l=(-1-l.getD 0 0,1):=by
 have b:=hb.at 0;have hle:=IY (l.getD 0 0) (l.getD 1 0) (l.getD 2 0) (l.getD 3 0) b.1 b.2;have f:=AO (l.getD 0 0) b.1 b.2;have g:=QP d hb;unfold nB;split
 .rfl
 .rename_i j
  exfalso;have c:oU l=CY (l.getD 0 0) (l.getD 1 0) (l.getD 2 0) (l.getD 3 0):=rfl;rw[<-c]at hle;refine e (oU l).2.toNat (by omega) (by omega) (by omega) ?_;refine Prod.ext ?_ ?_<;>dsimp only<;>omega
end
section
variable{P:Program}{S:cG}{h:aE}{Q:Nat->bE->aE->Prop}
variable{l:aW}{s:Sl}
theorem XY{c:Int}:aS P (uU S c) [tI, .one (.int .u8), .one (.int .u8)] h λ(x:Int×Int×Int×Unit) _=>(x.1,x.2.1,x.2.2.1)=dY c:=by
 refine MJ ((dY c).1,(dY c).2.1,(dY c).2.2,()) (λQ b=>?_) λ_=>rfl;unfold uU dY at *;simp only[PS,Ym,cJ,aV];have:=b h (Ext.refl h)
 repeat' split
 all_goals simp_all [Ts.inj,Ty.inj,B.inj]
theorem qk{b:Sl}(hb:kB .u8 h b l)(T:0<l.length):aS P (By S b) [tI, tI] h λ(x:Int×Int×Unit) _=>(x.1,x.2.1)=oU l:=by
 have r:=hb.len;have Z:=hb.bound;have F:=hb.byte 0;have A:=AO (l.getD 0 0) F.1 F.2;unfold By oU CY;refine Pg (n:=0) hb T λ_=>aM XY λ⟨(n:Int),(lo:Int),(hi:Int),_⟩ w v f=>?_;have f:(n,lo,hi)=dY (l.getD 0 0):=f;rw[<-f]at A⊢;dsimp only at A⊢;refine aG (λd=>?_) λd=>?_
 .rw[aV]at d
  rw[if_pos d];exact aC ⟨rfl,v,(n,n,()),rfl,rfl⟩
 rw[aZ]at d;rw[if_neg (by omega)];have z:=hb.ext v;have y:∀{g K Q},Ext w g->1<l.length->wp P (K (l.getD 1 0)) g Q->wp P (bD (bN (aJ b.aD) (eV 1 b.len)) (.load (.one (.int .u8)) (aB b.aD 1) K)) g Q:=λe w o=>Pg (n:=1) (z.ext e) w λ_=>o;have O:∀i,l.length<=i->l.getD i 0=0:=λi hi=>by rw[gF,Ro hi];rfl
 refine bW (¬(lo<=l.getD 1 0/\l.getD 1 0<=hi)) ?_ λc H C B=>aG (λm=>?_) λm=>?_
 .refine aG (λd=>?_) λd=>?_
  .rw[aV,aN,r]at d
   refine aC ⟨rfl,Ext.refl _,_,rfl,?_⟩;rw[O 1 (by omega)];exact⟨λ_=>by omega,λ_=>rfl⟩
  rw[aZ,aN,r]at d;refine y (Ext.refl _) (by omega) (aG (λd=>?_) λd=>?_)
  .rw[aV]at d
   exact aC ⟨rfl,Ext.refl _,_,rfl,⟨λ_=>by omega,λ_=>rfl⟩⟩
  rw[aZ]at d;refine y (Ext.refl _) (by omega) (aC ⟨rfl,Ext.refl _,_,rfl,?_⟩);rw[dQ];omega
 .rw[if_pos (B.1 m)]
  exact aC ⟨rfl,v.trans C,(1,n,()),rfl,rfl⟩
 have I:lo<=l.getD 1 0/\l.getD 1 0<=hi:=Classical.not_not.1 λp=>by rw[B.2 p]at m;cases m
 rw[if_neg (λp=>p I)];have Y:=z.ext C;refine bO (λ(s:Int×Unit) g=>Ext h g/\2<=s.1/\s.1<=n/\∀j:Nat,2<=j->(j:Int)<s.1->pQ (l.getD j 0)) (λs _=>4-s.1.toNat)
  (λt R g=>t=2/\∃k:Int,R=[.int .i64 k]/\Ext h g/\2<=k/\k<=n/\(∀j:Nat,2<=j->(j:Int)<k->pQ (l.getD j 0))/\(k<n->¬pQ (l.getD k.toNat 0))) ⟨v.trans C,by simp,by dsimp only;omega,λj w H=>by dsimp only at H;omega⟩ ?_ ?_
 .rintro⟨(k:Int),u⟩ g ⟨e,E,k1,o⟩
  dsimp only at E k1 o⊢;refine bW (k<n/\pQ (l.getD k.toNat 0)) ?_ λc m G d=>aG (λm=>?_) λm=>?_
  .refine aG (λd=>?_) λd=>?_
   .rw[aV]at d
    refine aG (λD=>?_) λD=>?_
    .rw[aV,aN,r]at D
     refine qM (hb.ext e) (by omega) (by omega) λL=>aC ⟨rfl,Ext.refl _,_,rfl,?_⟩;rw[vV]at L;rw[cJ,XJ L.1 (by omega)];unfold pQ;omega
    .rw[aZ,aN,r]at D
     refine aC ⟨rfl,Ext.refl _,_,rfl,?_⟩;rw[O _ (by omega)];simp[pQ]
   .rw[aZ]at d
    exact aC ⟨rfl,Ext.refl _,_,rfl,by
     constructor;· intro h;cases h
     .intro h;omega⟩
  .obtain⟨q1,X⟩:=d.1 m
   rw[bG (by omega) (by omega)];refine aC ⟨λ_=>⟨(k+1,()),rfl,⟨e.trans G,by dsimp only;omega,by dsimp only;omega,λj V W=>?_⟩,by dsimp only;omega⟩,λh=>absurd rfl h⟩;dsimp only at W;by_cases hj:(j:Int)=k
   .rw[show j=k.toNat by omega];exact X
   .exact o j V (by omega)
  .refine aC ⟨λh=>absurd h (by decide),λ_=>⟨rfl,k,rfl,e.trans G,E,k1,o,λN J=>?_⟩⟩
   rw[d.2 ⟨N,J⟩]at m;cases m
 .rintro t R g ⟨ht,k,U,e,E,k1,o,q⟩
  refine pX ht (k,()) U (aC ⟨rfl,e,(k,n,()),rfl,?_⟩);dsimp only;have c2:2<k->pQ (l.getD 2 0):=λh=>o 2 (by omega) (by omega);have c3:3<k->pQ (l.getD 3 0):=λh=>o 3 (by omega) (by omega);have d2:k=2->2<n->¬pQ (l.getD 2 0):=λh g=>by have:=q (by omega);rwa [h]at this
  have d3:k=3->3<n->¬pQ (l.getD 3 0):=λh g=>by have:=q (by omega);rwa [h]at this
  have M:k=2\/k=3\/k=4:=by omega
  rcases M with rfl|rfl|rfl
  .rw[if_pos]
   by_cases p:n=2
   .exact .inl p
   .exact .inr (d2 rfl (by omega))
  .rw[if_neg (by intro f;rcases f with f|f;omega;exact f (c2 (by omega))),if_pos]
   by_cases p:n=3
   .exact .inl p
   .exact .inr (d3 rfl (by omega))
  .rw[if_neg (by intro f;rcases f with f|f;omega;exact f (c2 (by omega))),if_neg (by intro f;rcases f with f|f;omega;exact f (c3 (by omega)))]
def gi:List Ty:=[tI, tI]
theorem N7{b:Sl}(hb:kB .u8 h b l)(r:0<l.length):aS P (xW S () b) gi h λ(x:Int×Int×Unit) _=>(x.1,x.2.1)=nB l:=by
 have Y:=hb.len;have W:=hb.bound;have y:cA l:=hb.wf;have q:=hb.byte 0;have hle:=IY (l.getD 0 0) (l.getD 1 0) (l.getD 2 0) (l.getD 3 0) q.1 q.2;have X:=AO (l.getD 0 0) q.1 q.2;have A:=QP r y;have O:oU l=CY (l.getD 0 0) (l.getD 1 0) (l.getD 2 0) (l.getD 3 0):=rfl;rw[<-O]at hle;unfold xW nB;refine IZ λH F=>aM (qk (hb.ext F) r) λ⟨(p:Int),(n:Int),_⟩ I T E=>?_;have E:(p,n)=oU l:=E;rw[<-E]at hle A⊢;dsimp only at hle A⊢;have k:=F.trans T;refine bW (n=0\/p<n) ?_ λc Z C L=>aG (λf=>?_) λf=>?_
 .refine aG (λd=>?_) λd=>?_
  .rw[cJ]at d
   exact aC ⟨rfl,Ext.refl _,_,rfl,by simp[d]⟩
  .rw[dM]at d
   exact aC ⟨rfl,Ext.refl _,_,rfl,by rw[aV];omega⟩
 .rw[if_pos (L.1 f)]
  refine Pg (n:=0) ((hb.ext k).ext C) r λ_=>?_;rw[nU (by omega) (by omega),cY (by omega) (by omega)];exact aC ⟨rfl,k.trans C,(_,1,()),rfl,rfl⟩
 have N:¬(n=0\/p<n):=λh=>by rw[L.2 h]at f;cases f
 rw[if_neg N];have v:=k.trans C;refine Pg (n:=0) (hb.ext v) r λ_=>?_;rw[nU (by omega) (by omega),qe,qd,ux];refine iO (tys:=[tI]) (λ(x:Int×Unit) _=>x.1=CT n (l.getD 0 0)) ?_ λ⟨(m:Int),_⟩ J U hm=>?_
 .unfold CT
  refine aG (λd=>?_) λd=>?_
  .rw[cJ]at d
   exact aC ⟨rfl,Ext.refl _,(_,()),rfl,by rw[if_pos d]⟩
  rw[dM]at d;rw[if_neg d];refine aG (λd=>?_) λd=>?_
  .rw[cJ]at d
   exact aC ⟨rfl,Ext.refl _,(_,()),rfl,by rw[if_pos d]⟩
  rw[dM]at d;rw[if_neg d];refine aG (λd=>?_) λd=>?_
  .rw[cJ]at d
   exact aC ⟨rfl,Ext.refl _,(_,()),rfl,by rw[if_pos d]⟩
  rw[dM]at d;exact aC ⟨rfl,Ext.refl _,(l.getD 0 0,()),rfl,by rw[if_neg d]⟩
 have hm:m=CT n (l.getD 0 0):=hm;subst hm;have z:0<=CT n (l.getD 0 0)/\CT n (l.getD 0 0)<256:=by unfold CT;(repeat' split)<;>omega
 dsimp only;have V:=hb.cap;refine sD (fD.2 ⟨iQ (by omega) (by omega),iQ (by omega) (by rw[eR];omega)⟩) ?_;have w:=v.trans U;have D:kB .u8 J ⟨bF b.aD b.cap 1 1,cV (bP n) 1,b.cap-1⟩ ((l.drop 1).take (n-1).toNat):=by
  have H:=(hb.ext w).drop (i:=1) (m:=b.cap-1) (by omega) (by omega) (by have:=hb.max;omega);have I:=H.take (n:=(n-1).toNat) (m:=b.cap-1) (by rw[cZ];omega) (by omega) (by have:=hb.max;omega);have:cV (bP n) 1=(n-1).toNat:=by rw[eR];unfold cV;omega
  rw[this];exact I
 have g:=D.len;dsimp only at g;rw[dJ,cZ]at g;rw[g];have o:min (n-1).toNat (l.length-1)=(n-1).toNat:=by omega
 rw[o];rw[g,o]at D;refine bO (λ(s:Int×Int×Unit) j=>Ext h j/\Ext J j/\0<=s.2.1/\s.2.1<=n-1/\s.1=Ll (CT n (l.getD 0 0)) l s.2.1.toNat) (λs _=>(n-1-s.2.1).toNat)
  (λt R j=>t=3/\Ext h j/\R=[.int .i64 (Ll (CT n (l.getD 0 0)) l (n-1).toNat)]) ⟨w,Ext.refl _,by simp,by dsimp only;omega,rfl⟩ ?_ ?_
 .rintro⟨(a:Int),(i:Int),u⟩ j ⟨e,G,i0,i1,ha⟩
  dsimp only at i0 i1 ha⊢;refine aG (λhi=>?_) λhi=>?_
  .rw[aV,aN]at hi
   have B:=NR (l:=l) z.1 z.2 (i:=i.toNat) (by omega);rw[<-ha]at B;have K:=y.at (i.toNat+1);have M:((l.drop 1).take (n-1).toNat).getD i.toNat 0=l.getD (i.toNat+1) 0:=by
    rw[gF,Hy,if_pos (by omega),DO,<-gF,FE]
   refine qM (D.ext G) i0 (by rw[dJ,cZ];omega) λ_=>Ag ?_;rw[M,v9 B.1 (by omega),U7 K.1 (by omega),nU (by omega) (by omega)];rw[F6 (a:=a*64) (b:=l.getD (i.toNat+1) 0 % 64) 6 (by omega) (by omega) (by simp) (by omega) (by simp;omega) (by decide)];rw[bG (by omega) (by omega)];refine aC ⟨λ_=>⟨(a*64+l.getD (i.toNat+1) 0 % 64,i+1,()),rfl,⟨e,G,by dsimp only;omega,by dsimp only;omega,?_⟩,by dsimp only;omega⟩,λh=>absurd rfl h⟩;dsimp only;rw[show(i+1).toNat=i.toNat+1 by omega];show _=Ll _ l i.toNat*64+_;rw[ha]
  .rw[aZ,aN]at hi
   refine aC ⟨λh=>absurd h (by decide),λ_=>⟨rfl,e,?_⟩⟩;rw[ha,show i.toNat=(n-1).toNat by omega]
 .rintro t R j ⟨ht,e,p⟩
  exact pX ht (_,()) p (aC ⟨rfl,e,(_,n,()),rfl,rfl⟩)
theorem N8{b:Sl}(hb:kB .u8 h b l)(d:0<l.length):aS P (xX S () b) gi h λ(x:Int×Int×Unit) _=>(x.1,x.2.1)=(l.getD 0 0,1):=by
 have e:=hb.byte 0;unfold xX;refine IZ λf c=>Pg (n:=0) (hb.ext c) d λ_=>?_;rw[nU (by omega) (by omega)];exact aC ⟨rfl,c,(l.getD 0 0,1,()),rfl,rfl⟩
def d_(r enc:Int):Prop:=r=0/\enc=2\/r=1/\enc=3
theorem Yd{b:Sl}{r enc:Int}(d:d_ r enc)(hb:kB .u8 h b l)(n:2<=l.length):aS P (qX S (r,()) b) [tI] h λ(x:Int×Unit) _=>x.1=cB enc l 0:=by
 have g:=hb.byte 0;have k:=hb.byte 1;unfold d_ at d;unfold qX;dsimp only;refine jG [r] (λx e=>by rw[dE.1 e,eO];omega) (by simp) λm c o1=>?_;refine F7 o1.kZ (j:=0) (by simp) ?_;simp only[Rn];refine qM (hb.ext c) (by omega) (by omega) λ_=>F7 o1.kZ (j:=0) (by simp) ?_;simp only[Rn];rw[cY (by omega) (by omega)];refine qM (hb.ext c) (by omega) (by omega) λ_=>Ag ?_;have key:Nq .i64 (dA .i64 (l.getD r.toNat 0)) (Hu .i64 (dA .i64 (l.getD (1-r).toNat 0)) 8)=cB enc l 0:=by
  have j:∀x y:Int,0<=x->x<=255->0<=y->y<=255->Nq .i64 (dA .i64 x) (Hu .i64 (dA .i64 y) 8)=x+256*y:=by
   intro x y o p f q;rw[nU (by omega) (by omega),nU (by omega) (by omega),w_ f (by omega)];have:Nq .i64 x (y*256)=Nq .i64 (y*256) x:=by
    unfold Nq;rw[BitVec.or_comm]
   rw[this,F6 (a:=y*256) (b:=x) 8 (by omega) (by omega) (by simp) (by omega) (by simp;omega) (by decide)];omega
  rcases d with⟨rfl,rfl⟩|⟨rfl,rfl⟩
  .rw[j _ _ (hb.byte _).1 (hb.byte _).2 (hb.byte _).1 (hb.byte _).2];rfl
  .rw[j _ _ (hb.byte _).1 (hb.byte _).2 (hb.byte _).1 (hb.byte _).2]
   show l.getD 1 0+256*l.getD 0 0=256*l.getD 0 0+l.getD 1 0;omega
 rw[key];exact aC ⟨rfl,c,(cB enc l 0,()),rfl,rfl⟩
theorem nI{enc:Int}(hb:cA l)(i:Nat):0<=cB enc l i/\cB enc l i<65536:=by
 have h0:=hb.at i;have b:=hb.at (i+1);unfold cB;split<;>omega
theorem jq{u:Int}(h0:0<=u)(h1:u<65536):aS P (Al S u) [tB] h λ(x:Bool×Unit) _=>(x.1=true↔55296<=u/\u<56320):=by
 unfold Al;rw[Mj h0 (by omega)];exact aC ⟨rfl,Ext.refl _,(fU _ 55296,()),rfl,by show fU _ _=true↔_;rw[cJ];omega⟩
theorem qj{u:Int}(h0:0<=u)(h1:u<65536):aS P (Bx S u) [tB] h λ(x:Bool×Unit) _=>(x.1=true↔56320<=u/\u<57344):=by
 unfold Bx;rw[Mj h0 (by omega)];exact aC ⟨rfl,Ext.refl _,(fU _ 56320,()),rfl,by show fU _ _=true↔_;rw[cJ];omega⟩
theorem NP(enc:Int)(l:aW)(i:Nat):cB enc (l.drop i) 0=cB enc l i:=by
 unfold cB;rw[uG,uG];simp
end
end Go.Sw.Codec
namespace Go.Sw
open Go.Sw.Codec
variable{P:Program}{S:cG}{h:aE}{Q:Nat->bE->aE->Prop}
variable{l:aW}{s:Sl}
theorem kB.tail{k:IntKind}(b:kB k h s l){i:Nat}(hi:i<=l.length):kB k h ⟨bF s.aD s.cap i 1,cV s.len i,cV s.cap i⟩ (l.drop i):=
 b.drop hi (by have:=b.cap;unfold cV;omega) (by have:=b.max;unfold cV;omega)
end Go.Sw
namespace Go.Sw.Codec
section
variable{P:Program}{S:cG}{h:aE}{Q:Nat->bE->aE->Prop}
variable{l:aW}{s:Sl}
theorem DV{b:Sl}{r enc:Int}(y:d_ r enc)(hb:kB .u8 h b l)(K:0<l.length):aS P (tM S (r,()) b) gi h λ(x:Int×Int×Unit) _=>(x.1,x.2.1)=gB enc l:=by
 have m:=hb.len;have p:cA l:=hb.wf;have T:=hb.byte 0;have F:cR .i64 r:=by unfold d_ at y;rw[eO];omega
 have H:=nI (enc:=enc) p 0;have I:=nI (enc:=enc) p 2;unfold tM gB;dsimp only;refine jG [r] (λx j=>by rw[dE.1 j];exact F) (by simp) λU o o1=>?_;refine aG (λw=>?_) λw=>?_
 .rw[cJ,aN,m]at w
  rw[if_pos (by omega)];refine Pg (n:=0) (hb.ext o) K λ_=>?_;rw[nU (by omega) (by omega),cY (by omega) (by omega)];exact aC ⟨rfl,o,(_,1,()),rfl,rfl⟩
 rw[dM,aN,m]at w;rw[if_neg (by omega)];refine I1 o1.kZ (aM (Yd y (hb.ext o) (by omega)) λ⟨(u:Int),_⟩ V A hu=>?_);have hu:u=cB enc l 0:=hu;subst hu;dsimp only;have k:=o.trans A;have E:=hb.ext k;refine eN (λt z D=>Ext h D/\(t=0/\z=[]/\¬(55296<=cB enc l 0/\cB enc l 0<56320/\4<=l.length/\56320<=cB enc l 2/\cB enc l 2<57344) \/
  t=1/\(55296<=cB enc l 0/\cB enc l 0<56320/\4<=l.length/\56320<=cB enc l 2/\cB enc l 2<57344)/\z=[.int .i64 (65536+(cB enc l 0-55296)*1024+(cB enc l 2-56320)), .int .i64 4])) ?_ ?_
 .refine bW (55296<=cB enc l 0/\cB enc l 0<56320/\4<=l.length) ?_ λc J f q=>aG (λd=>?_) λd=>?_
  .refine aM (jq H.1 H.2) λx J f j=>aG (λd=>?_) λd=>?_
   .refine aC ⟨rfl,f,_,rfl,?_⟩
    have:=j.1 d;rw[dT,aN,m];omega
   .refine aC ⟨rfl,f,_,rfl,?_⟩
    have:¬(55296<=cB enc l 0/\cB enc l 0<56320):=λh=>by rw[j.2 h]at d;cases d
    exact⟨(λh=>by cases h),λh=>absurd ⟨h.1,h.2.1⟩ this⟩
  .obtain⟨N,O,R⟩:=q.1 d
   refine I1 (o1.ext (A.trans f)).kZ (sD (iQ (by decide) (by omega)) (aM (Yd y ((E.ext f).tail (i:=2) (by omega)) (by rw[cZ];omega)) λ⟨(v:Int),_⟩ W B g=>?_));have g:v=cB enc (l.drop 2) 0:=g;rw[NP]at g;subst g;dsimp only;refine aM (qj I.1 I.2) λx X C j=>aG (λd=>Ag ?_) λd=>?_
   .have G:=j.1 d
    rw[PD,PD,tu (by omega) (by omega),bG (a:=65536) (by omega) (by omega),bG (by omega) (by omega)];refine aC ⟨((k.trans f).trans B).trans C, .inr ⟨rfl,⟨N,O,R,G.1,G.2⟩,?_⟩⟩
    congr 2;omega
   .have:¬(56320<=cB enc l 2/\cB enc l 2<57344):=λh=>by rw[j.2 h]at d;cases d
    exact aC ⟨((k.trans f).trans B).trans C, .inl ⟨rfl,rfl,λh=>this h.2.2.2⟩⟩
  .have:¬(55296<=cB enc l 0/\cB enc l 0<56320/\4<=l.length):=λh=>by rw[q.2 h]at d;cases d
   exact aC ⟨k.trans f, .inl ⟨rfl,rfl,λh=>this ⟨h.1,h.2.1,h.2.2.1⟩⟩⟩
 .rintro t z D ⟨e,⟨ht,g,L⟩|⟨ht,M,g⟩⟩
  .rw[if_neg L]
   exact pY (by omega) (pX ht () g (aC ⟨rfl,e,(cB enc l 0,2,()),rfl,rfl⟩))
  .rw[if_pos M]
   exact pX ht (_,4,()) g (aC ⟨rfl,e,(_,4,()),rfl,rfl⟩)
theorem cu(M:jM P S){enc:Int}(he:eE enc)(d:kB .u8 h s l)(c:0<l.length)
  {K:Int×Int×Unit->aK} (b:∀(x:Int×Int×Unit) e,Ext h e->(x.1,x.2.1)=eH enc l->wp P (K x) e Q) :
  wp P (.invoke (AP S enc) S.BY [.slice s.aD s.len s.cap] gi K) h Q:=by
 rcases rA he with rfl|rfl|rfl|rfl
 .exact zX (M.nB s) (N7 d c) b
 .exact zX (M.gB 0 s) (DV (.inl ⟨rfl,rfl⟩) d c) b
 .exact zX (M.gB 1 s) (DV (.inr ⟨rfl,rfl⟩) d c) b
 .exact zX (M.Yw s) (N8 d c) b
end
section
variable{P:Program}{S:cG}{h:aE}{Q:Nat->bE->aE->Prop}
theorem Pv{v:Value}:∀n,kW [v] n=List.replicate n v:=by
 intro n;induction n with
 |zero=>rfl
 |succ n b=>simp[kW,b,Jn]
theorem So{enc:Int}{l:aW}(hb:cA l):cR .i64 (eH enc l).1:=by
 rw[eO];have b:=hb.at 0;have g:=nI (enc:=enc) hb 0;have j:=nI (enc:=enc) hb 2;have hle:=IY (l.getD 0 0) (l.getD 1 0) (l.getD 2 0) (l.getD 3 0) b.1 b.2;have e:=AO (l.getD 0 0) b.1 b.2;have c:0<=CT (oU l).2 (l.getD 0 0)/\CT (oU l).2 (l.getD 0 0)<256:=by unfold CT;(repeat' split)<;>omega
 have d:oU l=CY (l.getD 0 0) (l.getD 1 0) (l.getD 2 0) (l.getD 3 0):=rfl;rw[<-d]at hle;have f:=NR (l:=l) c.1 c.2 (i:=((oU l).2-1).toNat) (by omega);unfold eH nB gB
 (repeat' split)<;>dsimp only<;>omega
end
section
variable{l:aW}{a:Int}
theorem Wc{m:aW}(h:At l 0 m=true):m=l.take m.length:=by
 unfold At at h;simpa using (of_decide_eq_true h).symm
theorem Iv(hb:cA l)(f:0<l.length) :
  (∃m:Nat,1<=m/\m<=4/\m<=l.length/\oU l=((m:Int),(m:Int))/\Ub m l/\nB l=(hO m l,(m:Int))) \/
  ((∀m:Nat,1<=m->m<=4->m<=l.length->oU l≠((m:Int),(m:Int)))/\nB l=(-1-l.getD 0 0,1)):=by
 by_cases h:∃m:Nat,1<=m/\m<=4/\m<=l.length/\oU l=((m:Int),(m:Int))
 .obtain⟨m,b,c,hm,d⟩:=h
  exact .inl ⟨m,b,c,hm,d,(Mt hb b c hm).2 d,F5 hb b c d⟩
 .have e:∀m:Nat,1<=m->m<=4->m<=l.length->oU l≠((m:Int),(m:Int)):=λm b c hm d=>h ⟨m,b,c,hm,d⟩
  exact .inr ⟨e,LC hb f e⟩
theorem Zk(hb:cA l)(d:0<l.length)(c:∀m:Nat,1<=m->m<=4->m<=l.length->oU l≠((m:Int),(m:Int))):128<=l.getD 0 0:=by
 have b:=hb.at 0;by_cases h:l.getD 0 0<128
 .exfalso
  refine c 1 (by omega) (by omega) (by omega) ?_;unfold oU;rw[JV b.1 b.2 _ (by omega)];exact .inl ⟨rfl,h⟩
 .omega
theorem take_one(b:0<l.length):l.take 1=[l.getD 0 0]:=by
 match l,b with
 |x::r,_=>rfl
theorem Tq(b:2<=l.length):l.take 2=[l.getD 0 0,l.getD 1 0]:=by
 match l,b with
 |x::y::r,_=>rfl
theorem Pp(b:4<=l.length):l.take 4=[l.getD 0 0,l.getD 1 0,l.getD 2 0,l.getD 3 0]:=by
 match l,b with
 |x::y::z::w::r,_=>rfl
theorem WL{enc:Int}(he:eE enc)(hb:cA l)(d:0<l.length) :
  0<bU enc (eH enc l).1/\cW enc (eH enc l).1=l.take (eH enc l).2.toNat:=by
 have r:=hb.at 0;have t:=hb.at 1;have u:=hb.at 2;have v:=hb.at 3;unfold eH;rcases rA he with rfl|e|e|rfl
 .rw[if_pos rfl]
  rcases Iv hb d with⟨m,c,w,hm,x,n,j⟩|⟨o,j⟩
  .rw[j]
   dsimp only;obtain⟨c1,c2,c3⟩:=n;unfold iD at c1;refine⟨(gW _ _).2 (by omega),?_⟩;unfold cW;rw[if_neg (by omega),if_pos rfl,cN];have:=Wc c3
   rwa [c2]at this
  .have k:=Zk hb d o
   rw[j];dsimp only;refine⟨(gW _ _).2 (by omega),?_⟩;unfold cW;rw[if_pos (by omega),show(1:Int).toNat=1 from rfl,take_one d]
   congr 1;omega
 .subst e
  rw[if_neg (by decide),if_neg (by decide)];unfold gB;by_cases c:l.length=1
  .rw[if_pos c]
   dsimp only;refine⟨(gW _ _).2 (by omega),?_⟩;unfold cW;rw[if_pos (by omega),show(1:Int).toNat=1 from rfl,take_one d]
   congr 1;omega
  rw[if_neg c];have p:=nI (enc:=2) hb 0;have q:=nI (enc:=2) hb 2;by_cases b:55296<=cB 2 l 0/\cB 2 l 0<56320/\4<=l.length/\56320<=cB 2 l 2/\cB 2 l 2<57344
  .rw[if_pos b]
   dsimp only;refine⟨(gW _ _).2 (by omega),?_⟩;unfold cW;rw[if_neg (by omega),if_neg (by decide),if_neg (by decide),if_pos (by omega),show(4:Int).toNat=4 from rfl,Pp b.2.2.1];have f:55296+(65536+(cB 2 l 0-55296)*1024+(cB 2 l 2-56320)-65536) / 1024=cB 2 l 0:=by omega
   have g:56320+(65536+(cB 2 l 0-55296)*1024+(cB 2 l 2-56320)) % 1024=cB 2 l 2:=by omega
   rw[f,g];simp only[cB,fM,Int.reduceEq,if_true,if_false,DN,Kc,Nat.reduceAdd]
   congr 1;omega
   congr 1;omega
   congr 1;omega
   congr 1;omega
  .rw[if_neg b]
   dsimp only;refine⟨(gW _ _).2 (by omega),?_⟩;unfold cW;rw[if_neg (by omega),if_neg (by decide),if_neg (by decide),if_neg (by omega),show(2:Int).toNat=2 from rfl,Tq (by omega)];simp only[cB,fM,Int.reduceEq,if_true,if_false,Nat.reduceAdd]
   congr 1;omega
   congr 1;omega
 .subst e
  rw[if_neg (by decide),if_neg (by decide)];unfold gB;by_cases c:l.length=1
  .rw[if_pos c]
   dsimp only;refine⟨(gW _ _).2 (by omega),?_⟩;unfold cW;rw[if_pos (by omega),show(1:Int).toNat=1 from rfl,take_one d]
   congr 1;omega
  rw[if_neg c];have p:=nI (enc:=3) hb 0;have q:=nI (enc:=3) hb 2;by_cases b:55296<=cB 3 l 0/\cB 3 l 0<56320/\4<=l.length/\56320<=cB 3 l 2/\cB 3 l 2<57344
  .rw[if_pos b]
   dsimp only;refine⟨(gW _ _).2 (by omega),?_⟩;unfold cW;rw[if_neg (by omega),if_neg (by decide),if_neg (by decide),if_pos (by omega),show(4:Int).toNat=4 from rfl,Pp b.2.2.1];have f:55296+(65536+(cB 3 l 0-55296)*1024+(cB 3 l 2-56320)-65536) / 1024=cB 3 l 0:=by omega
   have g:56320+(65536+(cB 3 l 0-55296)*1024+(cB 3 l 2-56320)) % 1024=cB 3 l 2:=by omega
   rw[f,g];simp only[cB,fM,Int.reduceEq,if_true,if_false,DN,Kc,Nat.reduceAdd]
   congr 1;omega
   congr 1;omega
   congr 1;omega
   congr 1;omega
  .rw[if_neg b]
   dsimp only;refine⟨(gW _ _).2 (by omega),?_⟩;unfold cW;rw[if_neg (by omega),if_neg (by decide),if_neg (by decide),if_neg (by omega),show(2:Int).toNat=2 from rfl,Tq (by omega)];simp only[cB,fM,Int.reduceEq,if_true,if_false,Nat.reduceAdd]
   congr 1;omega
   congr 1;omega
 .rw[if_neg (by decide),if_pos rfl]
  dsimp only;refine⟨(gW _ _).2 (by omega),?_⟩;unfold cW;rw[if_neg (by omega),if_neg (by decide),if_pos rfl,show(1:Int).toNat=1 from rfl,take_one d]
theorem FV{enc:Int}(c:0<bU enc a):cA (cW enc a):=by
 have hu:=(gW enc a).1 c;intro x b;rw[vV];unfold cW dR fM at b
 (repeat' split at b)<;>simp at b<;>omega
theorem HS{m:aW}(b:cA l)(hm:cA m):cA (l++m):=λx c=>(dD.1 c).elim (b x) (hm x)
theorem TN{enc:Int}(c:∀a,a∈l->0<bU enc a):cA (l.flatMap (cW enc)):=by
 intro x b;obtain⟨a,ha,b⟩:=Kd.1 b;exact FV (c a ha) x b
theorem PY{enc:Int}(he:eE enc)(k:0<bU enc a)(t:iD a){r:aW}(q:cA r):eH enc (cW enc a++r)=(a,bU enc a):=by
 have hb:=HS (FV k) q;have hlen:=oJ k;have hu:=(gW enc a).1 k;unfold iD at t;unfold eH;rcases rA he with rfl|d|d|rfl
 .rw[if_pos rfl]
  have b:cW 1 a=dR a:=by unfold cW;rw[if_neg (by omega),if_pos rfl]
  rw[b]at hb hlen⊢;have o:=JO a;have hm:hO (dR a).length (dR a++r)=a:=by
   unfold hO dR;by_cases f:a<128
   .simp[f,O4,zB]
   by_cases j:a<2048
   .simp[f,j,O4,zB];omega
   by_cases n:a<65536
   .simp[f,j,n,O4,zB];omega
   .simp[f,j,n,O4,zB];omega
  have c:1<=(dR a).length/\(dR a).length<=4:=by rw[o];(repeat' split)<;>omega
  have p:Ub (dR a).length (dR a++r):=by
   refine⟨by rw[hm];unfold iD;omega,by rw[hm],?_⟩;rw[hm];unfold At;rw[decide_eq_true_eq,DR];exact Rp rfl
  have m:=(Mt hb c.1 c.2 (by rw[bM];omega)).1 p;rw[F5 hb c.1 c.2 m,hm,hlen]
 .subst d
  rw[if_neg (by decide),if_neg (by decide)];by_cases e:65536<=a
  .have b:cW 2 a=fM 2 (55296+(a-65536) / 1024)++fM 2 (56320+a % 1024):=by
    unfold cW;rw[if_neg (by omega),if_neg (by decide),if_neg (by decide),if_pos e]
   rw[b]at hlen⊢;rw[<-hlen];have e0:cB 2 (fM 2 (55296+(a-65536) / 1024)++fM 2 (56320+a % 1024)++r) 0=55296+(a-65536) / 1024:=by
    simp[cB,fM];omega
   have g:cB 2 (fM 2 (55296+(a-65536) / 1024)++fM 2 (56320+a % 1024)++r) 2=56320+a % 1024:=by
    simp[cB,fM];omega
   unfold gB;rw[e0,g,bM,bM,oK,oK,if_neg (by omega),if_pos (by omega)];refine Prod.ext ?_ rfl;dsimp only;omega
  .have b:cW 2 a=fM 2 a:=by
    unfold cW;rw[if_neg (by omega),if_neg (by decide),if_neg (by decide),if_neg e]
   rw[b]at hlen⊢;rw[<-hlen];have e0:cB 2 (fM 2 a++r) 0=a:=by
    simp[cB,fM];omega
   unfold gB;rw[e0,bM,oK,if_neg (by omega),if_neg (by omega)];rfl
 .subst d
  rw[if_neg (by decide),if_neg (by decide)];by_cases e:65536<=a
  .have b:cW 3 a=fM 3 (55296+(a-65536) / 1024)++fM 3 (56320+a % 1024):=by
    unfold cW;rw[if_neg (by omega),if_neg (by decide),if_neg (by decide),if_pos e]
   rw[b]at hlen⊢;rw[<-hlen];have e0:cB 3 (fM 3 (55296+(a-65536) / 1024)++fM 3 (56320+a % 1024)++r) 0=55296+(a-65536) / 1024:=by
    simp[cB,fM];omega
   have g:cB 3 (fM 3 (55296+(a-65536) / 1024)++fM 3 (56320+a % 1024)++r) 2=56320+a % 1024:=by
    simp[cB,fM];omega
   unfold gB;rw[e0,g,bM,bM,oK,oK,if_neg (by omega),if_pos (by omega)];refine Prod.ext ?_ rfl;dsimp only;omega
  .have b:cW 3 a=fM 3 a:=by
    unfold cW;rw[if_neg (by omega),if_neg (by decide),if_neg (by decide),if_neg e]
   rw[b]at hlen⊢;rw[<-hlen];have e0:cB 3 (fM 3 a++r) 0=a:=by
    simp[cB,fM];omega
   unfold gB;rw[e0,bM,oK,if_neg (by omega),if_neg (by omega)];rfl
 .rw[if_neg (by decide),if_pos rfl]
  have b:cW 4 a=[a]:=by unfold cW;rw[if_neg (by omega),if_neg (by decide),if_pos rfl]
  rw[b]at hlen⊢;rw[<-hlen];rfl
end
section
variable{P:Program}{S:cG}{h:aE}{Q:Nat->bE->aE->Prop}
theorem jM.ua(M:jM P S):gb P S:=⟨M.ZG,M.QV,M.ZF⟩
theorem Z9.fits{n:Nat}{enc:Int}{l:aW}{x:Sl×Int×Int×Unit}{h1:aE}(f:eE enc)(e:∀a,a∈l->0<bU enc a)(g:Z9 n enc l x h1):bR n .u8 h1 x.1 (l.flatMap (cW enc))/\x.2.1=0/\x.2.2.1=0:=by
 obtain⟨b,o,r⟩:=g;obtain⟨rfl,c,d⟩:=r.fn (.inr (.inr ⟨f,e,rfl,rfl,rfl⟩));exact⟨o,c,d⟩
end
section
variable{l:aW}
theorem fN{m i:Nat}(h:i<m):(l.take m).getD i 0=l.getD i 0:=by
 rw[gF,gF,Hy,if_pos h]
theorem Td(hb:cA l){m j:Nat}(h1:1<=j)(o:j<=m)(p:j<=l.length):oU (l.take m)=((j:Int),(j:Int))↔oU l=((j:Int),(j:Int)):=by
 have e:=hb.at 0;have c0:=(hb.take m).at 0;unfold oU;rw[JV e.1 e.2 _ (by omega),JV c0.1 c0.2 _ (by omega)];unfold pQ;have f:(l.take m).getD 0 0=l.getD 0 0:=fN (by omega);have b:2<=j->(l.take m).getD 1 0=l.getD 1 0:=λh=>fN (by omega);have c:3<=j->(l.take m).getD 2 0=l.getD 2 0:=λh=>fN (by omega);have d:4<=j->(l.take m).getD 3 0=l.getD 3 0:=λh=>fN (by omega);rw[f];by_cases g:j=1
 .subst g;constructor<;>intro h<;>omega
 have b:=b (by omega);rw[b];by_cases k:j=2
 .subst k;constructor<;>intro h<;>omega
 have c:=c (by omega);rw[c];by_cases n:j=3
 .subst n;constructor<;>intro h<;>omega
 have d:=d (by omega);rw[d]
theorem Uv{m j:Nat}(h1:1<=j)(c:j<=m)(b:j<=4):hO j (l.take m)=hO j l:=by
 have:j=1\/j=2\/j=3\/j=4:=by omega
 rcases this with rfl|rfl|rfl|rfl
 .simp only[hO,O4,Nat.reduceSub];rw[fN (by omega)]
 .simp only[hO,O4,Nat.reduceSub,Nat.reduceAdd];rw[fN (by omega),fN (by omega)]
 .simp only[hO,O4,Nat.reduceSub,Nat.reduceAdd];rw[fN (by omega),fN (by omega),fN (by omega)]
 .simp only[hO,O4,Nat.reduceSub,Nat.reduceAdd];rw[fN (by omega),fN (by omega),fN (by omega),fN (by omega)]
theorem Ui{enc:Int}(hb:cA l)(r:0<l.length){m:Nat}(hm:(eH enc l).2<=m)(y:enc=1\/enc=4\/(2<=m\/l.length=1)):eH enc (l.take m)=eH enc l:=by
 have b:=iW (enc:=enc) r hb;have n:0<(l.take m).length:=by rw[dJ];omega
 unfold eH at hm b⊢;by_cases f:enc=1
 .rw[if_pos f]at hm b⊢
  rw[if_pos f];rcases Iv hb r with⟨j,d,k,p,c,_,o⟩|⟨u,o⟩
  .rw[o]at hm b⊢
   dsimp only at hm;have:=(Td hb (m:=m) d (by omega) p).2 c;rw[F5 (hb.take m) d k this,Uv d (by omega) k]
  .rw[o,LC (hb.take m) n λj d k p c=>?_,fN (by rw[dJ]at n;omega)]
   rw[dJ]at p;exact u j d k (by omega) ((Td hb (m:=m) d (by omega) (by omega)).1 c)
 rw[if_neg f]at hm b⊢;rw[if_neg f];by_cases g:enc=4
 .rw[if_pos g]at hm b⊢
  rw[if_pos g];dsimp only at hm;rw[fN (by omega)]
 rw[if_neg g]at hm b⊢;rw[if_neg g];unfold gB at hm b⊢;by_cases e:l.length=1
 .have:l.take m=l:=iF (by rw[e];rw[if_pos e]at hm;dsimp only at hm;omega)
  rw[this]
 rw[if_neg e]at hm b⊢;have x:2<=m:=by omega
 rw[dJ,if_neg (by omega)];have v:cB enc (l.take m) 0=cB enc l 0:=by unfold cB;rw[fN (by omega),fN (by omega)]
 rw[v];by_cases t:55296<=cB enc l 0/\cB enc l 0<56320/\4<=l.length/\56320<=cB enc l 2/\cB enc l 2<57344
 .rw[if_pos t]at hm⊢
  dsimp only at hm;have q:cB enc (l.take m) 2=cB enc l 2:=by unfold cB;rw[fN (by omega),fN (by omega)]
  rw[q,if_pos (by omega)]
 .rw[if_neg t]at hm⊢
  by_cases w:4<=m
  .have q:cB enc (l.take m) 2=cB enc l 2:=by unfold cB;rw[fN (by omega),fN (by omega)]
   rw[q,if_neg (by omega)]
  .rw[if_neg (by omega)]
inductive TC(enc:Int)(l:aW):Nat->Prop where
 |zero:TC enc l 0
 |step {k:Nat}:TC enc l k->k<l.length->TC enc l (k+(eH enc (l.drop k)).2.toNat)
theorem TC.le{enc:Int}(hb:cA l){k:Nat}(h:TC enc l k):k<=l.length:=by
 cases h with
 |zero=>omega
 |step h b=>
  rename_i k;have:=iW (enc:=enc) (l:=l.drop k) (by rw[cZ];omega) (hb.drop k);rw[cZ]at this;omega
theorem TC.next{enc:Int}(hb:cA l){j k:Nat}(b:TC enc l j)(e:TC enc l k)(n:j<k):j+(eH enc (l.drop j)).2.toNat<=k:=by
 have key:∀{k},TC enc l k->∀{j},TC enc l j->(j<k->j+(eH enc (l.drop j)).2.toNat<=k)/\(k<j->k+(eH enc (l.drop k)).2.toNat<=j):=by
  intro k e
  induction e with
  |zero=>
   intro j b;refine⟨λh=>by omega,?_⟩
   induction b with
   |zero=>intro h;omega
   |step b m f=>
    rename_i j;intro _;by_cases h0:j=0
    .subst h0;omega
    .have:=f (by omega);omega
  |step e p f=>
   rename_i k;intro j b;have q:=iW (enc:=enc) (l:=l.drop k) (by rw[cZ];omega) (hb.drop k);have hi:=f b;refine⟨λh=>?_,?_⟩
   .by_cases d:j<k
    .have:=hi.1 d;omega
    .by_cases he:j=k
     .subst he;omega
     .have:=hi.2 (by omega);omega
   .induction b with
    |zero=>intro h;omega
    |step b m o=>
     rename_i j;intro h;have c:=f b;by_cases d:j<k
     .have:=c.1 d;omega
     .by_cases he:j=k
      .subst he;omega
      .by_cases g:j=k+(eH enc (l.drop k)).2.toNat
       .rw[g];omega
       .have:=o c (by have:=c.2 (by omega);omega)
        omega
 exact(key e b).1 n
end
section
theorem Sk{enc:Int}{l:aW}(h1:l.length≠1)(b:0<l.length):((gB enc l).2=4/\55296<=cB enc l 0/\cB enc l 0<56320/\4<=l.length/\56320<=cB enc l 2/\cB enc l 2<57344) \/
  (gB enc l=(cB enc l 0,2)/\¬(55296<=cB enc l 0/\cB enc l 0<56320/\4<=l.length/\56320<=cB enc l 2/\cB enc l 2<57344)):=by
 unfold gB;rw[if_neg h1];split
 .rename_i h;exact .inl ⟨rfl,h⟩
 .rename_i h;exact .inr ⟨rfl,h⟩
end
section
variable{P:Program}{S:cG}{h:aE}{Q:Nat->bE->aE->Prop}
end
section
variable{P:Program}{S:cG}{h:aE}{Q:Nat->bE->aE->Prop}
theorem eu{x:Value}{K:aK}(c:U4 P x)(b:wp P K h Q):wp P (.S0 x K) h Q:=⟨c,b⟩
def g_(enc:Int)(l:aW)(at_:Int)(x:Int×Int×Unit):Prop:=
 ((¬eE enc\/at_<0\/l.length<=at_)/\x.1=0/\x.2.1=0)\/(eE enc/\0<=at_/\at_<l.length/\(x.1,x.2.1)=eH enc (l.drop at_.toNat))
theorem PI(M:jM P S){enc at_:Int}{b:Sl}{l:aW}(hb:kB .u8 h b l):aS P (oY S enc b at_) gi h λ(x:Int×Int×Unit) _=>g_ enc l at_ x:=by
 have o:=hb.len;unfold oY;refine aM (ED enc) λc r j e=>?_;have e:c.1=AP S enc:=e;rw[e];refine bW (¬eE enc\/at_<0\/l.length<=at_) ?_ λc t k g=>aG (λf=>?_) λf=>?_
 .by_cases d:¬eE enc
  .rw[Gv d]
   exact sD rfl (mI (aC ⟨rfl,Ext.refl _,_,rfl,⟨λ_=>.inl d,λ_=>rfl⟩⟩))
  have d:=Classical.not_not.1 d;obtain⟨k1,k2⟩:=Kl (S:=S) d;rw[k1,k2];refine sD rfl (lI (aG (λe=>?_) λe=>?_))
  .rw[aV]at e
   exact aC ⟨rfl,Ext.refl _,_,rfl,⟨λ_=>.inr (.inl e),λ_=>rfl⟩⟩
  .rw[aZ]at e
   refine aC ⟨rfl,Ext.refl _,_,rfl,?_⟩;rw[dT,aN,o];exact⟨λh=>.inr (.inr h),λh=>by rcases h with h|h|h;exact absurd d h;omega;exact h⟩
 .exact aC ⟨rfl,j.trans k,(0,0,()),rfl, .inl ⟨g.1 f,rfl,rfl⟩⟩
 .have m:¬(¬eE enc\/at_<0\/l.length<=at_):=λh=>by rw[g.2 h]at f;cases f
  have d:eE enc:=Classical.not_not.1 λh=>m (.inl h);have h0:0<=at_:=by
   by_cases h:at_<0
   .exact absurd (.inr (.inl h)) m
   .omega
  have n:at_<l.length:=by
   by_cases h:(l.length:Int)<=at_
   .exact absurd (.inr (.inr h)) m
   .omega
  rw[eR];refine sD (iQ h0 (by omega)) (eu (M.sc enc d) (cu M d (s:=⟨_,_,_⟩) (((hb.ext (j.trans k)).tail (i:=at_.toNat) (by omega))) (by rw[cZ];omega) λx u p q=>aC ⟨rfl,(j.trans k).trans p,x,rfl, .inr ⟨d,h0,n,q⟩⟩))
end
section
def gq(enc:Int)(l:aW):Prop:=
 if enc=1 then 1<(oU l).2/\(oU l).1=l.length/\(oU l).1<(oU l).2
 else if enc=4 then False
 else l.length=1\/(l.length<4/\55296<=cB enc l 0/\cB enc l 0<56320)
theorem Oi{enc:Int}{l:aW}(hb:cA l){m k:Nat}(hm:TC enc l m)(e:TC enc l k)(h:k<m):eH enc ((l.take m).drop k)=eH enc (l.drop k):=by
 have f:=hm.le hb;have g:=e.next hb hm h
 have j:=iW (enc:=enc) (l:=l.drop k) (by rw[cZ];omega) (hb.drop k);rw[LS];refine Ui (hb.drop k) (by rw[cZ];omega) (by omega) ?_;by_cases c:enc=1
 .exact .inl c
 by_cases d:enc=4
 .exact .inr (.inl d)
 refine .inr (.inr ?_);by_cases b:(l.drop k).length=1
 .exact .inr b
 .left
  have:(eH enc (l.drop k)).2≠1:=by
   unfold eH;rw[if_neg c,if_neg d];rcases Sk (enc:=enc) b (by rw[cZ];omega) with⟨q,_⟩|⟨q,_⟩
   .omega
   .rw[q];dsimp only;omega
  omega
structure wu(enc:Int)(all:aW)(p:Nat):Prop where
 bytes:cA all
 xy:TC enc all p
 sure:∀j,TC enc all j->j<p->¬gq enc (all.drop j)
 more:p=all.length\/p<all.length/\gq enc (all.drop p)
end
end Go.Sw.Codec
