
/- Steps. -/
import Derived.Test.YtncolficnfcdcaaGreatSwZ3
import Derived.OpenShut
set_option linter.unusedVariables false
set_option linter.unusedSimpArgs false
namespace Go.Sw
open Go.ChangeShapes Go.WideShapes Go.ChangeAt Go.RowKit Go.WideElems
section
inductive Sh where
 |int (k:IntKind)
 |bool
 |list (e:Sh)
 |unit
 |pair (a b:Sh)
 |str (s:Sh)
 |arr (s:Sh)
@[reducible] def Sh.den:Sh->Type
 |.int _=>Int
 |.bool=>Bool
 |.list e=>Sl×List e.den
 |.unit=>Unit
 |.pair a b=>a.den×b.den
 |.str s=>s.den
 |.arr s=>s.den
def Sh.size:Sh->Nat
 |.int _=>1
 |.bool=>1
 |.list _=>1
 |.unit=>0
 |.pair a b=>a.size+b.size
 |.str s=>s.size
 |.arr s=>s.size
def Sh.cells:(s:Sh)->s.den->List Value
 |.int k,n=>[.int k n]
 |.bool,b=>[.bool b]
 |.list _,x=>[.slice x.1.aD x.1.len x.1.cap]
 |.unit,_=>[]
 |.pair a b,x=>a.cells x.1++b.cells x.2
 |.str s,x=>s.cells x
 |.arr s,x=>s.cells x
def Sh.ok(h:aG):(s:Sh)->s.den->Prop
 |.int k,n=>cX k n
 |.bool,_=>True
 |.list e,x=>x.1.len=x.2.length/\x.1.len<=x.1.cap/\x.1.cap<2^63/\∀(i:Nat) (y:e.den),x.2[i]?=some y->∃a,x.1.aD=some a/\Cells h (a.add (i*e.size)) (e.cells y)/\e.ok h y
 |.unit,_=>True
 |.pair a b,x=>a.ok h x.1/\b.ok h x.2
 |.str s,x=>s.ok h x
 |.arr s,x=>s.ok h x
theorem Sh.ok.ext{h h':aG}(e:Ext h h'):∀{s:Sh} {x:s.den},s.ok h x->s.ok h' x
 |.int _,_,k=>k
 |.bool,_,k=>k
 |.list _,_,k=>⟨k.1,k.2.1,k.2.2.1,λi y hi=>let ⟨a,b,c,d⟩:=k.2.2.2 i y hi;⟨a,b,e.cells c,Sh.ok.ext e d⟩⟩
 |.unit,_,k=>k
 |.pair _ _,_,k=>⟨Sh.ok.ext e k.1,Sh.ok.ext e k.2⟩
 |.str s,_,k=>Sh.ok.ext (s:=s) e k
 |.arr s,_,k=>Sh.ok.ext (s:=s) e k
def Sh.wt:(s:Sh)->s.den->Nat
 |.int _,_=>1
 |.bool,_=>1
 |.list e,x=>(x.2.map e.wt).sum+1
 |.unit,_=>0
 |.pair a b,x=>a.wt x.1+b.wt x.2
 |.str s,x=>s.wt x+1
 |.arr s,x=>s.wt x+1
mutual
def Sh.is(P:Program):Sh->TypeId->Bool
 |.int k,t=>(match P.underlying t with|some (.int k')=>decide (k'=k)|_=>false) && Nat.beq (P.cellsOf t) 1
 |.bool,t=>(match P.underlying t with|some .bool=>true|_=>false) && Nat.beq (P.cellsOf t) 1
 |.list e,t=>(match P.underlying t with|some (.slice te)=>e.is P te && Nat.beq (P.cellsOf te) e.size|_=>false) && Nat.beq (P.cellsOf t) 1
 |.str s,t=>(match P.underlying t with|some (.struct fs)=>s.ef P fs.toList 0|_=>false) && Nat.beq (P.cellsOf t) s.size
 |.arr s,t=>(match P.underlying t with|some (.array n te)=>s.e_ P te n|_=>false) && Nat.beq (P.cellsOf t) s.size
 |_,_=>false
def Sh.ef(P:Program):Sh->List Field->Nat->Bool
 |.unit,[],_=>true
 |.pair a b,f::fs,o=>Nat.beq f.offset o && a.is P f.type && Nat.beq (P.cellsOf f.type) a.size && b.ef P fs (o+a.size)
 |_,_,_=>false
def Sh.e_(P:Program):Sh->TypeId->Nat->Bool
 |.unit,_,0=>true
 |.pair a b,t,n+1=>a.is P t && Nat.beq (P.cellsOf t) a.size && b.e_ P t n
 |_,_,_=>false
end
variable{H:Type}{enc:TypeId×Value->H}{P:Program}
structure Mz(b:DataW H->Nat)(ba:List (DataW H)->Nat):Prop where
 lit:∀k n,1<=b (.lit (.int k n))
 xc:∀x,1<=b (.lit (.bool x))
 nil:1<=b .nil
 sl:∀e s,ba e+1<=b (.slice e s)
 agg:∀l,ba l+1<=b (.agg l)
 cons:∀d r,b d+ba r<=ba (d::r)
theorem YE{b:DataW H->Nat}{a:List (DataW H)->Nat}(B:Mz b a){α:Type}(f:α->Nat):∀(l:List α) (D:Nat->DataW H) (j:Nat),(∀(i:Nat) (y:α),l[i]?=some y->f y<=b (D (j+i)))->(l.map f).sum<=a ((List.range' j l.length).map D):=by
 intro l
 induction l with
 |nil=>intro D j _;simp
 |cons x l c=>
  intro D j h;have h0:=h 0 x rfl;have:=c D (j+1) λi y hi=>by have:=h (i+1) y (by simpa using hi);rwa [show j+1+i=j+(i+1) by omega]
  rw[fK,List.range'_succ,fS,fS,Eg];have:=B.cons (D j) ((List.range' (j+1) l.length).map D);rw[F2]at h0;omega
theorem Ws{W:World}{b:DataW H->Nat}{T:List (DataW H)->Nat}(B:Mz b T):∀(s:Sh),
  (∀(t:TypeId) (fuel:Nat) (cs:List Value) (x:DataW H×List MemPlace),s.is P t=true->DataW.trod enc P W 0 (λ_=>true) true fuel t cs=some x->∃y:s.den,cs=s.cells y/\s.ok W.heap y/\s.wt y<=b x.1) /\
  (∀(fs:List Field) (o fuel:Nat) (cs:List Value) (xs:List (DataW H×List MemPlace)),s.ef P fs o=true->xs.length=fs.length->cs.length=o+s.size ->
   (∀(i:Nat) (f:Field),fs[i]?=some f->DataW.trod enc P W 0 (λ_=>true) true fuel f.type ((cs.drop f.offset).take (P.cellsOf f.type))=xs[i]?)->∃y:s.den,cs.drop o=s.cells y/\s.ok W.heap y/\s.wt y<=T (xs.map (·.1))) /\
  (∀(t:TypeId) (n j fuel:Nat) (cs:List Value) (xs:List (DataW H×List MemPlace)),s.e_ P t n=true->xs.length=n->cs.length=j*P.cellsOf t+s.size ->
   (∀(i:Nat),i<n->DataW.trod enc P W 0 (λ_=>true) true fuel t ((cs.drop ((j+i)*P.cellsOf t)).take (P.cellsOf t))=xs[i]?)->∃y:s.den,cs.drop (j*P.cellsOf t)=s.cells y/\s.ok W.heap y/\s.wt y<=T (xs.map (·.1))):=by
 intro s
 induction s with
 |int k=>
  refine⟨λt fuel cs x d h=>?_,λfs o fuel cs xs d=>?_,λt n j fuel cs xs d=>?_⟩
  .simp only[Sh.is,iL]at d
   obtain⟨g,_⟩:=d;split at g
   .rename_i k' u
    have:k'=k:=of_decide_eq_true g;subst this;obtain⟨n,E,J,e3⟩:=DataW.trod_int u h;exact⟨n,E,jz e3,by rw[J];exact B.lit _ _⟩
   .cases g
  .cases fs<;>simp[Sh.ef]at d
  .cases n<;>simp[Sh.e_]at d
 |bool=>
  refine⟨λt fuel cs x d h=>?_,λfs o fuel cs xs d=>?_,λt n j fuel cs xs d=>?_⟩
  .simp only[Sh.is,iL]at d
   obtain⟨g,_⟩:=d;split at g
   .rename_i u
    obtain⟨n,E,J⟩:=DataW.trod_bool u h;exact⟨n,E,trivial,by rw[J];exact B.xc _⟩
   .cases g
  .cases fs<;>simp[Sh.ef]at d
  .cases n<;>simp[Sh.e_]at d
 |list e M=>
  refine⟨λt fuel cs x d h=>?_,λfs o fuel cs xs d=>?_,λt n j fuel cs xs d=>?_⟩
  .simp only[Sh.is,iL]at d
   obtain⟨g,_⟩:=d;split at g
   .rename_i Q u
    simp only[iL]at g;obtain⟨l,G⟩:=g;have hC:P.cellsOf Q=e.size:=Ec G;rcases Go.Deep.open_slice u h with⟨E,J⟩|⟨a,len,cap,m,n,D,Pl,E,_,g2,g3,g4,g5,g6⟩
    .refine⟨(⟨none,0,0⟩,[]),E,⟨rfl,bM _,(by decide:0<2^63),λi y hi=>by simp at hi⟩,?_⟩
     rw[J];exact B.nil
    .simp only[if_true]at g4
     subst g4;have key:∀i,i<m->∃y:e.den,Cells W.heap (a.add (i*e.size)) (e.cells y)/\e.ok W.heap y/\e.wt y<=b (D i):=by
      intro i hi;obtain⟨ab,c1,c2⟩:=g6 i hi;obtain⟨y,A,C,O⟩:=M.1 Q n ab _ l c2;obtain⟨_,c3,c4⟩:=World.cells?_some c1;refine⟨y,aI.2 λq v V=>?_,C,O⟩;rw[<-A]at V;have ao:=(cR.1 V).1;have:=c4 q (by omega);rw[<-hC];exact this.trans V
     have L:Nonempty e.den\/m=0:=by
      by_cases hm:m=0
      .exact .inr hm
      .obtain⟨y,_⟩:=key 0 (by omega);exact .inl ⟨y⟩
     rcases L with L|al
     .have:Inhabited e.den:=⟨Classical.choice L⟩
      obtain⟨F,hF⟩:=Go.Deep.choose_lt key;have K:∀(i:Nat) (o:e.den),((List.range len).map F)[i]?=some o->i<len/\o=F i:=by
       intro i o hi;have I:=(cR.1 hi).1;rw[cE,List.length_range]at I;rw[gP,List.getElem?_range I]at hi;exact⟨I,by simpa using hi.symm⟩
      refine⟨(⟨some a,len,m⟩,(List.range len).map F),E,⟨by simp,g2,RZ g3 (by decide),λi y hi=>?_⟩,?_⟩
      .obtain⟨I,rfl⟩:=K i y hi
       obtain⟨k1,k2,_⟩:=hF i (by omega);exact⟨a,rfl,k1,k2⟩
      .have:=YE B e.wt ((List.range len).map F) D 0 λi y hi=>by
        obtain⟨I,rfl⟩:=K i y hi;rw[JK];exact(hF i (by omega)).2.2
       rw[cE,List.length_range,<-List.range_eq_range']at this;have:=B.sl ((List.range len).map D) ((List.range (m-len)).map λj=>D (len+j));rw[g5];simp only[Sh.wt];omega
     .have:len=0:=by omega
      subst this;refine⟨(⟨some a,0,m⟩,[]),E,⟨rfl,g2,RZ g3 (by decide),λi y hi=>by simp at hi⟩,?_⟩;have:=B.sl ((List.range 0).map D) ((List.range (m-0)).map λj=>D (0+j));rw[g5];simp only[Sh.wt,List.map_nil,List.sum_nil];omega
   .cases g
  .cases fs<;>simp[Sh.ef]at d
  .cases n<;>simp[Sh.e_]at d
 |unit=>
  refine⟨λt fuel cs x d h=>by simp[Sh.is]at d,λfs o fuel cs xs d r w p=>?_,λt n j fuel cs xs d r w p=>?_⟩
  .refine⟨(),?_,trivial,cN _⟩
   rw[uL (by simp only[Sh.size]at w;omega)];rfl
  .refine⟨(),?_,trivial,cN _⟩
   rw[uL (by simp only[Sh.size]at w;omega)];rfl
 |pair a c R S=>
  refine⟨λt fuel cs x d h=>by simp[Sh.is]at d,λfs o fuel cs xs d r w p=>?_,λt n j fuel cs xs d r w p=>?_⟩
  .cases fs with
   |nil=>simp[Sh.ef]at d
   |cons f fs=>
    simp only[Sh.ef,iL]at d;obtain⟨⟨⟨g,l⟩,G⟩,U⟩:=d;have g:=Ec g;have G:=Ec G;cases xs with
    |nil=>simp at r
    |cons x xs=>
     have N:=p 0 f rfl;rw[g,G]at N;obtain⟨y,A,C,O⟩:=R.1 f.type fuel _ x l N;simp only[Sh.size]at w;obtain⟨z,Y,Z,z3⟩:=S.2.1 fs (o+a.size) fuel cs xs U (by simpa using r) (by omega) λi f' hi=>p (i+1) f' (by simpa using hi);refine⟨(y,z),?_,⟨C,Z⟩,?_⟩
     .simp only[Sh.cells]
      rw[<-A,<-Y,<-Eh,eY]
     .have:=B.cons x.1 (xs.map (·.1))
      simp only[Sh.wt,fS];omega
  .cases n with
   |zero=>simp[Sh.e_]at d
   |succ n=>
    simp only[Sh.e_,iL]at d;obtain⟨⟨l,G⟩,U⟩:=d;have G:=Ec G;cases xs with
    |nil=>simp at r
    |cons x xs=>
     have N:=p 0 (by omega);rw[F2]at N;obtain⟨y,A,C,O⟩:=R.1 t fuel _ x l N;simp only[Sh.size]at w;obtain⟨z,Y,Z,z3⟩:=S.2.2 t n (j+1) fuel cs xs U (by simpa using r) (by rw[FZ];omega) λi hi=>by
      have:=p (i+1) (by omega);rw[show j+1+i=j+(i+1) by omega];simpa using this
     refine⟨(y,z),?_,⟨C,Z⟩,?_⟩
     .simp only[Sh.cells]
      rw[<-A,<-Y,FZ,<-Eh,eY]
     .have:=B.cons x.1 (xs.map (·.1))
      simp only[Sh.wt,fS];omega
 |str s M=>
  refine⟨λt fuel cs x d h=>?_,λfs o fuel cs xs d=>?_,λt n j fuel cs xs d=>?_⟩
  .simp only[Sh.is,iL]at d
   obtain⟨g,l⟩:=d;have l:=Ec l;split at g
   .rename_i fs u
    obtain⟨xs,X,_,r,w,hlen,p⟩:=DataW.trod_struct u h;obtain⟨y,A,C,O⟩:=M.2.1 fs.toList 0 X cs xs g (by simpa using hlen) (by omega) λi f hi=>p i f (by simpa using hi);refine⟨y,by simpa[Sh.cells] using A,C,?_⟩;have:=B.agg (xs.map (·.1));rw[r];simp only[Sh.wt];omega
   .cases g
  .cases fs<;>simp[Sh.ef]at d
  .cases n<;>simp[Sh.e_]at d
 |arr s M=>
  refine⟨λt fuel cs x d h=>?_,λfs o fuel cs xs d=>?_,λt n j fuel cs xs d=>?_⟩
  .simp only[Sh.is,iL]at d
   obtain⟨g,l⟩:=d;have l:=Ec l;split at g
   .rename_i n Q u
    obtain⟨xs,X,_,r,w,hlen,p⟩:=DataW.trod_array u h;obtain⟨y,A,C,O⟩:=M.2.2 Q n 0 X cs xs g hlen (by omega) λi hi=>by rw[JK];exact p i hi
    refine⟨y,by simpa[Sh.cells] using A,C,?_⟩;have:=B.agg (xs.map (·.1));rw[r];simp only[Sh.wt];omega
   .cases g
  .cases fs<;>simp[Sh.ef]at d
  .cases n<;>simp[Sh.e_]at d
theorem XO{t:TypeId}{e:Sh}{W:World}{v:Value}{d:DataW H}{p:List MemPlace}{r:Reach}{j:Nat}{b:DataW H->Nat}{k:List (DataW H)->Nat}(B:Mz b k)(g:(Sh.list e).is P t=true)
  (c:Value.okWide P W r j t v) (h:DataW.Trod enc P W 0 (λ_=>true) true t v d p):∃y:Sl×List e.den,v = .slice y.1.aD y.1.len y.1.cap/\(Sh.list e).ok W.heap y/\(Sh.list e).wt y<=b d:=by
 obtain⟨fuel,h⟩:=h;have ht:∃a,P.underlying t=some (.slice a):=by
  have:=g;simp only[Sh.is,iL]at this;obtain⟨f,_⟩:=this;split at f
  .rename_i a m;exact⟨a,m⟩
  .cases f
 obtain⟨a,ht⟩:=ht;obtain⟨x,n,l,rfl⟩:=okWide_slice ht c;obtain⟨y,i,u,w⟩:=(Ws B (Sh.list e)).1 t fuel _ _ g h;simp[Value.cells,Sh.cells]at i;obtain⟨o,q,s⟩:=i;exact⟨y,by rw[o,q,s],u,w⟩
theorem Z3{t:TypeId}{s:Sh}{W:World}{v:Value}{d:DataW H}{p:List MemPlace}{r:Reach}{f:Nat}{b:DataW H->Nat}{g:List (DataW H)->Nat}(B:Mz b g)(e:(Sh.str s).is P t=true)
  (a:Value.okWide P W r f t v) (h:DataW.Trod enc P W 0 (λ_=>true) true t v d p):∃y:s.den,v = .agg (s.cells y).toArray/\s.ok W.heap y/\s.wt y<=b d:=by
 obtain⟨fuel,h⟩:=h;have ht:∃fs,P.underlying t=some (.struct fs):=by
  have:=e;simp only[Sh.is,iL]at this;obtain⟨c,_⟩:=this;split at c
  .rename_i k i;exact⟨k,i⟩
  .cases c
 obtain⟨fs,ht⟩:=ht;obtain⟨cs,rfl,_⟩:∃cs:Array Value,v = .agg cs/\True:=by
  simp only[Value.okWide,ht]at a;obtain⟨cs,c,_⟩:=a;exact⟨cs,c,trivial⟩
 obtain⟨y,l,m,n⟩:=(Ws B (Sh.str s)).1 t fuel _ _ e h;have j:cs.toList=s.cells y:=l;refine⟨y,?_,m,?_⟩
 .rw[<-j]
 .simp only[Sh.wt]at n;omega
theorem Sh.lO{k:IntKind}{h:aG}{x:Sl×List Int}(o:(Sh.list (.int k)).ok h x):kW k h x.1 x.2:=by
 obtain⟨g,j,l,d⟩:=o;refine⟨⟨by simpa using g,λi v hi=>?_⟩,j,l,λy m=>?_⟩
 .rw[gP]at hi
  cases b:x.2[i]? with
  |none=>rw[b]at hi;cases hi
  |some y=>
   rw[b]at hi;cases hi;obtain⟨a,e,c,_⟩:=d i y b;refine⟨a,e,?_⟩;have:=aI.1 c 0 _ rfl;rw[add_zero']at this;simpa[Sh.size] using this
 .obtain⟨i,hi⟩:=List.getElem?_of_mem m
  obtain⟨a,_,_,f⟩:=d i y hi;exact f
theorem Sh.uy{e:Sh}(x:Sl×List e.den)(h:∀y,1<=e.wt y):x.2.length+1<=(Sh.list e).wt x:=by
 have:∀l:List e.den,l.length<=(l.map e.wt).sum:=by
  intro l
  induction l with
  |nil=>simp
  |cons y l a=>have:=h y;simp only[fK,fS,Eg];omega
 have:=this x.2;simp only[Sh.wt];omega
end
end Go.Sw
