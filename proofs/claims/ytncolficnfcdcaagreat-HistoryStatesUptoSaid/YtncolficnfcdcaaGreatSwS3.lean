import Derived.Test.YtncolficnfcdcaaGreatSwS2
set_option linter.unusedVariables false
set_option linter.unusedSimpArgs false
namespace Go.Sw
section
variable{a:Act}{P:Program}
theorem Xf{p:Option Addr}{m l n:Nat}:(if m=l then p else p.map (·.add (l*n)))=bF p m l n:=rfl
theorem kE{f:Fr}(b:rQ f a){xs:Array Operand}{vs:List Value}(h:RC f xs.toList=some vs):xs.map a.eval=vs.toArray:=
 xR.1 (by simpa using WH b h)
theorem Te{w:World}:∀{fs:List Field},(fs.all (λfd=>(P.info? fd.type).isSome))=true ->
  (fs.mapM λf=>(do pure (f.offset,<-sizeOf f.type):Sem (Nat×Nat))).run P w = .ok (fs.map λfd=>(fd.offset,P.cellsOf fd.type)) w:=by
 intro fs
 induction fs with
 |nil=>intro h;simp
 |cons fd fs b=>
  intro h;simp only[List.all_cons,hP]at h;obtain⟨i,hi⟩:=Ci.1 h.1;have:=b h.2;simp[LI,gA hi,Program.cellsOf,hi]at this⊢;simp[this]
theorem IV{f:Fr}(g:rQ f a){o:Oper}{c:PC}{v:Value}(h:QN P f o.type o.op=some (c,v))(C:Ls P c)(w:World) :
  (execOp a.eval o).run P w = .ok (.value v) w:=by
 obtain⟨dst,op,type,pos,after,guard⟩:=o;simp only at h;cases op<;>simp only[QN,reduceCtorEq]at h
 case move x=>
  obtain⟨u,hu,e⟩:=mK.1 h;obtain⟨rfl,rfl⟩:=jB e;simp[execOp,bS g hu]
 case assign x=>
  obtain⟨u,hu,e⟩:=mK.1 h;obtain⟨rfl,rfl⟩:=jB e;simp[execOp,bS g hu]
 case nilCheck x=>
  cases ab:Sz P type
  .simp only[ab,cond_false]at h
   split at h
   .rename_i p q
    obtain⟨rfl,rfl⟩:=jB (dW h);obtain⟨ad,rfl⟩:=Ci.1 C;simp[execOp,bS g q]
   .cases h
  .simp only[ab,cond_true]at h
   obtain⟨u,hu,e⟩:=mK.1 h;obtain⟨rfl,rfl⟩:=jB e;have e:=bS g hu;have:=C w;simp only[execOp]at this⊢;rw[e];exact this
 case binOp op t x y u=>
  cases hn:Vy y
  .simp only[hn,cond_false]at h
   split at h
   .rename_i b d q hy
    split at h
    .rename_i xs ys
     obtain⟨r,B,e⟩:=mK.1 h;obtain⟨rfl,rfl⟩:=jB e;have:=NI (w:=w) (x:=x) (y:=y) B;simp only[execOp,bS g q,bS g hy];rw[Sem.run_bind,this];rfl
    obtain⟨r,B,e⟩:=mK.1 h;obtain⟨rfl,rfl⟩:=jB e;have:=TM (w:=w) (x:=x) (y:=y) B C;simp only[execOp,bS g q,bS g hy];rw[Sem.run_bind,this];rfl
   .cases h
  .simp only[hn,cond_true]at h
   split at h
   .rename_i b q
    obtain⟨r,B,e⟩:=mK.1 h;obtain⟨rfl,rfl⟩:=jB e;have:=Uy (w:=w) (x:=x) a.eval (λv=>rfl) B C;simp only[execOp,bS g q];rw[Sem.run_bind,this];rfl
   .cases h
 case unOp op t x=>
  split at h
  .rename_i b q
   obtain⟨r,B,e⟩:=mK.1 h;obtain⟨rfl,rfl⟩:=jB e;simp[execOp,bS g q,Xm (w:=w) B]
  .cases h
 case convert s d x=>
  split at h
  .rename_i b q
   obtain⟨r,B,e⟩:=mK.1 h;obtain⟨rfl,rfl⟩:=jB e;simp[execOp,bS g q,R2 (w:=w) B]
  .cases h
 case fieldAddr t x n=>
  split at h
  .rename_i p ft off q T
   obtain⟨rfl,rfl⟩:=jB (dW h);simp[execOp,bS g q,Oh (w:=w) T p C]
  .cases h
 case field t x n=>
  split at h
  .rename_i cs ft off q T
   obtain⟨r,B,e⟩:=mK.1 h;obtain⟨rfl,rfl⟩:=jB e;obtain⟨fs,fd,i,hu,N,hi,Y,rfl,rfl⟩:=Fa T;simp[execOp,bS g q,Instr.field,cE hu,N,asAgg,Bc B]
  .cases h
 case indexAddr t x i=>
  split at h
  .rename_i e p n R k j hu q U
   split at h
   .rename_i Q hi
    obtain⟨rfl,rfl⟩:=jB (dW h);simp[execOp,bS g q,bS g U,Ol (w:=w) hu hi p n R k j C,bB,bP]
   .cases h
  .rename_i n e p k j hu q U
   split at h
   .rename_i Q hi
    obtain⟨rfl,rfl⟩:=jB (dW h);simp[execOp,bS g q,bS g U,Oj (w:=w) hu hi p k j C,bB,bP]
   .cases h
  .cases h
 case index t x i=>
  split at h
  .rename_i s k j hu q U
   obtain⟨rfl,rfl⟩:=jB (dW h);simp[execOp,bS g q,bS g U,P6 (w:=w) hu s k j C]
  .cases h
 case extract x n=>
  split at h
  .rename_i L q
   obtain⟨r,B,e⟩:=mK.1 h;obtain⟨rfl,rfl⟩:=jB e;have a0:L[n]?=some r:=by simpa using B
   simp[execOp,bS g q,Instr.extract,a0]
  .cases h
 case slice t x lo hi mx=>
  split at h
  .rename_i e p len cap ao al a1 hu q J I D
   split at h
   .rename_i Q R l h' m F hb
    obtain⟨rfl,rfl⟩:=jB (dW h);have:=Dg (P:=P) (w:=w) true (mW g J) (mW g I) (mW g D) hb C;simp[execOp,bS g q,Instr.sliceAt,Instr.slice,cE hu,this,gA F,Xf,cV]
   .cases h
  .rename_i n e p ao al a1 hu q J I D
   split at h
   .rename_i Q R l h' m F hb
    obtain⟨rfl,rfl⟩:=jB (dW h);have Z:p.isSome=true/\R=true:=by simpa[Ls,bN,aJ] using C
    obtain⟨ad,rfl⟩:=Ci.1 Z.1;have:=Dg (P:=P) (w:=w) false (mW g J) (mW g I) (mW g D) hb Z.2;simp[execOp,bS g q,Instr.sliceAt,cE hu,this,gA F,nF,bF,cV];split<;>rfl
   .cases h
  .rename_i s ao al hu q J I D
   split at h
   .rename_i R l h' m hb
    obtain⟨rfl,rfl⟩:=jB (dW h);cases mx with
    |none=>
     have:=Dg (P:=P) (w:=w) (mx:=none) (mx':=none) false (mW g J) (mW g I) trivial hb C;simp[execOp,bS g q,Instr.sliceAt,Instr.slice,cE hu,KT,qt]at this⊢;simp[this]
    |some m=>
     simp only[Hk]at D;split at D<;>simp at D
   .cases h
  .cases h
 case build t parts=>
  split at h
  .rename_i L z fs V Y hu
   cases M:fs.toList.all (λfd=>(P.info? fd.type).isSome)
   .simp only[M,cond_false]at h;cases h
   simp only[M,cond_true]at h;obtain⟨r,B,e⟩:=mK.1 h;obtain⟨rfl,rfl⟩:=jB e;obtain⟨zv,X,W⟩:=AF (w:=w) Y;have aw:=Te (P:=P) (w:=w) (fs:=fs.toList) (by simpa using M);have H:=(Fb (P:=P) (place':=λi=>(fs.toList.map (λfd=>(fd.offset,P.cellsOf fd.type)))[i]?) (λi off t ti K O=>by
    simp only[KD,mK,oL]at K;obtain⟨fd,N,rfl,rfl⟩:=K;have:fs.toList[i]?=some fd:=by simpa using N
    simp[N,Program.cellsOf,O]) B C).2
   have E:(parts.map λp=>(p.1,a.eval p.2)).toList=L:=by simpa using DL g V
   simp only[execOp,Instr.build,Sem.run_bind,X,Result.andThen_ok,cE hu,V0,Sem.run_map,W];simp only[E,aw,Result.andThen_ok];have S:Instr.fill (λx=>Option.map (λfd=>(fd.offset,P.cellsOf fd.type)) fs[x]?) z.toArray L=some r.2.toArray:=by simpa using H
   simp[S]
  .rename_i L z n e V Y hu
   split at h
   .rename_i Q F
    obtain⟨r,B,e⟩:=mK.1 h;obtain⟨rfl,rfl⟩:=jB e;obtain⟨zv,X,W⟩:=AF (w:=w) Y;have H:=(Fb (P:=P) (place':=λi=>some (i*Q.size,Q.size)) (λi off t ti K O=>by
     simp only[fW,oL]at K;obtain⟨rfl,rfl⟩:=K;rw[F]at O;obtain rfl:=dW O;rfl) B C).2
    have E:(parts.map λp=>(p.1,a.eval p.2)).toList=L:=by simpa using DL g V
    simp only[execOp,Instr.build,Sem.run_bind,X,Result.andThen_ok,cE hu,W,gA F];simp only[E];simp[H]
   .cases h
  .cases h
 case makeInterface t x=>
  split at h
  .cases h
  .rename_i u d hd q hu
   obtain⟨rfl,rfl⟩:=jB (dW h);simp only[execOp,bS g q,Instr.makeInterface,Sem.run_bind,cE hu,Result.andThen_ok];cases d<;>first|rfl|exact absurd rfl (hd _)
  .cases h
 case makeFunc fn first captured=>
  split at h
  .rename_i u d q hu
   obtain⟨rfl,rfl⟩:=jB (dW h);have e1:first.map a.eval=u.toArray:=kE g q
   have e2:captured.map a.eval=d.toArray:=kE g hu;simp[execOp,Instr.makeFunc,e1,e2]
  .cases h
 case call c=>
  obtain⟨callee,args,argTypes⟩:=c;simp only at h;split at h
  .rename_i n len cap t G A ht
   split at h
   .rename_i e hu
    obtain⟨rfl,rfl⟩:=jB (dW h);simp[execOp,resolve,invoke,builtin,Builtin.len_,ht,kE g A,cE hu,goInt,aQ,KT]
   .cases h
  .rename_i s t G A ht
   split at h
   .rename_i hu
    obtain⟨rfl,rfl⟩:=jB (dW h);simp[execOp,resolve,invoke,builtin,Builtin.len_,ht,kE g A,cE hu,goInt,aQ,KT]
   .cases h
  .rename_i n len cap t G A ht
   split at h
   .rename_i e hu
    obtain⟨rfl,rfl⟩:=jB (dW h);simp[execOp,resolve,invoke,builtin,Builtin.cap_,ht,kE g A,cE hu,goInt,aQ,KT]
   .cases h
  .rename_i v L G A
   obtain⟨r,B,e⟩:=mK.1 h;obtain⟨rfl,rfl⟩:=jB e;have:=Nl (P:=P) (w:=w) false B;simp only[cond_false]at this;simp[execOp,resolve,invoke,builtin,Builtin.min_,kE g A,this]
  .rename_i v L G A
   obtain⟨r,B,e⟩:=mK.1 h;obtain⟨rfl,rfl⟩:=jB e;have:=Nl (P:=P) (w:=w) true B;simp only[cond_true]at this;simp[execOp,resolve,invoke,builtin,Builtin.max_,kE g A,this]
  .cases h
end
end Go.Sw
