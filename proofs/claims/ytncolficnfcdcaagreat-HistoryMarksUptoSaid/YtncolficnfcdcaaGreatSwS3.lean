import Derived.Test.YtncolficnfcdcaaGreatSwS2
set_option linter.unusedVariables false
set_option linter.unusedSimpArgs false
namespace Go.Sw
section
variable{a:Act}{P:Program}
theorem X4{p:Option Addr}{m l n:Nat}:(if m=l then p else p.map (·.add (l*n)))=bK p m l n:=rfl
theorem kZ{f:Fr}(b:sE f a){xs:Array Operand}{vs:List Value}(h:Sj f xs.toList=some vs):xs.map a.eval=vs.toArray:=
 yG.1 (by simpa using Xu b h)
theorem TW{w:World}:∀{fs:List Field},(fs.all (λfd=>(P.info? fd.type).isSome))=true ->
  (fs.mapM λf=>(do pure (f.offset,<-sizeOf f.type):Sem (Nat×Nat))).run P w = .ok (fs.map λfd=>(fd.offset,P.cellsOf fd.type)) w:=by
 intro fs
 induction fs with
 |nil=>intro h;simp
 |cons fd fs b=>
  intro h;simp only[List.all_cons,iL]at h;obtain⟨i,hi⟩:=BB.1 h.1;have:=b h.2;simp[Mc,gT hi,Program.cellsOf,hi]at this⊢;simp[this]
theorem Jl{f:Fr}(g:sE f a){o:Oper}{c:PC}{v:Value}(h:Rk P f o.type o.op=some (c,v))(C:LV P c)(w:World) :
  (execOp a.eval o).run P w = .ok (.value v) w:=by
 obtain⟨dst,op,type,pos,after,guard⟩:=o;simp only at h;cases op<;>simp only[Rk,reduceCtorEq]at h
 case move x=>
  obtain⟨u,hu,e⟩:=mY.1 h;obtain⟨rfl,rfl⟩:=jS e;simp[execOp,bV g hu]
 case assign x=>
  obtain⟨u,hu,e⟩:=mY.1 h;obtain⟨rfl,rfl⟩:=jS e;simp[execOp,bV g hu]
 case nilCheck x=>
  cases ab:Tf P type
  .simp only[ab,cond_false]at h
   split at h
   .rename_i p q
    obtain⟨rfl,rfl⟩:=jS (dU h);obtain⟨ad,rfl⟩:=BB.1 C;simp[execOp,bV g q]
   .cases h
  .simp only[ab,cond_true]at h
   obtain⟨u,hu,e⟩:=mY.1 h;obtain⟨rfl,rfl⟩:=jS e;have e:=bV g hu;have:=C w;simp only[execOp]at this⊢;rw[e];exact this
 case binOp op t x y u=>
  cases hn:Wg y
  .simp only[hn,cond_false]at h
   split at h
   .rename_i b d q hy
    split at h
    .rename_i xs ys
     obtain⟨r,B,e⟩:=mY.1 h;obtain⟨rfl,rfl⟩:=jS e;have:=Oh (w:=w) (x:=x) (y:=y) B;simp only[execOp,bV g q,bV g hy];rw[Sem.run_bind,this];rfl
    obtain⟨r,B,e⟩:=mY.1 h;obtain⟨rfl,rfl⟩:=jS e;have:=Ux (w:=w) (x:=x) (y:=y) B C;simp only[execOp,bV g q,bV g hy];rw[Sem.run_bind,this];rfl
   .cases h
  .simp only[hn,cond_true]at h
   split at h
   .rename_i b q
    obtain⟨r,B,e⟩:=mY.1 h;obtain⟨rfl,rfl⟩:=jS e;have:=Ve (w:=w) (x:=x) a.eval (λv=>rfl) B C;simp only[execOp,bV g q];rw[Sem.run_bind,this];rfl
   .cases h
 case unOp op t x=>
  split at h
  .rename_i b q
   obtain⟨r,B,e⟩:=mY.1 h;obtain⟨rfl,rfl⟩:=jS e;simp[execOp,bV g q,Yd (w:=w) B]
  .cases h
 case convert s d x=>
  split at h
  .rename_i b q
   obtain⟨r,B,e⟩:=mY.1 h;obtain⟨rfl,rfl⟩:=jS e;simp[execOp,bV g q,SO (w:=w) B]
  .cases h
 case fieldAddr t x n=>
  split at h
  .rename_i p ft off q T
   obtain⟨rfl,rfl⟩:=jS (dU h);simp[execOp,bV g q,OV (w:=w) T p C]
  .cases h
 case field t x n=>
  split at h
  .rename_i cs ft off q T
   obtain⟨r,B,e⟩:=mY.1 h;obtain⟨rfl,rfl⟩:=jS e;obtain⟨fs,fd,i,hu,N,hi,Y,rfl,rfl⟩:=Fy T;simp[execOp,bV g q,Instr.field,cG hu,N,asAgg,Bw B]
  .cases h
 case indexAddr t x i=>
  split at h
  .rename_i e p n R k j hu q U
   split at h
   .rename_i Q hi
    obtain⟨rfl,rfl⟩:=jS (dU h);simp[execOp,bV g q,bV g U,OY (w:=w) hu hi p n R k j C,aZ,bQ]
   .cases h
  .rename_i n e p k j hu q U
   split at h
   .rename_i Q hi
    obtain⟨rfl,rfl⟩:=jS (dU h);simp[execOp,bV g q,bV g U,OX (w:=w) hu hi p k j C,aZ,bQ]
   .cases h
  .cases h
 case index t x i=>
  split at h
  .rename_i s k j hu q U
   obtain⟨rfl,rfl⟩:=jS (dU h);simp[execOp,bV g q,bV g U,QF (w:=w) hu s k j C]
  .cases h
 case extract x n=>
  split at h
  .rename_i L q
   obtain⟨r,B,e⟩:=mY.1 h;obtain⟨rfl,rfl⟩:=jS e;have a0:L[n]?=some r:=by simpa using B
   simp[execOp,bV g q,Instr.extract,a0]
  .cases h
 case slice t x lo hi mx=>
  split at h
  .rename_i e p len cap ao al a1 hu q J I D
   split at h
   .rename_i Q R l h' m F hb
    obtain⟨rfl,rfl⟩:=jS (dU h);have:=DB (P:=P) (w:=w) true (nI g J) (nI g I) (nI g D) hb C;simp[execOp,bV g q,Instr.sliceAt,Instr.slice,cG hu,this,gT F,X4,cY]
   .cases h
  .rename_i n e p ao al a1 hu q J I D
   split at h
   .rename_i Q R l h' m F hb
    obtain⟨rfl,rfl⟩:=jS (dU h);have Z:p.isSome=true/\R=true:=by simpa[LV,bN,aJ] using C
    obtain⟨ad,rfl⟩:=BB.1 Z.1;have:=DB (P:=P) (w:=w) false (nI g J) (nI g I) (nI g D) hb Z.2;simp[execOp,bV g q,Instr.sliceAt,cG hu,this,gT F,nQ,bK,cY];split<;>rfl
   .cases h
  .rename_i s ao al hu q J I D
   split at h
   .rename_i R l h' m hb
    obtain⟨rfl,rfl⟩:=jS (dU h);cases mx with
    |none=>
     have:=DB (P:=P) (w:=w) (mx:=none) (mx':=none) false (nI g J) (nI g I) trivial hb C;simp[execOp,bV g q,Instr.sliceAt,Instr.slice,cG hu,Ln,wc]at this⊢;simp[this]
    |some m=>
     simp only[HI]at D;split at D<;>simp at D
   .cases h
  .cases h
 case build t parts=>
  split at h
  .rename_i L z fs V Y hu
   cases M:fs.toList.all (λfd=>(P.info? fd.type).isSome)
   .simp only[M,cond_false]at h;cases h
   simp only[M,cond_true]at h;obtain⟨r,B,e⟩:=mY.1 h;obtain⟨rfl,rfl⟩:=jS e;obtain⟨zv,X,W⟩:=AX (w:=w) Y;have aw:=TW (P:=P) (w:=w) (fs:=fs.toList) (by simpa using M);have H:=(Fz (P:=P) (place':=λi=>(fs.toList.map (λfd=>(fd.offset,P.cellsOf fd.type)))[i]?) (λi off t ti K O=>by
    simp only[K7,mY,oU]at K;obtain⟨fd,N,rfl,rfl⟩:=K;have:fs.toList[i]?=some fd:=by simpa using N
    simp[N,Program.cellsOf,O]) B C).2
   have E:(parts.map λp=>(p.1,a.eval p.2)).toList=L:=by simpa using Eb g V
   simp only[execOp,Instr.build,Sem.run_bind,X,Result.andThen_ok,cG hu,WK,Sem.run_map,W];simp only[E,aw,Result.andThen_ok];have S:Instr.fill (λx=>Option.map (λfd=>(fd.offset,P.cellsOf fd.type)) fs[x]?) z.toArray L=some r.2.toArray:=by simpa using H
   simp[S]
  .rename_i L z n e V Y hu
   split at h
   .rename_i Q F
    obtain⟨r,B,e⟩:=mY.1 h;obtain⟨rfl,rfl⟩:=jS e;obtain⟨zv,X,W⟩:=AX (w:=w) Y;have H:=(Fz (P:=P) (place':=λi=>some (i*Q.size,Q.size)) (λi off t ti K O=>by
     simp only[gO,oU]at K;obtain⟨rfl,rfl⟩:=K;rw[F]at O;obtain rfl:=dU O;rfl) B C).2
    have E:(parts.map λp=>(p.1,a.eval p.2)).toList=L:=by simpa using Eb g V
    simp only[execOp,Instr.build,Sem.run_bind,X,Result.andThen_ok,cG hu,W,gT F];simp only[E];simp[H]
   .cases h
  .cases h
 case makeInterface t x=>
  split at h
  .cases h
  .rename_i u d hd q hu
   obtain⟨rfl,rfl⟩:=jS (dU h);simp only[execOp,bV g q,Instr.makeInterface,Sem.run_bind,cG hu,Result.andThen_ok];cases d<;>first|rfl|exact absurd rfl (hd _)
  .cases h
 case makeFunc fn first captured=>
  split at h
  .rename_i u d q hu
   obtain⟨rfl,rfl⟩:=jS (dU h);have e1:first.map a.eval=u.toArray:=kZ g q
   have e2:captured.map a.eval=d.toArray:=kZ g hu;simp[execOp,Instr.makeFunc,e1,e2]
  .cases h
 case call c=>
  obtain⟨callee,args,argTypes⟩:=c;simp only at h;split at h
  .rename_i n len cap t G A ht
   split at h
   .rename_i e hu
    obtain⟨rfl,rfl⟩:=jS (dU h);simp[execOp,resolve,invoke,builtin,Builtin.len_,ht,kZ g A,cG hu,goInt,aQ,Ln]
   .cases h
  .rename_i s t G A ht
   split at h
   .rename_i hu
    obtain⟨rfl,rfl⟩:=jS (dU h);simp[execOp,resolve,invoke,builtin,Builtin.len_,ht,kZ g A,cG hu,goInt,aQ,Ln]
   .cases h
  .rename_i n len cap t G A ht
   split at h
   .rename_i e hu
    obtain⟨rfl,rfl⟩:=jS (dU h);simp[execOp,resolve,invoke,builtin,Builtin.cap_,ht,kZ g A,cG hu,goInt,aQ,Ln]
   .cases h
  .rename_i v L G A
   obtain⟨r,B,e⟩:=mY.1 h;obtain⟨rfl,rfl⟩:=jS e;have:=NR (P:=P) (w:=w) false B;simp only[cond_false]at this;simp[execOp,resolve,invoke,builtin,Builtin.min_,kZ g A,this]
  .rename_i v L G A
   obtain⟨r,B,e⟩:=mY.1 h;obtain⟨rfl,rfl⟩:=jS e;have:=NR (P:=P) (w:=w) true B;simp only[cond_true]at this;simp[execOp,resolve,invoke,builtin,Builtin.max_,kZ g A,this]
  .cases h
end
end Go.Sw
