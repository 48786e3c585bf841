import Derived.Test.YtncolficnfcdcaaGreatSwS4
set_option linter.unusedVariables false
set_option linter.unusedSimpArgs false
namespace Go.Sw
section
theorem LN(z:List Value):∀n,(List.range (n*z.length)).map (λi=>z.toArray[i % z.length]!)=jP z n:=by
 intro n
 induction n with
 |zero=>simp[jP]
 |succ n d=>
  rw[FZ,F0,List.range_add,dP,sX];have b:(List.range z.length).map (λi=>z.toArray[i % z.length]!)=z:=by
   apply List.ext_getElem
   .simp
   .intro i f a
    have:i % z.length=i:=RC a;simp[this,a]
  have c:(λi=>z.toArray[i % z.length]!)∘(λx=>z.length+x)=λi=>z.toArray[i % z.length]! := by
   funext i
   simp
  rw[b,c,d];rfl
theorem JE(z:List Value)(n:Nat):(jP z n).length=n*z.length:=by
 induction n with
 |zero=>simp[jP]
 |succ n a=>simp[jP,a,FZ,F0]
theorem Ea(z:List Value)(n:Nat):Builtin.zeroCells z.toArray n=(jP z n).toArray:=by
 apply yG.1;have:=LN z n;simpa[Builtin.zeroCells] using this
theorem Ha(z:List Value)(n:Nat):(Array.range (n*z.length)).map (λi=>z.toArray[i % z.toArray.size]!)=(jP z n).toArray:=
 Ea z n
section
variable{P:Program}
variable{e:TypeId}{z:List Value}{p':Option Addr}{n' m':Nat}
theorem sK{t:TypeId}{size bytes:Nat}(h:elemOf P t=some (e,size,bytes,z)) :
  ∃i,P.underlying t=some (.slice e)/\P.info? e=some i/\i.size=size/\i.bytes=bytes/\z.length=size/\∀w,∃v,(zeroValue e).run P w = .ok v w/\v.cells=z.toArray:=by
 unfold elemOf at h;split at h
 .rename_i c hu
  split at h
  .rename_i i b hi a
   cases hb:Nat.beq b.length i.size
   .simp only[hb,cond_false]at h;cases h
   .simp only[hb,cond_true,gO,oU]at h
    obtain⟨rfl,rfl,rfl,rfl⟩:=h;exact⟨i,hu,hi,rfl,rfl,fN.1 hb,λw=>AX a⟩
  .cases h
 .cases h
theorem Vj{t v e':TypeId}{size bytes:Nat}{q:Nat×Nat×List Value}(he:elemOf P t=some (e,size,bytes,z))(A:elemOf P v=some (e',q))
  (ty:TypeId) {p:Option Addr} {n m:Nat} {w:World} {K:Sl->aG->Prop} (h:Ie size bytes z ⟨p,n,m⟩ ⟨p',n',m'⟩ w.heap K) :
  ∃r x,(Builtin.append_ #[t,v] ty #[.slice p n m, .slice p' n' m']).run P w = .ok (.slice r.aD r.len r.cap) x/\Env w x/\K r x.heap:=by
 obtain⟨i,hu,hi,l,y,J,E⟩:=sK he;obtain⟨L,o, -, -, -, -, -⟩:=sK (show elemOf P v=some (e',q.1,q.2.1,q.2.2) from A);obtain⟨new,j,h⟩:=h;have b:(Builtin.firstCells size n' (.slice p' n' m')).run P w = .ok new.toArray w:=Gh j;simp only at h;by_cases f:n+n'<=m
 .simp only[f,if_true]at h
  cases p with
  |none=>
   simp only at h;refine⟨⟨none,n+n',m⟩,w,?_,Env.refl w,h⟩;simp[Builtin.append_,cG hu,cG o,gT hi,l,Builtin.lenOf,f,b]
  |some a=>
   simp only at h;refine⟨⟨some a,n+n',m⟩,wh w (nY w.heap (a.add (n*size)) new),?_,Al _ _,h.2⟩;have B:(storeCells (a.add (n*size)) new).run P w = .ok () (wh w (nY w.heap (a.add (n*size)) new)):=AT h.1;simp[Builtin.append_,cG hu,cG o,gT hi,l,Builtin.lenOf,f,b,B]
 .simp only[f,if_false]at h
  obtain⟨old,hold,F,I,G⟩:=h;have H:(Question.appendCap (n+n') m e).forced=false:=rfl;generalize g:(Question.appendCap (n+n') m e).cut (w.tape w.drawn (.appendCap (n+n') m e))=cap;have c:n+n'<=cap/\cap<2^63:=by
   rw[<-g];simp only[Question.cut];have:=Nat.mod_lt (w.tape w.drawn (.appendCap (n+n') m e)) (show 0<2^63-(n+n') by omega);omega
  obtain⟨M,D,C⟩:=E w.drew;have d:(Builtin.firstCells size n' (.slice p' n' m')).run P w.drew = .ok new.toArray w.drew:=Gh (w:=w.drew) j;have s:(Builtin.firstCells size n (.slice p n m)).run P w.drew = .ok old.toArray w.drew:=Gh (w:=w.drew) hold;have u:¬((9223372036854775807:Int)<(n:Int)+(n':Int)/\bytes=0):=by omega
  have k:¬(281474976710656<Builtin.nextslicecap (n+n') m*bytes):=by omega
  refine⟨⟨some ⟨w.heap.size,0,none⟩,n+n',cap⟩,wh w.drew (w.heap.push (.cells (old++new++jP z (cap-(n+n'))).toArray e)),?_,⟨rfl,rfl,rfl⟩,G cap e c.1 c.2⟩;simp[Builtin.append_,cG hu,cG o,gT hi,l,Builtin.lenOf,f,zV hi,y,u,k,run_choose,H,g,s,d,D,C,Ea,newRow,wh];rfl
theorem ak{t:TypeId}{size bytes:Nat}(he:elemOf P t=some (e,size,bytes,z))(ts:List TypeId)
  (ty:TypeId) {p:Option Addr} {n m:Nat} {w:World} {K:Nat->aG->Prop} (h:Qm size ⟨p,n,m⟩ ⟨p',n',m'⟩ w.heap K) :
  ∃r f,(Builtin.copy_ (t::ts).toArray ty #[.slice p n m, .slice p' n' m']).run P w = .ok (.int .i64 ((r:Nat):Int)) f/\Env w f/\K r f.heap:=by
 obtain⟨i,hu,hi,d,j,k,l⟩:=sK he;obtain⟨new,c,h⟩:=h;simp only at h c;have b:(Builtin.firstCells size (Nat.min n' n) (.slice p' n' m')).run P w = .ok new.toArray w:=Gh c;cases p with
 |none=>
  simp only at h;refine⟨min n' n,w,?_,Env.refl w,h⟩;simp[Builtin.copy_,cG hu,gT hi,d,Builtin.lenOf,b,goInt]
 |some a=>
  simp only at h;refine⟨min n' n,wh w (nY w.heap a new),?_,Al _ _,h.2⟩;have g:(storeCells a new).run P w = .ok () (wh w (nY w.heap a new)):=AT h.1;simp[Builtin.copy_,cG hu,gT hi,d,Builtin.lenOf,b,g,goInt]
theorem wrap_i64{n:Int}(h0:0<=n)(h1:n<2^63):IntKind.i64.wrap n=n:=by
 have e:n % (2^64)=n:=Int.emod_eq_of_lt h0 (by omega);have:IntKind.i64.wrap n=(if (true && decide (n % (2^64)≥2^63))=true then n % (2^64)-2^64 else n % (2^64)):=rfl;rw[this];simp only[e];simp;omega
theorem run_makeSlice{t:TypeId}{size bytes:Nat}(he:elemOf P t=some (e,size,bytes,z)){l c:Int}{w:World}
  (h:0<=l/\l<=c/\c<2^63/\bytes*c<=2^48) :
  (Instr.makeSlice t (.int .i64 l) (.int .i64 c)).run P w = .ok (.slice (some ⟨w.heap.size,0,none⟩) l.toNat c.toNat) (wh w (w.heap.push (.cells (jP z c.toNat).toArray e))):=by
 obtain⟨i,hu,hi,f,d,b,q⟩:=sK he;obtain⟨h0,s,r,u⟩:=h;obtain⟨v,p,o⟩:=q w;have g:IntKind.i64.wrap l=l:=wrap_i64 h0 (by omega);have j:IntKind.i64.wrap c=c:=wrap_i64 (by omega) r;have c1:(decide (c<0) || decide ((281474976710656:Int)<bytes*c))=false:=by simp;omega
 have t1:(c<0)=False:=by simp;omega
 have t2:((281474976710656:Int)<bytes*c)=False:=by simp;omega
 have t3:(l<0)=False:=by simp;omega
 have t4:(c<l)=False:=by simp;omega
 by_cases a:c.toNat*size=0
 .have n:jP z c.toNat=[]:=RD.1 (by rw[JE,b,a])
  have k:c.toNat=0\/size=0:=Nat.mul_eq_zero.1 a;simp[Instr.makeSlice,cG hu,asInt,asIntOf,zV hi,d,g,j,t1,t2,t3,t4,gT hi,f,a,n,newRow,wh];exact congrArg (λx=>w.alloc (.cells x e)) (yG.1 (by simp))
 .have m:=Ha z c.toNat
  rw[b]at m;have k:¬(c.toNat=0\/size=0):=λx=>a (Nat.mul_eq_zero.2 x);simp[Instr.makeSlice,cG hu,asInt,asIntOf,zV hi,d,g,j,t1,t2,t3,t4,gT hi,f,a,p,o,newRow,wh];exact congrArg (λx=>w.alloc (.cells x e)) (by simpa[b] using m)
end
end
end Go.Sw
