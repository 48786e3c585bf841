import Derived.Test.YtncolficnfcdcaaGreatSwS1
import Derived.Laws.StructEq
set_option linter.unusedVariables false
set_option linter.unusedSimpArgs false
namespace Go.Sw
section
theorem Cr{P:Program}{t:TypeId}{v:Value}{c:Bool}{vs:List Value}(h:cellsOf P t v=some (c,vs))(b:c=true) :
  ∃i,P.info? t=some i/\v.cells=vs.toArray/\vs.length=i.size:=by
 unfold cellsOf at h;split at h
 .rename_i i hi
  split at h
  .split at h
   .rename_i cs
    cases hb:Nat.beq cs.toList.length i.size
    .simp only[hb,cond_false]at h;cases h
    .simp only[hb,cond_true,gO,oU]at h
     obtain⟨-, rfl⟩:=h;exact⟨i,hi,by simp[Value.cells],fN.1 hb⟩
   .cases h
  .cases hb:Nat.beq i.size 1
   .simp only[hb,cond_false]at h;cases h
   .simp only[hb,cond_true,gO,oU]at h
    obtain⟨a,rfl⟩:=h;rw[b]at a;refine⟨i,hi,?_,by simpa using (fN.1 hb).symm⟩;cases v<;>simp[S8,flat]at a<;>rfl
  .cases h
 .cases h
def OH:Option Value->Option Int->Prop
 |none,none=>True
 |some v,some n=>∃k,v = .int k n
 |_,_=>False
theorem nI{f:Fr}{a:Act}(b:sE f a){x:Option Operand}{r:Option Int}(h:HI f x=some r):OH (x.map a.eval) r:=by
 cases x with
 |none=>simp[HI]at h;subst h;trivial
 |some o=>
  simp only[HI]at h;split at h
  .rename_i k n he
   obtain rfl:=dU h;exact⟨k,bV b he⟩
  .cases h
section
variable{P:Program}{w:World}
theorem kI{k:IntKind}{n:Int}{y:Nat}(code:BoundsCode)(h:wY n y=true):(Instr.sliceBound (.int k n) y code).run P w = .ok n.toNat w:=by
 have:=ik.1 h;simp[Instr.sliceBound,asIntOf,this]
theorem DB(isSlice:Bool){len cap:Nat}{lo hi mx:Option Value}{d e mx':Option Int}(h1:OH lo d)(f:OH hi e)(i:OH mx mx')
  {c:Bool} {l h m:Nat} (hb:bounds len cap d e mx'=some (c,l,h,m)) (j:c=true) :
  (Instr.sliceBounds isSlice len cap lo hi mx).run P w = .ok (l,h,m) w:=by
 subst j;cases mx<;>cases mx'<;>simp only[OH]at i
 .cases hi<;>cases e<;>simp only[OH]at f
  .cases lo<;>cases d<;>simp only[OH]at h1
   .simp only[bounds,gO,oU]at hb
    obtain⟨-, rfl,rfl,rfl⟩:=hb;simp[Instr.sliceBounds]
   .obtain⟨k,rfl⟩:=h1
    simp only[bounds,bQ,gO,oU]at hb;obtain⟨a,rfl,rfl,rfl⟩:=hb;simp[Instr.sliceBounds,kI _ a]
  .obtain⟨k2,rfl⟩:=f
   cases lo<;>cases d<;>simp only[OH]at h1
   .simp only[bounds,bQ,gO,oU]at hb
    obtain⟨a,rfl,rfl,rfl⟩:=hb;simp[Instr.sliceBounds,kI _ a]
   .obtain⟨k,rfl⟩:=h1
    simp only[bounds,bN,bQ,gO,oU,iL]at hb;obtain⟨⟨a,b⟩,rfl,rfl,rfl⟩:=hb;simp[Instr.sliceBounds,kI _ a,kI _ b]
 .obtain⟨n,rfl⟩:=i
  cases hi<;>cases e<;>simp only[OH]at f
  .simp[bounds]at hb
  .obtain⟨k2,rfl⟩:=f
   cases lo<;>cases d<;>simp only[OH]at h1
   .simp only[bounds,bN,bQ,gO,oU,iL]at hb
    obtain⟨⟨a,b⟩,rfl,rfl,rfl⟩:=hb;simp[Instr.sliceBounds,kI _ a,kI _ b]
   .obtain⟨k,rfl⟩:=h1
    simp only[bounds,bN,bQ,gO,oU,iL]at hb;obtain⟨⟨a,b,g⟩,rfl,rfl,rfl⟩:=hb;simp[Instr.sliceBounds,kI _ a,kI _ b,kI _ g]
theorem Bw{t:TypeId}{cs:Array Value}{off:Nat}{v:Value}(h:Jk P t cs off=some v):(part t cs off).run P w = .ok v w:=by
 unfold Jk at h;split at h
 .rename_i i hi
  split at h
  .rename_i a
   obtain rfl:=dU h;have:(isAgg t).run P w = .ok true w:=by
    cases hu:P.underlying t<;>simp only[hu,Lw]at a
    .cases a
    .rename_i d
     simp only[isAgg,Sem.run_bind,cG hu,Result.andThen_ok];cases d<;>first|rfl|(simp[Lw]at a)
   simp[part,this,gT hi]
  .rename_i a
   have:(isAgg t).run P w = .ok false w:=by
    cases hu:P.underlying t<;>simp only[hu,Lw]at a
    .cases a
    .rename_i d
     simp only[isAgg,Sem.run_bind,cG hu,Result.andThen_ok];cases d<;>first|rfl|(simp[Lw]at a)
   simp[part,this,h]
  .cases h
 .cases h
theorem T9(vs:List Value):∀(off k:Nat) (cs:List Value),off+k+vs.length<=cs.length ->
  (vs.zipIdx k).foldl (λcs (p:Value×Nat)=>cs.set (off+p.2) p.1) cs=cs.take (off+k)++vs++cs.drop (off+k+vs.length):=by
 induction vs with
 |nil=>intro off k cs h;simp
 |cons v vs d=>
  intro off k cs h;simp only[List.zipIdx_cons,CD];rw[d off (k+1) (cs.set (off+k) v) (by simp at h⊢;omega)];have c:off+k<cs.length:=by simp at h;omega
  have a:(cs.set (off+k) v).take (off+(k+1))=cs.take (off+k)++[v]:=by
   rw[<-BC,List.take_succ_eq_append_getElem (by simpa using c)];simp[List.take_set_of_le]
  have b:(cs.set (off+k) v).drop (off+(k+1)+vs.length)=cs.drop (off+k+(v::vs).length):=by
   rw[List.drop_set_of_lt (by omega)];simp only[fK]
   congr 1
   omega
  rw[a,b];simp
theorem Rw(vs cs:Array Value)(off:Nat)(h:off+vs.size<=cs.size) :
  vs.zipIdx.foldl (λcs (p:Value×Nat)=>cs.setIfInBounds (off+p.2) p.1) cs=(cs.toList.take off++vs.toList++cs.toList.drop (off+vs.size)).toArray:=by
 have key:∀(l:List (Value×Nat)) (cs:Array Value),(l.foldl (λcs p=>cs.setIfInBounds (off+p.2) p.1) cs).toList=l.foldl (λcs (p:Value×Nat)=>cs.set (off+p.2) p.1) cs.toList:=by
  intro l
  induction l with
  |nil=>intro cs;rfl
  |cons p l a=>intro cs;simp[a]
 apply yG.1;rw[<-Array.foldl_toList,key,Array.toList_zipIdx];have:=T9 vs.toList off 0 cs.toList (by simpa using h);simpa using this
theorem Fz{place:Nat->Option (Nat×TypeId)}{place':Nat->Option (Nat×Nat)}
  (n:∀i off t a,place i=some (off,t)->P.info? t=some a->place' i=some (off,a.size)) :
  ∀{parts:List (Nat×Value)} {c0:Bool} {cells:List Value} {c:Bool} {r:List Value},Nh P place parts c0 cells=some (c,r)->c=true ->
   c0=true/\Instr.fill place' cells.toArray parts=some r.toArray:=by
 intro parts
 induction parts with
 |nil=>intro c0 cells c r h f;simp[Nh]at h;obtain⟨rfl,rfl⟩:=h;exact⟨f,rfl⟩
 |cons p parts q=>
  intro c0 cells c r h f;obtain⟨i,v⟩:=p;simp only[Nh]at h;split at h
  .cases h
  .rename_i off t g
   split at h
   .cases h
   .rename_i s b o
    cases hb:Nat.ble (off+b.length) cells.length
    .simp[hb]at h
    .simp only[hb,cond_true]at h
     obtain⟨d,l⟩:=q h f;simp only[bN,iL]at d;obtain⟨a,j,k,m⟩:=Cr o d.2;have hle:off+b.length<=cells.length:=fZ hb;refine⟨d.1,?_⟩;simp only[Instr.fill,n i off t a g j,k];have e:(b.toArray.size≠a.size || off+b.toArray.size > cells.toArray.size)=false:=by
      simp[m];omega
     simp only[e];rw[Rw _ _ _ (by simpa using hle)];simpa using l
theorem Eb{f:Fr}{a:Act}(d:sE f a):∀{ps:List (Nat×Operand)} {vs:List (Nat×Value)},KC f ps=some vs->ps.map (λp=>(p.1,a.eval p.2))=vs:=by
 intro ps
 induction ps with
 |nil=>intro vs h;simp[KC]at h;simp[h]
 |cons p ps e=>
  intro vs h;obtain⟨i,x⟩:=p;simp only[KC]at h;split at h
  .rename_i v g b c
   obtain rfl:=dU h;simp[bV d b,e c]
  .cases h
theorem AX{t:TypeId}{z:List Value}(h:zeroOf P t=some z):∃v,(zeroValue t).run P w = .ok v w/\v.cells=z.toArray:=by
 unfold zeroOf at h;split at h
 .rename_i i hi
  split at h
  .rename_i cs a
   obtain rfl:=dU h;exact⟨.agg cs,by simp[zeroValue,zV hi,a],by simp[Value.cells]⟩
  .rename_i v b a
   obtain rfl:=dU h;refine⟨v,by simp[zeroValue,zV hi,a],?_⟩;cases v<;>first|rfl|exact absurd rfl (b _)
  .cases h
 .cases h
theorem NR(mx:Bool):∀{vs:List Value} {v r:Value},XI mx v vs=some r->(vs.foldlM (bif mx then Builtin.max2 else Builtin.min2) v).run P w = .ok r w:=by
 intro vs
 induction vs with
 |nil=>intro v r h;simp[XI]at h;simp[h]
 |cons x vs d=>
  intro v r h;unfold XI at h;split at h
  .rename_i heq;cases heq
  .rename_i k a e b f heq
   obtain⟨rfl,rfl⟩:=KD heq;cases c:yV k e
   .simp[c]at h
   .simp only[c,cond_true]at h
    obtain rfl:=Cc.1 c;have:=d h;cases mx
    .simpa[List.foldlM_cons,Builtin.min2,NQ] using this
    .simpa[List.foldlM_cons,Builtin.max2,Df] using this
  .cases h
end
section
variable{P:Program}{w:World}
variable{xs ys:Array Value}
theorem DE{t:TypeId}{a b:Value}{c:Bool}(h:MX P t a b=some c)(d:Nat):(Op.equalIn (d+1) t a b).run P w = .ok c w:=by
 unfold MX at h;split at h
 .rename_i g k a f b hu
  cases e:yV k f
  .simp only[e,cond_false]at h;cases h
  .simp only[e,cond_true,gO]at h
   obtain rfl:=Cc.1 e;subst h;simp[Op.equalIn,cG hu,gM]
 .rename_i a b hu
  obtain rfl:=dU h;simp[Op.equalIn,cG hu,Xt,beq_toListBytes]
 .rename_i a b hu
  obtain rfl:=dU h;simp[Op.equalIn,cG hu,Zg]
 .cases h
theorem Ng(d:Nat):∀{fs:List Field} {c:Bool},IU P xs ys fs=some c->(Op.eqFields (d+1) xs ys fs).run P w = .ok c w:=by
 intro fs
 induction fs with
 |nil=>intro c h;obtain rfl:=dU h;simp[Op.eqFields]
 |cons f fs p=>
  intro c h;simp only[IU]at h;cases e:f.name == "_"
  .simp only[e,cond_false]at h
   have i:f.name ≠ "_" := by simpa using e
   split at h
   .rename_i a b ha hb
    split at h
    .rename_i g r o j
     have k:=Bw (w:=w) ha;have l:=Bw (w:=w) hb;have m:=DE (w:=w) o d;have n:=p j;simp only[Op.eqFields,i,ne_eq,not_false_eq_true,if_true,Sem.run_bind,k,l,m,Result.andThen_ok];split at h
     .obtain rfl:=dU h
      obtain rfl:=dU j;cases g<;>simp[Op.eqFields]
     .obtain rfl:=dU h
      cases g<;>simp[bN,n]
    .cases h
   .cases h
  .simp only[e,cond_true]at h;cases h
theorem Rg{e:TypeId}{c:Bool}(d:Nat)(t:TypeId)(ht:P.underlying t=some (.array 2 e))(h:Vf P e xs ys=some c):(Op.equalIn (d+2) t (.agg xs) (.agg ys)).run P w = .ok c w:=by
 unfold Vf at h;split at h
 .rename_i i hi
  split at h
  .rename_i a b l m n o p q
   split at h
   .rename_i x y s u
    obtain rfl:=dU h;have f:=Bw (w:=w) n;have g:=Bw (w:=w) o;have j:=Bw (w:=w) p;have k:=Bw (w:=w) q;have v:=DE (w:=w) s d;have z:=DE (w:=w) u d;rw[Op.equalIn];simp only[Sem.run_bind,cG ht,Result.andThen_ok,gT hi];simp only[Std.Legacy.Range.forIn_eq_forIn_range',Std.Legacy.Range.size];have r:List.range' 0 ((2-0+1-1) / 1) 1=[0,1]:=rfl;rw[r];have f:(part e xs (0*i.size)).run P w = .ok a w:=f;have g:(part e ys (0*i.size)).run P w = .ok b w:=g;have j:(part e xs (1*i.size)).run P w = .ok l w:=j;have k:(part e ys (1*i.size)).run P w = .ok m w:=k;simp only[List.forIn_cons,List.forIn_nil,Sem.run_bind,f,g,v,Result.andThen_ok];cases x
    .simp[bN]
    .simp only[Bool.not_true,gW,if_false,Sem.run_pure,Result.andThen_ok,j,k,z,Sem.run_bind]
     cases y<;>simp[bN]
   .cases h
  .cases h
 .cases h
theorem Oh{op:BinOp}{t:TypeId}{x y:Operand}{v:Value}(h:structEq P op t xs ys=some v) :
  (do eqGuard op t x y (.agg xs) (.agg ys);binOp op t (.agg xs) (.agg ys):Sem Value).run P w = .ok v w:=by
 unfold structEq at h;split at h
 .rename_i n e hu
  cases b:(!Nat.beq n 2 || P.eqGuardType P.depth t)
  .simp only[b,cond_false]at h
   obtain⟨f,g⟩:=CE.1 b;have k:n=2:=Ec (by simpa using f);subst k;split at h
   .rename_i c i
    have a:(Op.equalIn 10000 t (.agg xs) (.agg ys)).run P w = .ok c w:=Rg 9998 t hu i;simp only[Sem.run_bind,run_eqGuard_agg w op t x y xs ys g,Result.andThen_ok];rcases Fw h with⟨rfl,rfl⟩|⟨rfl,rfl⟩
    .rw[run_eql_struct,a];rfl
    .rw[run_neq_struct,a];rfl
   .cases h
  .simp only[b,cond_true]at h;cases h
 .rename_i fs hu
  cases b:(P.stoodInHeld t || P.eqGuardType P.depth t)
  .simp only[b,cond_false]at h
   obtain⟨f,g⟩:=CE.1 b;split at h
   .rename_i c i
    have j:P.fieldsOf t=fs:=by unfold Program.fieldsOf;rw[hu]
    have he:∀d,(Op.equalIn (d+2) t (.agg xs) (.agg ys)).run P w = .ok c w:=λd=>by
     rw[run_equalIn_struct w (d+1) t xs ys (by rw[j];exact hu) f,j];exact Ng d i
    have a:(Op.equalIn 10000 t (.agg xs) (.agg ys)).run P w = .ok c w:=he 9998;simp only[Sem.run_bind,run_eqGuard_agg w op t x y xs ys g,Result.andThen_ok];rcases Fw h with⟨rfl,rfl⟩|⟨rfl,rfl⟩
    .rw[run_eql_struct,a];rfl
    .rw[run_neq_struct,a];rfl
   .cases h
  .simp only[b,cond_true]at h;cases h
 .cases h
end
end
end Go.Sw
