import Derived.Test.YtncolficnfcdcaaGreatSwS3
set_option linter.unusedVariables false
set_option linter.unusedSimpArgs false
namespace Go.Sw
section
def wh(w:World)(h:aE):World:={w with heap:=h}
theorem zW(w:World)(h:aE):Env w (wh w h):=⟨rfl,rfl,rfl⟩
theorem VY(w:World):wh w w.heap=w:=rfl
theorem Yk(w:World):Env w w.drew:=⟨rfl,rfl,rfl⟩
section
variable{P:Program}
variable{a:Addr}{v:Value}{vs:List Value}{ty:Ty}{h:aE}
theorem Ny{w:World}(h:cell w.heap a=some v):(load a).run P w = .ok v w:=by
 have b:w.cell? a=some v:=h;simp[run_load,b]
theorem SW{w:World}:∀{vs:List Value} {i:Nat} (acc:Array Value),AG w.heap a i vs ->
  (loadCellsFrom a i vs.length acc).run P w = .ok (acc++vs.toArray) w:=by
 intro vs
 induction vs with
 |nil=>intro i acc h;simp[loadCellsFrom]
 |cons v vs d=>
  intro i acc h;obtain⟨b,c⟩:=h;simp only[fF,loadCellsFrom,Sem.run_bind,Ny b,Result.andThen_ok,d _ c]
  congr 1
  apply xR.1;simp
theorem Ax{w:World}(h:Cells w.heap a vs):(loadCells a vs.length).run P w = .ok vs.toArray w:=by
 simpa[loadCells] using SW (P:=P) #[] h
theorem De{t:TypeId}{b:Bool}{w:World}(h:K2 (P.underlying t)=some b):(isAgg t).run P w = .ok b w:=by
 cases hu:P.underlying t<;>simp only[hu,K2]at h
 .cases h
 .rename_i d
  simp only[isAgg,Sem.run_bind,cE hu,Result.andThen_ok];cases d<;>simp[K2]at h<;>subst h<;>rfl
theorem Du(bs:List B):∀x,(Bs.inj bs x).length=bs.length:=by
 induction bs with
 |nil=>intro x;rfl
 |cons b bs c=>intro x;simp[Bs.inj,c]
theorem UR{t:TypeId}(h:Xl P t=some ty):∃i,P.info? t=some i/\∀x:ty.den,(ty.cells x).length=i.size /\
  ((K2 (P.underlying t)=some true/\ty.inj x = .agg (ty.cells x).toArray)\/(K2 (P.underlying t)=some false/\ty.cells x=[ty.inj x])):=by
 unfold Xl at h;split at h
 .rename_i i hi
  refine⟨i,hi,?_⟩;split at h
  .rename_i cs b c
   cases hb:Nat.beq cs.toList.length i.size
   .simp only[hb,cond_false]at h;cases h
   .simp only[hb,cond_true]at h
    obtain rfl:=dW h;intro x;refine⟨?_, .inl ⟨b,rfl⟩⟩;rw[<-fH.1 hb];exact(Du _ _).trans (by simp)
  .rename_i v b c
   cases hb:Nat.beq i.size 1
   .simp only[hb,cond_false]at h;cases h
   .simp only[hb,cond_true]at h
    obtain rfl:=dW h;intro x;exact⟨(fH.1 hb).symm, .inr ⟨b,rfl⟩⟩
  .cases h
 .cases h
theorem Hd{w:World}{t:TypeId}(ht:Xl P t=some ty){x:ty.den}(h:Cells w.heap a (ty.cells x)) :
  (loadVar t a).run P w = .ok (ty.inj x) w:=by
 obtain⟨i,hi,d⟩:=UR ht;obtain⟨c,⟨b,he⟩|⟨b,he⟩⟩:=d x
 .have:=Ax (P:=P) h
  rw[c]at this;simp only[loadVar,Sem.run_bind,De b,Result.andThen_ok,if_true,gA hi,this,Sem.run_pure,he]
 .rw[he]at h
  have h0:=h.1;simp only[Addr.add,if_true]at h0;simp only[loadVar,Sem.run_bind,De b,Result.andThen_ok,gE,if_false,Ny h0]
def W(h:aE):World:={(default:World)with heap:=h}
theorem HW{u:Value}(ha:cell h a=some u):cell (setCell h a v) a=some v:=
 World.cell?_setCell_same (W h) a v ha
theorem G2{b:Addr}(K5:a≠b):cell (setCell h a v) b=cell h b:=
 World.cell?_setCell_other (W h) a b v K5
theorem HX{b:Addr}{u:Value}(hb:cell h b=some u):∃c,cell (setCell h a v) b=some c:=by
 by_cases e:a=b
 .subst e;exact⟨v,HW hb⟩
 .exact⟨u,by rw[G2 e];exact hb⟩
theorem Ss{b:Addr}:Ix (setCell h a v) b=Ix h b:=
 World.frozen?_setCell (W h) a b v
theorem NV{b:Addr}:∀{vs:List Value} {i:Nat},nA h a i vs->nA (setCell h b v) a i vs:=by
 intro vs
 induction vs with
 |nil=>intro i h;trivial
 |cons u vs g=>
  intro i hw;obtain⟨⟨⟨j,c⟩,d,e⟩,f⟩:=hw;exact⟨⟨HX c,by rw[Ss];exact d,e⟩,g f⟩
theorem AA:∀{vs:List Value} {i:Nat} {w:World},nA w.heap a i vs ->
  (storeCells a vs i).run P w = .ok () (wh w (nR w.heap a i vs)):=by
 intro vs
 induction vs with
 |nil=>intro i w h;simp[storeCells,nR,VY]
 |cons v vs k=>
  intro i w h;obtain⟨⟨⟨u,d⟩,e,f⟩,g⟩:=h;have b:w.cell? (a.add i)=some u:=d;have c:w.frozen? (a.add i)=false:=e;have j:(store (a.add i) v).run P w = .ok () (w.setCell (a.add i) v):=by
   rw[run_store P w _ v .plain (by rw[<-PZ];exact f)];simp[b,c]
  simp only[storeCells,Sem.run_bind,j,Result.andThen_ok];rw[k (w:=w.setCell (a.add i) v) (NV g)];rfl
theorem Tn{w:World}{t:TypeId}{c:Bool}(ht:cellsOf P t v=some (c,vs))(d:c=true)(h:Md w.heap a vs) :
  (storeVar t a v).run P w = .ok () (wh w (nO w.heap a vs)):=by
 obtain⟨i,hi,b,e⟩:=Ca ht d;have:(v.cells.size≠i.size)=False:=by simp[b,e]
 simp only[storeVar,Sem.run_bind,gA hi,Result.andThen_ok,this,if_false];simp only[b];exact AA h
theorem O5{w:World}{t:TypeId}(b:v.cells=vs.toArray) :
  (newVar t v).run P w = .ok ⟨w.heap.size,0,none⟩ (wh w (w.heap.push (.cells vs.toArray t))):=by
 simp[newVar,newRow,b,wh]
theorem F1{w:World}{p:Option Addr}{n m c size:Nat}(h:wW w.heap p (n*size) vs) :
  (Builtin.firstCells size n (.slice p m c)).run P w = .ok vs.toArray w:=by
 cases p with
 |none=>simp only[wW]at h;subst h;rfl
 |some a=>
  obtain⟨d,b⟩:=h;have:=Ax (P:=P) b;rw[d]at this;exact this
end
end
end Go.Sw
