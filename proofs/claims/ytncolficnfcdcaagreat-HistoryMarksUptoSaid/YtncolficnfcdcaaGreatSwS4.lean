import Derived.Test.YtncolficnfcdcaaGreatSwS3
set_option linter.unusedVariables false
set_option linter.unusedSimpArgs false
namespace Go.Sw
section
def wh(w:World)(h:aG):World:={w with heap:=h}
theorem Al(w:World)(h:aG):Env w (wh w h):=⟨rfl,rfl,rfl⟩
theorem WH(w:World):wh w w.heap=w:=rfl
theorem Za(w:World):Env w w.drew:=⟨rfl,rfl,rfl⟩
section
variable{P:Program}
variable{a:Addr}{v:Value}{vs:List Value}{ty:Ty}{h:aG}
theorem N7{w:World}(h:cell w.heap a=some v):(load a).run P w = .ok v w:=by
 have b:w.cell? a=some v:=h;simp[run_load,b]
theorem TD{w:World}:∀{vs:List Value} {i:Nat} (acc:Array Value),AY w.heap a i vs ->
  (loadCellsFrom a i vs.length acc).run P w = .ok (acc++vs.toArray) w:=by
 intro vs
 induction vs with
 |nil=>intro i acc h;simp[loadCellsFrom]
 |cons v vs d=>
  intro i acc h;obtain⟨b,c⟩:=h;simp only[fK,loadCellsFrom,Sem.run_bind,N7 b,Result.andThen_ok,d _ c]
  congr 1
  apply yG.1;simp
theorem AQ{w:World}(h:Cells w.heap a vs):(loadCells a vs.length).run P w = .ok vs.toArray w:=by
 simpa[loadCells] using TD (P:=P) #[] h
theorem Dz{t:TypeId}{b:Bool}{w:World}(h:Lw (P.underlying t)=some b):(isAgg t).run P w = .ok b w:=by
 cases hu:P.underlying t<;>simp only[hu,Lw]at h
 .cases h
 .rename_i d
  simp only[isAgg,Sem.run_bind,cG hu,Result.andThen_ok];cases d<;>simp[Lw]at h<;>subst h<;>rfl
theorem DO(bs:List B):∀x,(Bs.inj bs x).length=bs.length:=by
 induction bs with
 |nil=>intro x;rfl
 |cons b bs c=>intro x;simp[Bs.inj,c]
theorem Vw{t:TypeId}(h:Yc P t=some ty):∃i,P.info? t=some i/\∀x:ty.den,(ty.cells x).length=i.size /\
  ((Lw (P.underlying t)=some true/\ty.inj x = .agg (ty.cells x).toArray)\/(Lw (P.underlying t)=some false/\ty.cells x=[ty.inj x])):=by
 unfold Yc at h;split at h
 .rename_i i hi
  refine⟨i,hi,?_⟩;split at h
  .rename_i cs b c
   cases hb:Nat.beq cs.toList.length i.size
   .simp only[hb,cond_false]at h;cases h
   .simp only[hb,cond_true]at h
    obtain rfl:=dU h;intro x;refine⟨?_, .inl ⟨b,rfl⟩⟩;rw[<-fN.1 hb];exact(DO _ _).trans (by simp)
  .rename_i v b c
   cases hb:Nat.beq i.size 1
   .simp only[hb,cond_false]at h;cases h
   .simp only[hb,cond_true]at h
    obtain rfl:=dU h;intro x;exact⟨(fN.1 hb).symm, .inr ⟨b,rfl⟩⟩
  .cases h
 .cases h
theorem Hz{w:World}{t:TypeId}(ht:Yc P t=some ty){x:ty.den}(h:Cells w.heap a (ty.cells x)) :
  (loadVar t a).run P w = .ok (ty.inj x) w:=by
 obtain⟨i,hi,d⟩:=Vw ht;obtain⟨c,⟨b,he⟩|⟨b,he⟩⟩:=d x
 .have:=AQ (P:=P) h
  rw[c]at this;simp only[loadVar,Sem.run_bind,Dz b,Result.andThen_ok,if_true,gT hi,this,Sem.run_pure,he]
 .rw[he]at h
  have h0:=h.1;simp only[Addr.add,if_true]at h0;simp only[loadVar,Sem.run_bind,Dz b,Result.andThen_ok,gW,if_false,N7 h0]
def W(h:aG):World:={(default:World)with heap:=h}
theorem Io{u:Value}(ha:cell h a=some u):cell (setCell h a v) a=some v:=
 World.cell?_setCell_same (W h) a v ha
theorem Hm{b:Addr}(DN:a≠b):cell (setCell h a v) b=cell h b:=
 World.cell?_setCell_other (W h) a b v DN
theorem Ip{b:Addr}{u:Value}(hb:cell h b=some u):∃c,cell (setCell h a v) b=some c:=by
 by_cases e:a=b
 .subst e;exact⟨v,Io hb⟩
 .exact⟨u,by rw[Hm e];exact hb⟩
theorem Tb{b:Addr}:IX (setCell h a v) b=IX h b:=
 World.frozen?_setCell (W h) a b v
theorem Ox{b:Addr}:∀{vs:List Value} {i:Nat},nL h a i vs->nL (setCell h b v) a i vs:=by
 intro vs
 induction vs with
 |nil=>intro i h;trivial
 |cons u vs g=>
  intro i hw;obtain⟨⟨⟨j,c⟩,d,e⟩,f⟩:=hw;exact⟨⟨Ip c,by rw[Tb];exact d,e⟩,g f⟩
theorem AT:∀{vs:List Value} {i:Nat} {w:World},nL w.heap a i vs ->
  (storeCells a vs i).run P w = .ok () (wh w (oC w.heap a i vs)):=by
 intro vs
 induction vs with
 |nil=>intro i w h;simp[storeCells,oC,WH]
 |cons v vs k=>
  intro i w h;obtain⟨⟨⟨u,d⟩,e,f⟩,g⟩:=h;have b:w.cell? (a.add i)=some u:=d;have c:w.frozen? (a.add i)=false:=e;have j:(store (a.add i) v).run P w = .ok () (w.setCell (a.add i) v):=by
   rw[run_store P w _ v .plain (by rw[<-Qy];exact f)];simp[b,c]
  simp only[storeCells,Sem.run_bind,j,Result.andThen_ok];rw[k (w:=w.setCell (a.add i) v) (Ox g)];rfl
theorem Ub{w:World}{t:TypeId}{c:Bool}(ht:cellsOf P t v=some (c,vs))(d:c=true)(h:MG w.heap a vs) :
  (storeVar t a v).run P w = .ok () (wh w (nY w.heap a vs)):=by
 obtain⟨i,hi,b,e⟩:=Cr ht d;have:(v.cells.size≠i.size)=False:=by simp[b,e]
 simp only[storeVar,Sem.run_bind,gT hi,Result.andThen_ok,this,if_false];simp only[b];exact AT h
theorem PI{w:World}{t:TypeId}(b:v.cells=vs.toArray) :
  (newVar t v).run P w = .ok ⟨w.heap.size,0,none⟩ (wh w (w.heap.push (.cells vs.toArray t))):=by
 simp[newVar,newRow,b,wh]
theorem Gh{w:World}{p:Option Addr}{n m c size:Nat}(h:xM w.heap p (n*size) vs) :
  (Builtin.firstCells size n (.slice p m c)).run P w = .ok vs.toArray w:=by
 cases p with
 |none=>simp only[xM]at h;subst h;rfl
 |some a=>
  obtain⟨d,b⟩:=h;have:=AQ (P:=P) b;rw[d]at this;exact this
end
end
end Go.Sw
