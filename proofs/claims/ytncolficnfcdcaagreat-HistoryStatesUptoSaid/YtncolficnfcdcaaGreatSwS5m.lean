
/- Steps. -/
import Derived.Test.YtncolficnfcdcaaGreatSwS5
set_option linter.unusedVariables false
set_option linter.unusedSimpArgs false
namespace Go.Sw
section
variable{P:Program}{w:World}
variable{l:fR}{i since:Nat}
theorem AY{t:TypeId}(h:qZ P t=true):∃k e,P.underlying t=some (.map k e)/\P.underlying k=some (.int .i64)/\∀w:World,(zeroValue e).run P w = .ok (.int .i64 0) w:=by
 unfold qZ at h;split at h
 .rename_i k e hu
  split at h
  .rename_i i a he
   split at h
   .rename_i z b
    have:z=0:=Int.natAbs_eq_zero.1 (fH.1 h);subst this;exact⟨k,e,hu,a,λw=>by simp[zeroValue,zD he,b]⟩
   .cases h
  .cases h
 .cases h
theorem rC{r:Nat}{o:Obj}(h:w.heap[r]?=some o)(d:∀a b c,o ≠ .cells a b c):(getObj r).run P w = .ok o w:=by
 unfold getObj;cases o<;>first|exact absurd rfl (d _ _ _)|simp[Sem.run,h]
theorem Hq{r:Nat}{o:Obj}(o':Obj)(h:w.heap[r]?=some o)(d:∀a b c,o ≠ .cells a b c):(setObj r o').run P w = .ok () (wh w (w.heap.setIfInBounds r o')):=by
 unfold setObj;cases o<;>first|exact absurd rfl (d _ _ _)|simp[Sem.run,h,wh]
theorem BZ{c:Nat}:∀a b d,mU l c ≠ .cells a b d:=by intro a b d h;cases h
def Er(k:Int):fR->Nat->Option (Nat×Value)
 |[],_=>none
 |e::l,i=>if e.1=k then some (i, .int .i64 e.2.1) else Er k l (i+1)
theorem Uh(k:Int):∀(l:fR) (i:Nat),Instr.findNow (.int .i64) (.int .i64 k) (l.map AW) i=some (Er k l i):=by
 intro l
 induction l with
 |nil=>intro i;rfl
 |cons e l a=>
  intro i;simp only[fK,Instr.findNow,AW,Instr.sameNow,if_true];by_cases he:e.1=k
  .have:(k == e.1)=true:=by simp[he]
   simp[this,Er,he]
  .have:(k == e.1)=false:=by simp[Ne.symm he]
   simp only[this,Er,he,if_false];exact a _
theorem O2(k:Int):∀(l:fR) (i:Nat),(Er k l i).map (·.2)=(iX k l).map (Value.int .i64):=by
 intro l
 induction l with
 |nil=>intro i;rfl
 |cons e l a=>intro i;simp only[Er,iX];split<;>simp_all
theorem MG{t:TypeId}(a:P.underlying t=some (.int .i64))(k:Int)(l:fR):(Instr.findKey t (.int .i64 k) (l.map AW)).run P w = .ok (Er k l 0) w:=by
 simp[Instr.findKey,cE a,Uh]
theorem EF{t:TypeId}(a:P.underlying t=some (.int .i64))(b:Bool)(n:Nat)(k:Int):(Instr.checkKey b (n+1) t (.int .i64 k)).run P w = .ok () w:=by
 simp[Instr.checkKey,cE a]
theorem run_makeMap(t:TypeId):(Instr.makeMap t none).run P w = .ok (.map (some w.heap.size)) (wh w (w.heap.push (mU [] 0))):=by
 simp[Instr.makeMap,newObj,Sem.run,wh,mU]
theorem UE{t:TypeId}(ht:qZ P t=true){r:Option Nat}(h:U3 w.heap r l)(k:Int)(ok:Bool) :
  (Instr.lookup t (.map r) (.int .i64 k) ok).run P w = .ok (bif ok then .tuple #[.int .i64 ((iX k l).getD 0), .bool (iX k l).isSome] else .int .i64 ((iX k l).getD 0)) w:=by
 obtain⟨x,et,hu,f,o⟩:=AY ht;have a:=MG (w:=w) f k l;have hm:=O2 k l 0;have g:(iX k l=none/\Er k l 0=none)\/∃i u,iX k l=some u/\Er k l 0=some (i, .int .i64 u):=by
  cases j:Er k l 0 with
  |none=>
   rw[j]at hm;exact .inl ⟨by cases b:iX k l<;>simp[b]at hm⊢, rfl⟩
  |some p=>
   rw[j]at hm;obtain⟨i,v⟩:=p;cases b:iX k l with
   |none=>simp[b]at hm
   |some u=>simp[b]at hm;subst hm;exact .inr ⟨i,u,rfl,rfl⟩
 cases r with
 |none=>
  have s:l=[]:=h;subst s;simp only[Instr.lookup,Sem.run_bind,cE hu,Result.andThen_ok,Sem.run_pure,EF (n:=9999) f];have a:(Instr.findKey x (.int .i64 k) #[].toList).run P w = .ok (Er k [] 0) w:=a;simp only[a,Result.andThen_ok];cases ok<;>simp[Er,iX,o]
 |some m=>
  obtain⟨c,q⟩:=h;simp only[Instr.lookup,Sem.run_bind,cE hu,Result.andThen_ok,Sem.run_pure,rC q BZ,mU,EF (n:=9999) f,a];rcases g with⟨d,e⟩|⟨i,u,d,e⟩
  .cases ok<;>simp[d,e,o]
  .cases ok<;>simp[d,e]
theorem dy(k v:Int):∀(l:fR) (i j:Nat) (u:Value),Er k l j=some (i+j,u)->(l.map AW).modify i (λe=>{e with key:=.int .i64 k,val:=.int .i64 v})=(Fp k v l).map AW/\((l.map AW)[i]?).map (·.key)=some (.int .i64 k):=by
 intro l
 induction l with
 |nil=>intro i j u h;cases h
 |cons e l a=>
  intro i j u h;simp only[Er]at h;by_cases he:e.1=k
  .simp only[he,if_true,fW,oL]at h
   have:i=0:=by omega
   subst this;simp[Fp,he,AW]
  .simp only[he,if_false]at h
   have hle:∀(l:fR) (j n:Nat) (u:Value),Er k l j=some (n,u)->j<=n:=by
    intro l
    induction l with
    |nil=>intro j n u h;cases h
    |cons e l a=>
     intro j n u h;simp only[Er]at h;split at h
     .simp only[fW,oL]at h;omega
     .have:=a _ _ _ h;omega
   have hi:=hle _ _ _ _ h;obtain⟨i,rfl⟩:∃f,i=f+1:=⟨i-1,by omega⟩;have b:Er k l (j+1)=some (i+(j+1),u):=by rw[h];congr 2;omega
   obtain⟨c,d⟩:=a _ _ _ b;exact⟨by simp[Fp,he,c],by simpa using d⟩
theorem OE{t:TypeId}(ht:qZ P t=true){m:Nat}{c:Nat}(hm:w.heap[m]?=some (mU l c))(k v:Int) :
  (Instr.mapUpdate t (.map (some m)) (.int .i64 k) (.int .i64 v)).run P w = .ok () (wh w (w.heap.setIfInBounds m (IM k v l c))):=by
 obtain⟨r,et,hu,f,q⟩:=AY ht;have o:=MG (w:=w) f k l;have d:=O2 k l 0;simp only[Instr.mapUpdate,Sem.run_bind,cE hu,Result.andThen_ok,rC hm BZ];simp only[mU,Sem.run_bind,EF (n:=9999) f,Result.andThen_ok,o];cases hi:Er k l 0 with
 |none=>
  rw[hi]at d;have:iX k l=none:=by cases a:iX k l<;>simp[a]at d⊢
  simp only[Hq _ hm BZ,IM,this];simp[mU,AW]
 |some p=>
  obtain⟨i,u⟩:=p;rw[hi]at d;obtain⟨h,j⟩:=dy k v l i 0 u hi;have b:∃y,iX k l=some y:=by cases a:iX k l with
   |none=>simp[a]at d
   |some y=>exact⟨y,rfl⟩
  obtain⟨y,a⟩:=b;have e:(((l.map AW).toArray[i]?).map (·.key)).getD (.int .i64 k) = .int .i64 k:=by
   have:((l.map AW).toArray[i]?)=(l.map AW)[i]? := by simp
   rw[this,j];rfl
  have g:(Instr.keyThatStays (.int .i64 k) (.int .i64 k)).run P w = .ok (.int .i64 k) w:=by simp[Instr.keyThatStays,Instr.sameBits]
  simp only[Sem.run_bind,e,g,Result.andThen_ok,Hq _ hm BZ];simp only[IM,a]
  congr 3
  unfold mU
  congr 1
  apply xR.1;simpa using h
theorem W9{t:TypeId}(ht:qZ P t=true){m:Nat}{c:Nat}(hm:w.heap[m]?=some (mU l c)) :
  (Instr.range t (.map (some m))).run P w = .ok (.pointer (some ⟨w.heap.size,0,none⟩)) (wh w (w.heap.push (.mapIter (some m) c #[] c))):=by
 obtain⟨d,et,hu,a,b⟩:=AY ht;simp only[Instr.range,Sem.run_bind,cE hu,Result.andThen_ok,rC hm BZ];simp[mU,newObj,Sem.run,wh]
theorem ej{ts:Array TypeId}(a:mapArg P ts.toList=true){r:Option Nat}(b:U3 w.heap r l)(ty:TypeId) :
  (Builtin.len_ ts ty #[.map r]).run P w = .ok (.int .i64 (l.length:Int)) w:=by
 obtain⟨ts⟩:=ts;cases ts with
 |nil=>cases a
 |cons t ts=>
  simp only[mapArg]at a;split at a
  .rename_i k e hu
   cases r with
   |none=>
    have f:l=[]:=b;subst f;simp[Builtin.len_,cE hu,goInt]
   |some m=>
    obtain⟨c,d⟩:=b;simp only[Builtin.len_];simp[cE hu,rC d BZ,mU,goInt]
  .cases a
theorem run_choose(n:Nat)(c:0<n):∃i a,(choose (.mapNext n)).run P w = .ok i a/\i<n/\Env w a/\a.heap=w.heap:=by
 unfold choose;simp only[Sem.run];by_cases b:(Question.mapNext n).forced=true
 .exact⟨0,w,by simp[b],c,Env.refl w,rfl⟩
 .refine⟨_,{w with drawn:=w.drawn+1},by simp only[b];rfl,?_,⟨rfl,rfl,rfl⟩,rfl⟩
  exact Nat.mod_lt _ c
theorem Zp{m:Nat}{seen:Array Nat}{last:Nat}{c:Nat}(hi:w.heap[i]?=some (.mapIter (some m) since seen last))(hm:w.heap[m]?=some (mU l c))
  (hu:seen = #[]\/l=[]\/∃e∈l,e.2.2<last) (ty:TypeId) :
  (∃e∈l,seen.contains e.2.2=false/\∃k,(Instr.next (.pointer (some ⟨i,0,none⟩)) false ty).run P w = .ok (.tuple #[.bool true, .int .i64 e.1, .int .i64 e.2.1]) k/\Env w k /\
   k.heap=w.heap.setIfInBounds i (.mapIter (some m) since (seen.push e.2.2) c)) \/
  ((∀e∈l,seen.contains e.2.2=false->since<=e.2.2)/\∃k,(Instr.next (.pointer (some ⟨i,0,none⟩)) false ty).run P w = .ok (.tuple #[.bool false]) k/\Env w k/\k.heap=w.heap):=by
 have v:∀a b d,Obj.mapIter (some m) since seen last ≠ .cells a b d:=by intro a b d h;cases h
 let es:=(l.map AW).toArray
 let left:=es.filter λe=>!seen.contains e.born
 let old:=left.filter (·.born<since)
 let new:=left.filter (·.born≥since)
 let f:=(if old.isEmpty then #[none] else #[])++(old++new).map some
 have o:(!seen.isEmpty && !es.isEmpty && es.all (·.born≥last))=false:=by
  rcases hu with rfl|rfl|⟨e,he,r⟩
  .simp
  .simp[es]
  .have:es.all (·.born≥last)=false:=by
    rw[<-Bool.not_eq_true,Q5];intro h;have:=h (AW e) (by simp only[es,Q6];exact wF he);simp only[AW,ge_iff_le,decide_eq_true_eq]at this;omega
   simp[this]
 have z:0<f.size:=by
  simp only[f];by_cases j:old.isEmpty=true
  .simp[j];omega
  .have:0<old.size:=by
    rw[Array.isEmpty_iff]at j;exact Array.size_pos_iff.2 j
   simp[j];omega
 obtain⟨n,w1,B,E,q,y⟩:=run_choose (P:=P) (w:=w) f.size z;obtain ⟨z0,s⟩:∃z0:String,(Instr.next (.pointer (some ⟨i,0,none⟩)) false ty).run P w=(match f[n]? with
   |some (some e)=>do setObj i (.mapIter (some m) since (seen.push e.born) c);pure (.tuple #[.bool true,e.key,e.val])
   |some none=>pure (.tuple #[.bool false])
   |none=>stuck z0 : Sem Value).run P w1:=by
  apply Exists.intro
  simp only[Instr.next,Sem.run_bind,rC hi v,Result.andThen_ok,rC hm BZ];simp only[mU];simp only[es]at o;simp only[o,gE,if_false,Sem.run_bind,Sem.run_pure,Result.andThen_ok];simp only[f,old,new,left,es]at B;rw[B];simp only[Result.andThen_ok];rfl
 have C:f[n]?=some f[n]:=Q7 E;rw[s,C];have g:f[n]∈f:=Array.getElem_mem E;cases u:f[n] with
 |none=>
  right;rw[u]at g;have hold:old.isEmpty=true:=by
   by_cases j:old.isEmpty=true
   .exact j
   .simp[f,j]at g
  refine⟨λe he G=>?_,w1,rfl,q,y⟩;by_cases r:since<=e.2.2
  .exact r
  .exfalso
   have p:AW e∈old:=by
    simp only[old,left,es,LJ,Q6];exact⟨⟨wF he,by simp only[AW,G,Bool.not_false]⟩,decide_eq_true (Nat.lt_of_not_le r)⟩
   rw[Array.isEmpty_iff]at hold;rw[hold]at p;simp at p
 |some e=>
  left;rw[u]at g;have p:e∈old\/e∈new:=by
   by_cases j:old.isEmpty=true
   .simp only[f,j,if_true,Array.mem_append,Array.mem_map,fW,exists_eq_right]at g
    rcases g with h|h
    .simp at h
    .exact h
   .simp only[f,j,if_false,Array.mem_append,Array.mem_map,fW,exists_eq_right]at g
    rcases g with h|h
    .simp at h
    .exact h
  have t:e∈left:=by
   rcases p with h|h
   .exact(LJ.1 h).1
   .exact(LJ.1 h).1
  obtain⟨A,F⟩:=LJ.1 t;simp only[es,Q6,dC]at A;obtain⟨x,H,rfl⟩:=A;have D:w1.heap[i]?=some (.mapIter (some m) since seen last):=by rw[y];exact hi
  refine⟨x,H,by simpa[AW] using F,wh w1 (w1.heap.setIfInBounds i (.mapIter (some m) since (seen.push x.2.2) c)),?_,q.trans (zW _ _),by simp[wh,y]⟩;simp only[Sem.run_bind,AW,Hq _ D v,Result.andThen_ok,Sem.run_pure]
theorem W8{m:Nat}{seen:Array Nat}{f:Nat}{c:Nat}(hi:w.heap[i]?=some (.mapIter (some m) since (seen.push f) c))(hm:w.heap[m]?=some (mU l c))
  {e:Int×Int×Nat} (he:l.find? (λe=>e.2.2 == f)=some e) :
  (Instr.entry (.pointer (some ⟨i,0,none⟩))).run P w = .ok (.tuple #[.int .i64 e.1, .int .i64 e.2.1]) w:=by
 have g:∀a b d,Obj.mapIter (some m) since (seen.push f) c ≠ .cells a b d:=by intro a b d h;cases h
 have j:(l.map AW).toArray.find? (λx=>x.born == f)=some (AW e):=by
  rw[List.find?_toArray,List.find?_map];show Option.map AW (List.find? (λe=>e.2.2 == f) l)=_;rw[he];rfl
 simp only[Instr.entry,Sem.run_bind,rC hi g,Result.andThen_ok,Array.back?_push,rC hm BZ,mU];simp[j,AW]
theorem NW(z:List Value)(n:Nat):(Builtin.zeroCells z.toArray n).toList=kW z n:=by
 rw[DK]
theorem W7{ts:List TypeId}{t e:TypeId}{size bytes:Nat}{z:List Value}(he:elemOf P t=some (e,size,bytes,z)){p:Option Addr}{n m:Nat}{K:aE->Prop}(hw:Dm z ⟨p,n,m⟩ w.heap K)(ty:TypeId) :
  ∃b,(Builtin.clear_ (t::ts).toArray ty #[.slice p n m]).run P w = .ok (.tuple #[]) b/\Env w b/\K b.heap:=by
 obtain⟨i,hu,hi,k,j,o,g⟩:=rT he;obtain⟨q,f,d⟩:=g w;cases p with
 |none=>exact⟨w,by simp[Builtin.clear_,cE hu],Env.refl w,hw⟩
 |some a=>
  obtain⟨c,h⟩:=hw;refine⟨wh w (nO w.heap a (kW z n)),?_,zW _ _,h⟩;cases n with
  |zero=>simp[Builtin.clear_,cE hu,kW,nO,nR,VY]
  |succ n=>
   have:=AA (P:=P) c;simp only[nO];simp[Builtin.clear_,cE hu,f,d,NW,this]
end
end Go.Sw
