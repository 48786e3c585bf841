
/- Steps. -/
import Derived.Test.YtncolficnfcdcaaGreatSwS5
set_option linter.unusedVariables false
set_option linter.unusedSimpArgs false
namespace Go.Sw
section
variable{P:Program}{w:World}
variable{l:fW}{i since:Nat}
theorem Bl{t:TypeId}(h:rM P t=true):∃k e,P.underlying t=some (.map k e)/\P.underlying k=some (.int .i64)/\∀w:World,(zeroValue e).run P w = .ok (.int .i64 0) w:=by
 unfold rM at h;split at h
 .rename_i k e hu
  split at h
  .rename_i i a he
   split at h
   .rename_i z b
    have:z=0:=Int.natAbs_eq_zero.1 (fN.1 h);subst this;exact⟨k,e,hu,a,λw=>by simp[zeroValue,zV he,b]⟩
   .cases h
  .cases h
 .cases h
theorem rQ{r:Nat}{o:Obj}(h:w.heap[r]?=some o)(d:∀a b c,o ≠ .cells a b c):(getObj r).run P w = .ok o w:=by
 unfold getObj;cases o<;>first|exact absurd rfl (d _ _ _)|simp[Sem.run,h]
theorem HO{r:Nat}{o:Obj}(o':Obj)(h:w.heap[r]?=some o)(d:∀a b c,o ≠ .cells a b c):(setObj r o').run P w = .ok () (wh w (w.heap.setIfInBounds r o')):=by
 unfold setObj;cases o<;>first|exact absurd rfl (d _ _ _)|simp[Sem.run,h,wh]
theorem Cg{c:Nat}:∀a b d,lP l c ≠ .cells a b d:=by intro a b d h;cases h
def EN(k:Int):fW->Nat->Option (Nat×Value)
 |[],_=>none
 |e::l,i=>if e.1=k then some (i, .int .i64 e.2.1) else EN k l (i+1)
theorem UX(k:Int):∀(l:fW) (i:Nat),Instr.findNow (.int .i64) (.int .i64 k) (l.map Bj) i=some (EN k l i):=by
 intro l
 induction l with
 |nil=>intro i;rfl
 |cons e l a=>
  intro i;simp only[fS,Instr.findNow,Bj,Instr.sameNow,if_true];by_cases he:e.1=k
  .have:(k == e.1)=true:=by simp[he]
   simp[this,EN,he]
  .have:(k == e.1)=false:=by simp[Ne.symm he]
   simp only[this,EN,he,if_false];exact a _
theorem PF(k:Int):∀(l:fW) (i:Nat),(EN k l i).map (·.2)=(jN k l).map (Value.int .i64):=by
 intro l
 induction l with
 |nil=>intro i;rfl
 |cons e l a=>intro i;simp only[EN,jN];split<;>simp_all
theorem Ni{t:TypeId}(a:P.underlying t=some (.int .i64))(k:Int)(l:fW):(Instr.findKey t (.int .i64 k) (l.map Bj)).run P w = .ok (EN k l 0) w:=by
 simp[Instr.findKey,cG a,UX]
theorem E4{t:TypeId}(a:P.underlying t=some (.int .i64))(b:Bool)(n:Nat)(k:Int):(Instr.checkKey b (n+1) t (.int .i64 k)).run P w = .ok () w:=by
 simp[Instr.checkKey,cG a]
theorem run_makeMap(t:TypeId):(Instr.makeMap t none).run P w = .ok (.map (some w.heap.size)) (wh w (w.heap.push (lP [] 0))):=by
 simp[Instr.makeMap,newObj,Sem.run,wh,lP]
theorem Vk{t:TypeId}(ht:rM P t=true){r:Option Nat}(h:VI w.heap r l)(k:Int)(ok:Bool) :
  (Instr.lookup t (.map r) (.int .i64 k) ok).run P w = .ok (bif ok then .tuple #[.int .i64 ((jN k l).getD 0), .bool (jN k l).isSome] else .int .i64 ((jN k l).getD 0)) w:=by
 obtain⟨x,et,hu,f,o⟩:=Bl ht;have a:=Ni (w:=w) f k l;have hm:=PF k l 0;have g:(jN k l=none/\EN k l 0=none)\/∃i u,jN k l=some u/\EN k l 0=some (i, .int .i64 u):=by
  cases j:EN k l 0 with
  |none=>
   rw[j]at hm;exact .inl ⟨by cases b:jN k l<;>simp[b]at hm⊢, rfl⟩
  |some p=>
   rw[j]at hm;obtain⟨i,v⟩:=p;cases b:jN k l with
   |none=>simp[b]at hm
   |some u=>simp[b]at hm;subst hm;exact .inr ⟨i,u,rfl,rfl⟩
 cases r with
 |none=>
  have s:l=[]:=h;subst s;simp only[Instr.lookup,Sem.run_bind,cG hu,Result.andThen_ok,Sem.run_pure,E4 (n:=9999) f];have a:(Instr.findKey x (.int .i64 k) #[].toList).run P w = .ok (EN k [] 0) w:=a;simp only[a,Result.andThen_ok];cases ok<;>simp[EN,jN,o]
 |some m=>
  obtain⟨c,q⟩:=h;simp only[Instr.lookup,Sem.run_bind,cG hu,Result.andThen_ok,Sem.run_pure,rQ q Cg,lP,E4 (n:=9999) f,a];rcases g with⟨d,e⟩|⟨i,u,d,e⟩
  .cases ok<;>simp[d,e,o]
  .cases ok<;>simp[d,e]
theorem ja(k v:Int):∀(l:fW) (i j:Nat) (u:Value),EN k l j=some (i+j,u)->(l.map Bj).modify i (λe=>{e with key:=.int .i64 k,val:=.int .i64 v})=(FK k v l).map Bj/\((l.map Bj)[i]?).map (·.key)=some (.int .i64 k):=by
 intro l
 induction l with
 |nil=>intro i j u h;cases h
 |cons e l a=>
  intro i j u h;simp only[EN]at h;by_cases he:e.1=k
  .simp only[he,if_true,gO,oU]at h
   have:i=0:=by omega
   subst this;simp[FK,he,Bj]
  .simp only[he,if_false]at h
   have hle:∀(l:fW) (j n:Nat) (u:Value),EN k l j=some (n,u)->j<=n:=by
    intro l
    induction l with
    |nil=>intro j n u h;cases h
    |cons e l a=>
     intro j n u h;simp only[EN]at h;split at h
     .simp only[gO,oU]at h;omega
     .have:=a _ _ _ h;omega
   have hi:=hle _ _ _ _ h;obtain⟨i,rfl⟩:∃f,i=f+1:=⟨i-1,by omega⟩;have b:EN k l (j+1)=some (i+(j+1),u):=by rw[h];congr 2;omega
   obtain⟨c,d⟩:=a _ _ _ b;exact⟨by simp[FK,he,c],by simpa using d⟩
theorem Pe{t:TypeId}(ht:rM P t=true){m:Nat}{c:Nat}(hm:w.heap[m]?=some (lP l c))(k v:Int) :
  (Instr.mapUpdate t (.map (some m)) (.int .i64 k) (.int .i64 v)).run P w = .ok () (wh w (w.heap.setIfInBounds m (Je k v l c))):=by
 obtain⟨r,et,hu,f,q⟩:=Bl ht;have o:=Ni (w:=w) f k l;have d:=PF k l 0;simp only[Instr.mapUpdate,Sem.run_bind,cG hu,Result.andThen_ok,rQ hm Cg];simp only[lP,Sem.run_bind,E4 (n:=9999) f,Result.andThen_ok,o];cases hi:EN k l 0 with
 |none=>
  rw[hi]at d;have:jN k l=none:=by cases a:jN k l<;>simp[a]at d⊢
  simp only[HO _ hm Cg,Je,this];simp[lP,Bj]
 |some p=>
  obtain⟨i,u⟩:=p;rw[hi]at d;obtain⟨h,j⟩:=ja k v l i 0 u hi;have b:∃y,jN k l=some y:=by cases a:jN k l with
   |none=>simp[a]at d
   |some y=>exact⟨y,rfl⟩
  obtain⟨y,a⟩:=b;have e:(((l.map Bj).toArray[i]?).map (·.key)).getD (.int .i64 k) = .int .i64 k:=by
   have:((l.map Bj).toArray[i]?)=(l.map Bj)[i]? := by simp
   rw[this,j];rfl
  have g:(Instr.keyThatStays (.int .i64 k) (.int .i64 k)).run P w = .ok (.int .i64 k) w:=by simp[Instr.keyThatStays,Instr.sameBits]
  simp only[Sem.run_bind,e,g,Result.andThen_ok,HO _ hm Cg];simp only[Je,a]
  congr 3
  unfold lP
  congr 1
  apply yG.1;simpa using h
theorem XU{t:TypeId}(ht:rM P t=true){m:Nat}{c:Nat}(hm:w.heap[m]?=some (lP l c)) :
  (Instr.range t (.map (some m))).run P w = .ok (.pointer (some ⟨w.heap.size,0,none⟩)) (wh w (w.heap.push (.mapIter (some m) c #[] c))):=by
 obtain⟨d,et,hu,a,b⟩:=Bl ht;simp only[Instr.range,Sem.run_bind,cG hu,Result.andThen_ok,rQ hm Cg];simp[lP,newObj,Sem.run,wh]
theorem jf{ts:Array TypeId}(a:mapArg P ts.toList=true){r:Option Nat}(b:VI w.heap r l)(ty:TypeId) :
  (Builtin.len_ ts ty #[.map r]).run P w = .ok (.int .i64 (l.length:Int)) w:=by
 obtain⟨ts⟩:=ts;cases ts with
 |nil=>cases a
 |cons t ts=>
  simp only[mapArg]at a;split at a
  .rename_i k e hu
   cases r with
   |none=>
    have f:l=[]:=b;subst f;simp[Builtin.len_,cG hu,goInt]
   |some m=>
    obtain⟨c,d⟩:=b;simp only[Builtin.len_];simp[cG hu,rQ d Cg,lP,goInt]
  .cases a
theorem run_choose(n:Nat)(c:0<n):∃i a,(choose (.mapNext n)).run P w = .ok i a/\i<n/\Env w a/\a.heap=w.heap:=by
 unfold choose;simp only[Sem.run];by_cases b:(Question.mapNext n).forced=true
 .exact⟨0,w,by simp[b],c,Env.refl w,rfl⟩
 .refine⟨_,{w with drawn:=w.drawn+1},by simp only[b];rfl,?_,⟨rfl,rfl,rfl⟩,rfl⟩
  exact Nat.mod_lt _ c
theorem aq{m:Nat}{seen:Array Nat}{last:Nat}{c:Nat}(hi:w.heap[i]?=some (.mapIter (some m) since seen last))(hm:w.heap[m]?=some (lP l c))
  (hu:seen = #[]\/l=[]\/∃e∈l,e.2.2<last) (ty:TypeId) :
  (∃e∈l,seen.contains e.2.2=false/\∃k,(Instr.next (.pointer (some ⟨i,0,none⟩)) false ty).run P w = .ok (.tuple #[.bool true, .int .i64 e.1, .int .i64 e.2.1]) k/\Env w k /\
   k.heap=w.heap.setIfInBounds i (.mapIter (some m) since (seen.push e.2.2) c)) \/
  ((∀e∈l,seen.contains e.2.2=false->since<=e.2.2)/\∃k,(Instr.next (.pointer (some ⟨i,0,none⟩)) false ty).run P w = .ok (.tuple #[.bool false]) k/\Env w k/\k.heap=w.heap):=by
 have v:∀a b d,Obj.mapIter (some m) since seen last ≠ .cells a b d:=by intro a b d h;cases h
 let es:=(l.map Bj).toArray
 let left:=es.filter λe=>!seen.contains e.born
 let old:=left.filter (·.born<since)
 let new:=left.filter (·.born≥since)
 let f:=(if old.isEmpty then #[none] else #[])++(old++new).map some
 have o:(!seen.isEmpty && !es.isEmpty && es.all (·.born≥last))=false:=by
  rcases hu with rfl|rfl|⟨e,he,r⟩
  .simp
  .simp[es]
  .have:es.all (·.born≥last)=false:=by
    rw[<-RE,RF];intro h;have:=h (Bj e) (by simp only[es,RG];exact rT he);simp only[Bj,ge_iff_le,decide_eq_true_eq]at this;omega
   simp[this]
 have z:0<f.size:=by
  simp only[f];by_cases j:old.isEmpty=true
  .simp[j];omega
  .have:0<old.size:=by
    rw[Array.isEmpty_iff]at j;exact Array.size_pos_iff.2 j
   simp[j];omega
 obtain⟨n,w1,B,E,q,y⟩:=run_choose (P:=P) (w:=w) f.size z;obtain ⟨z0,s⟩:∃z0:String,(Instr.next (.pointer (some ⟨i,0,none⟩)) false ty).run P w=(match f[n]? with
   |some (some e)=>do setObj i (.mapIter (some m) since (seen.push e.born) c);pure (.tuple #[.bool true,e.key,e.val])
   |some none=>pure (.tuple #[.bool false])
   |none=>stuck z0 : Sem Value).run P w1:=by
  apply Exists.intro
  simp only[Instr.next,Sem.run_bind,rQ hi v,Result.andThen_ok,rQ hm Cg];simp only[lP];simp only[es]at o;simp only[o,gW,if_false,Sem.run_bind,Sem.run_pure,Result.andThen_ok];simp only[f,old,new,left,es]at B;rw[B];simp only[Result.andThen_ok];rfl
 have C:f[n]?=some f[n]:=RH E;rw[s,C];have g:f[n]∈f:=Array.getElem_mem E;cases u:f[n] with
 |none=>
  right;rw[u]at g;have hold:old.isEmpty=true:=by
   by_cases j:old.isEmpty=true
   .exact j
   .simp[f,j]at g
  refine⟨λe he G=>?_,w1,rfl,q,y⟩;by_cases r:since<=e.2.2
  .exact r
  .exfalso
   have p:Bj e∈old:=by
    simp only[old,left,es,Md,RG];exact⟨⟨rT he,by simp only[Bj,G,Bool.not_false]⟩,decide_eq_true (Nat.lt_of_not_le r)⟩
   rw[Array.isEmpty_iff]at hold;rw[hold]at p;simp at p
 |some e=>
  left;rw[u]at g;have p:e∈old\/e∈new:=by
   by_cases j:old.isEmpty=true
   .simp only[f,j,if_true,Array.mem_append,Array.mem_map,gO,exists_eq_right]at g
    rcases g with h|h
    .simp at h
    .exact h
   .simp only[f,j,if_false,Array.mem_append,Array.mem_map,gO,exists_eq_right]at g
    rcases g with h|h
    .simp at h
    .exact h
  have t:e∈left:=by
   rcases p with h|h
   .exact(Md.1 h).1
   .exact(Md.1 h).1
  obtain⟨A,F⟩:=Md.1 t;simp only[es,RG,dA]at A;obtain⟨x,H,rfl⟩:=A;have D:w1.heap[i]?=some (.mapIter (some m) since seen last):=by rw[y];exact hi
  refine⟨x,H,by simpa[Bj] using F,wh w1 (w1.heap.setIfInBounds i (.mapIter (some m) since (seen.push x.2.2) c)),?_,q.trans (Al _ _),by simp[wh,y]⟩;simp only[Sem.run_bind,Bj,HO _ D v,Result.andThen_ok,Sem.run_pure]
theorem XT{m:Nat}{seen:Array Nat}{f:Nat}{c:Nat}(hi:w.heap[i]?=some (.mapIter (some m) since (seen.push f) c))(hm:w.heap[m]?=some (lP l c))
  {e:Int×Int×Nat} (he:l.find? (λe=>e.2.2 == f)=some e) :
  (Instr.entry (.pointer (some ⟨i,0,none⟩))).run P w = .ok (.tuple #[.int .i64 e.1, .int .i64 e.2.1]) w:=by
 have g:∀a b d,Obj.mapIter (some m) since (seen.push f) c ≠ .cells a b d:=by intro a b d h;cases h
 have j:(l.map Bj).toArray.find? (λx=>x.born == f)=some (Bj e):=by
  rw[List.find?_toArray,List.find?_map];show Option.map Bj (List.find? (λe=>e.2.2 == f) l)=_;rw[he];rfl
 simp only[Instr.entry,Sem.run_bind,rQ hi g,Result.andThen_ok,Array.back?_push,rQ hm Cg,lP];simp[j,Bj]
theorem Oy(z:List Value)(n:Nat):(Builtin.zeroCells z.toArray n).toList=jP z n:=by
 rw[Ea]
theorem XS{ts:List TypeId}{t e:TypeId}{size bytes:Nat}{z:List Value}(he:elemOf P t=some (e,size,bytes,z)){p:Option Addr}{n m:Nat}{K:aG->Prop}(hw:DH z ⟨p,n,m⟩ w.heap K)(ty:TypeId) :
  ∃b,(Builtin.clear_ (t::ts).toArray ty #[.slice p n m]).run P w = .ok (.tuple #[]) b/\Env w b/\K b.heap:=by
 obtain⟨i,hu,hi,k,j,o,g⟩:=sK he;obtain⟨q,f,d⟩:=g w;cases p with
 |none=>exact⟨w,by simp[Builtin.clear_,cG hu],Env.refl w,hw⟩
 |some a=>
  obtain⟨c,h⟩:=hw;refine⟨wh w (nY w.heap a (jP z n)),?_,Al _ _,h⟩;cases n with
  |zero=>simp[Builtin.clear_,cG hu,jP,nY,oC,WH]
  |succ n=>
   have:=AT (P:=P) c;simp only[nY];simp[Builtin.clear_,cG hu,f,d,Oy,this]
end
end Go.Sw
