/-
  Arguments of any shape (numbers, truths, lists, structs, arrays, one within another), opened.
-/
import Derived.Test.YtncolficnfcdcaaGreatSwZ3
import Derived.OpenShut
set_option linter.unusedVariables false
set_option linter.unusedSimpArgs false
namespace Go.Sw
open Go.ChangeShapes Go.WideShapes Go.ChangeAt Go.RowKit Go.WideElems
inductive Sh where
 | int (k:IntKind)
 | bool
 | list (e:Sh)
 | unit
 | pair (a b:Sh)
 | str (s:Sh)
 | arr (s:Sh)
@[reducible] def Sh.den:Sh→Type
 | .int _=>Int
 | .bool=>Bool
 | .list e=>Sl×List e.den
 | .unit=>Unit
 | .pair a b=>a.den×b.den
 | .str s=>s.den
 | .arr s=>s.den
def Sh.size:Sh→Nat
 | .int _=>1
 | .bool=>1
 | .list _=>1
 | .unit=>0
 | .pair a b=>a.size+b.size
 | .str s=>s.size
 | .arr s=>s.size
def Sh.cells:(s:Sh)→s.den→List Value
 | .int k,n=>[.int k n]
 | .bool,b=>[.bool b]
 | .list _,x=>[.slice x.1.base x.1.len x.1.cap]
 | .unit,_=>[]
 | .pair a b,x=>a.cells x.1++b.cells x.2
 | .str s,x=>s.cells x
 | .arr s,x=>s.cells x
def Sh.ok (h:Heap):(s:Sh)→s.den→Prop
 | .int k,n=>fitsI k n
 | .bool,_=>True
 | .list e,x=>x.1.len=x.2.length∧x.1.len≤x.1.cap∧x.1.cap<2 ^ 63∧∀ (i:Nat) (y:e.den),x.2[i]? = some y→∃ a,x.1.base=some a∧Cells h (a.add (i*e.size)) (e.cells y)∧e.ok h y
 | .unit,_=>True
 | .pair a b,x=>a.ok h x.1∧b.ok h x.2
 | .str s,x=>s.ok h x
 | .arr s,x=>s.ok h x
theorem Sh.ok.ext {h h':Heap} (e:Ext h h'):∀ {s:Sh} {x:s.den},s.ok h x→s.ok h' x
 | .int _,_,k=>k
 | .bool,_,k=>k
 | .list _,_,k=>⟨k.1,k.2.1,k.2.2.1,fun i y hi=>let ⟨a,h1,h2,h3⟩:=k.2.2.2 i y hi; ⟨a,h1,e.cells h2,Sh.ok.ext e h3⟩⟩
 | .unit,_,k=>k
 | .pair _ _,_,k=>⟨Sh.ok.ext e k.1,Sh.ok.ext e k.2⟩
 | .str s,_,k=>Sh.ok.ext (s:=s) e k
 | .arr s,_,k=>Sh.ok.ext (s:=s) e k
def Sh.wt:(s:Sh)→s.den→Nat
 | .int _,_=>1
 | .bool,_=>1
 | .list e,x=>(x.2.map e.wt).sum+1
 | .unit,_=>0
 | .pair a b,x=>a.wt x.1+b.wt x.2
 | .str s,x=>s.wt x+1
 | .arr s,x=>s.wt x+1
mutual
def Sh.is (P:Program):Sh→TypeId→Bool
 | .int k,t=>(match P.underlying t with | some (.int k')=>decide (k'=k) | _=>false) && Nat.beq (P.cellsOf t) 1
 | .bool,t=>(match P.underlying t with | some .bool=>true | _=>false) && Nat.beq (P.cellsOf t) 1
 | .list e,t=>(match P.underlying t with | some (.slice te)=>e.is P te && Nat.beq (P.cellsOf te) e.size | _=>false) && Nat.beq (P.cellsOf t) 1
 | .str s,t=>(match P.underlying t with | some (.struct fs)=>s.fis P fs.toList 0 | _=>false) && Nat.beq (P.cellsOf t) s.size
 | .arr s,t=>(match P.underlying t with | some (.array n te)=>s.ais P te n | _=>false) && Nat.beq (P.cellsOf t) s.size
 | _,_=>false
def Sh.fis (P:Program):Sh→List Field→Nat→Bool
 | .unit,[],_=>true
 | .pair a b,f::fs,o=>Nat.beq f.offset o && a.is P f.type && Nat.beq (P.cellsOf f.type) a.size && b.fis P fs (o+a.size)
 | _,_,_=>false
def Sh.ais (P:Program):Sh→TypeId→Nat→Bool
 | .unit,_,0=>true
 | .pair a b,t,n+1=>a.is P t && Nat.beq (P.cellsOf t) a.size && b.ais P t n
 | _,_,_=>false
end
variable {H:Type} {enc:TypeId×Value→H} {P:Program}
structure BulkOk (b:DataW H→Nat) (ba:List (DataW H)→Nat):Prop where
 lit:∀ k n,1≤b (.lit (.int k n))
 litB:∀ x,1≤b (.lit (.bool x))
 nil:1≤b .nil
 sl:∀ e s,ba e+1≤b (.slice e s)
 agg:∀ l,ba l+1≤b (.agg l)
 cons:∀ d r,b d+ba r≤ba (d::r)
theorem bulk_sum {b:DataW H→Nat} {ba:List (DataW H)→Nat} (B:BulkOk b ba) {α:Type} (f:α→Nat):∀ (l:List α) (D:Nat→DataW H) (j:Nat),(∀ (i:Nat) (y:α),l[i]? = some y→f y≤b (D (j+i)))→(l.map f).sum≤ba ((List.range' j l.length).map D):=by
 intro l
 induction l with
 | nil=>intro D j _; simp
 | cons x l ih=>
  intro D j h
  have h0:=h 0 x rfl
  have:=ih D (j+1) fun i y hi=>by have:=h (i+1) y (by simpa using hi); rwa [show j+1+i=j+(i+1) by omega]
  rw [List.length_cons,List.range'_succ,List.map_cons,List.map_cons,List.sum_cons]
  have:=B.cons (D j) ((List.range' (j+1) l.length).map D)
  rw [Nat.add_zero] at h0
  omega
theorem open_sh {W:World} {b:DataW H→Nat} {ba:List (DataW H)→Nat} (B:BulkOk b ba):∀ (s:Sh),
  (∀ (t:TypeId) (fuel:Nat) (cs:List Value) (x:DataW H×List MemPlace),s.is P t=true→DataW.trod enc P W 0 (fun _=>true) true fuel t cs=some x→∃ y:s.den,cs=s.cells y∧s.ok W.heap y∧s.wt y≤b x.1) ∧
  (∀ (fs:List Field) (o fuel:Nat) (cs:List Value) (xs:List (DataW H×List MemPlace)),s.fis P fs o=true→xs.length=fs.length→cs.length=o+s.size →
   (∀ (i:Nat) (f:Field),fs[i]? = some f→DataW.trod enc P W 0 (fun _=>true) true fuel f.type ((cs.drop f.offset).take (P.cellsOf f.type))=xs[i]?)→∃ y:s.den,cs.drop o=s.cells y∧s.ok W.heap y∧s.wt y≤ba (xs.map (·.1))) ∧
  (∀ (t:TypeId) (n j fuel:Nat) (cs:List Value) (xs:List (DataW H×List MemPlace)),s.ais P t n=true→xs.length=n→cs.length=j*P.cellsOf t+s.size →
   (∀ (i:Nat),i<n→DataW.trod enc P W 0 (fun _=>true) true fuel t ((cs.drop ((j+i)*P.cellsOf t)).take (P.cellsOf t))=xs[i]?)→∃ y:s.den,cs.drop (j*P.cellsOf t)=s.cells y∧s.ok W.heap y∧s.wt y≤ba (xs.map (·.1))):=by
 intro s
 induction s with
 | int k=>
  refine ⟨fun t fuel cs x hs h=>?_,fun fs o fuel cs xs hs=>?_,fun t n j fuel cs xs hs=>?_⟩
  ·simp only [Sh.is,Bool.and_eq_true] at hs
   obtain ⟨h1,_⟩:=hs
   split at h1
   ·rename_i k' hk
    have:k'=k:=of_decide_eq_true h1
    subst this
    obtain ⟨n,e1,e2,e3⟩:=DataW.trod_int hk h
    exact ⟨n,e1,wf_fits e3,by rw [e2]; exact B.lit _ _⟩
   ·cases h1
  ·cases fs <;> simp [Sh.fis] at hs
  ·cases n <;> simp [Sh.ais] at hs
 | bool=>
  refine ⟨fun t fuel cs x hs h=>?_,fun fs o fuel cs xs hs=>?_,fun t n j fuel cs xs hs=>?_⟩
  ·simp only [Sh.is,Bool.and_eq_true] at hs
   obtain ⟨h1,_⟩:=hs
   split at h1
   ·rename_i hk
    obtain ⟨n,e1,e2⟩:=DataW.trod_bool hk h
    exact ⟨n,e1,trivial,by rw [e2]; exact B.litB _⟩
   ·cases h1
  ·cases fs <;> simp [Sh.fis] at hs
  ·cases n <;> simp [Sh.ais] at hs
 | list e ih=>
  refine ⟨fun t fuel cs x hs h=>?_,fun fs o fuel cs xs hs=>?_,fun t n j fuel cs xs hs=>?_⟩
  ·simp only [Sh.is,Bool.and_eq_true] at hs
   obtain ⟨h1,_⟩:=hs
   split at h1
   ·rename_i te hk
    simp only [Bool.and_eq_true] at h1
    obtain ⟨h2,h3⟩:=h1
    have hC:P.cellsOf te=e.size:=Nat.eq_of_beq_eq_true h3
    rcases Go.Deep.open_slice hk h with ⟨e1,e2⟩ | ⟨a,len,cap,m,n,D,Pl,e1,_,g2,g3,g4,g5,g6⟩
    ·refine ⟨(⟨none,0,0⟩,[]),e1,⟨rfl,Nat.le_refl _,(by decide:0<2 ^ 63),fun i y hi=>by simp at hi⟩,?_⟩
     rw [e2]; exact B.nil
    ·simp only [if_true] at g4
     subst g4
     have key:∀ i,i<m→∃ y:e.den,Cells W.heap (a.add (i*e.size)) (e.cells y)∧e.ok W.heap y∧e.wt y≤b (D i):=by
      intro i hi
      obtain ⟨cs',c1,c2⟩:=g6 i hi
      obtain ⟨y,y1,y2,y3⟩:=ih.1 te n cs' _ h2 c2
      obtain ⟨_,c3,c4⟩:=World.cells?_some c1
      refine ⟨y,cells_iff.2 fun q v hq=>?_,y2,y3⟩
      rw [← y1] at hq
      have hq':=(List.getElem?_eq_some_iff.1 hq).1
      have:=c4 q (by omega)
      rw [← hC]
      exact this.trans hq
     have hne:Nonempty e.den∨m=0:=by
      by_cases hm:m=0
      ·exact .inr hm
      ·obtain ⟨y,_⟩:=key 0 (by omega); exact .inl ⟨y⟩
     rcases hne with hne | hm0
     ·have:Inhabited e.den:=⟨Classical.choice hne⟩
      obtain ⟨F,hF⟩:=Go.Deep.choose_lt key
      have hget:∀ (i:Nat) (o:e.den),((List.range len).map F)[i]? = some o→i<len∧o=F i:=by
       intro i o hi
       have hlt:=(List.getElem?_eq_some_iff.1 hi).1
       rw [List.length_map,List.length_range] at hlt
       rw [List.getElem?_map,List.getElem?_range hlt] at hi
       exact ⟨hlt,by simpa using hi.symm⟩
      refine ⟨(⟨some a,len,m⟩,(List.range len).map F),e1,⟨by simp,g2,Nat.lt_of_le_of_lt g3 (by decide),fun i y hi=>?_⟩,?_⟩
      ·obtain ⟨hlt,rfl⟩:=hget i y hi
       obtain ⟨k1,k2,_⟩:=hF i (by omega)
       exact ⟨a,rfl,k1,k2⟩
      ·have:=bulk_sum B e.wt ((List.range len).map F) D 0 fun i y hi=>by
        obtain ⟨hlt,rfl⟩:=hget i y hi
        rw [Nat.zero_add]; exact (hF i (by omega)).2.2
       rw [List.length_map,List.length_range, ← List.range_eq_range'] at this
       have:=B.sl ((List.range len).map D) ((List.range (m-len)).map fun j=>D (len+j))
       rw [g5]
       simp only [Sh.wt]
       omega
     ·have:len=0:=by omega
      subst this
      refine ⟨(⟨some a,0,m⟩,[]),e1,⟨rfl,g2,Nat.lt_of_le_of_lt g3 (by decide),fun i y hi=>by simp at hi⟩,?_⟩
      have:=B.sl ((List.range 0).map D) ((List.range (m-0)).map fun j=>D (0+j))
      rw [g5]
      simp only [Sh.wt,List.map_nil,List.sum_nil]
      omega
   ·cases h1
  ·cases fs <;> simp [Sh.fis] at hs
  ·cases n <;> simp [Sh.ais] at hs
 | unit=>
  refine ⟨fun t fuel cs x hs h=>by simp [Sh.is] at hs,fun fs o fuel cs xs hs hx hl hf=>?_,fun t n j fuel cs xs hs hx hl hf=>?_⟩
  ·refine ⟨(),?_,trivial,Nat.zero_le _⟩
   rw [List.drop_of_length_le (by simp only [Sh.size] at hl; omega)]; rfl
  ·refine ⟨(),?_,trivial,Nat.zero_le _⟩
   rw [List.drop_of_length_le (by simp only [Sh.size] at hl; omega)]; rfl
 | pair a c iha ihb=>
  refine ⟨fun t fuel cs x hs h=>by simp [Sh.is] at hs,fun fs o fuel cs xs hs hx hl hf=>?_,fun t n j fuel cs xs hs hx hl hf=>?_⟩
  ·cases fs with
   | nil=>simp [Sh.fis] at hs
   | cons f fs=>
    simp only [Sh.fis,Bool.and_eq_true] at hs
    obtain ⟨⟨⟨h1,h2⟩,h3⟩,h4⟩:=hs
    have h1:=Nat.eq_of_beq_eq_true h1
    have h3:=Nat.eq_of_beq_eq_true h3
    cases xs with
    | nil=>simp at hx
    | cons x xs=>
     have q0:=hf 0 f rfl
     rw [h1,h3] at q0
     obtain ⟨y,y1,y2,y3⟩:=iha.1 f.type fuel _ x h2 q0
     simp only [Sh.size] at hl
     obtain ⟨z,z1,z2,z3⟩:=ihb.2.1 fs (o+a.size) fuel cs xs h4 (by simpa using hx) (by omega) fun i f' hi=>hf (i+1) f' (by simpa using hi)
     refine ⟨(y,z),?_,⟨y2,z2⟩,?_⟩
     ·simp only [Sh.cells]
      rw [← y1, ← z1, ← List.drop_drop,List.take_append_drop]
     ·have:=B.cons x.1 (xs.map (·.1))
      simp only [Sh.wt,List.map_cons]
      omega
  ·cases n with
   | zero=>simp [Sh.ais] at hs
   | succ n=>
    simp only [Sh.ais,Bool.and_eq_true] at hs
    obtain ⟨⟨h2,h3⟩,h4⟩:=hs
    have h3:=Nat.eq_of_beq_eq_true h3
    cases xs with
    | nil=>simp at hx
    | cons x xs=>
     have q0:=hf 0 (by omega)
     rw [Nat.add_zero] at q0
     obtain ⟨y,y1,y2,y3⟩:=iha.1 t fuel _ x h2 q0
     simp only [Sh.size] at hl
     obtain ⟨z,z1,z2,z3⟩:=ihb.2.2 t n (j+1) fuel cs xs h4 (by simpa using hx) (by rw [Nat.succ_mul]; omega) fun i hi=>by
      have:=hf (i+1) (by omega)
      rw [show j+1+i=j+(i+1) by omega]; simpa using this
     refine ⟨(y,z),?_,⟨y2,z2⟩,?_⟩
     ·simp only [Sh.cells]
      rw [← y1, ← z1,Nat.succ_mul, ← List.drop_drop,List.take_append_drop]
     ·have:=B.cons x.1 (xs.map (·.1))
      simp only [Sh.wt,List.map_cons]
      omega
 | str s ih=>
  refine ⟨fun t fuel cs x hs h=>?_,fun fs o fuel cs xs hs=>?_,fun t n j fuel cs xs hs=>?_⟩
  ·simp only [Sh.is,Bool.and_eq_true] at hs
   obtain ⟨h1,h2⟩:=hs
   have h2:=Nat.eq_of_beq_eq_true h2
   split at h1
   ·rename_i fs hk
    obtain ⟨xs,n',_,hx,hl,hlen,hf⟩:=DataW.trod_struct hk h
    obtain ⟨y,y1,y2,y3⟩:=ih.2.1 fs.toList 0 n' cs xs h1 (by simpa using hlen) (by omega) fun i f hi=>hf i f (by simpa using hi)
    refine ⟨y,by simpa [Sh.cells] using y1,y2,?_⟩
    have:=B.agg (xs.map (·.1))
    rw [hx]
    simp only [Sh.wt]
    omega
   ·cases h1
  ·cases fs <;> simp [Sh.fis] at hs
  ·cases n <;> simp [Sh.ais] at hs
 | arr s ih=>
  refine ⟨fun t fuel cs x hs h=>?_,fun fs o fuel cs xs hs=>?_,fun t n j fuel cs xs hs=>?_⟩
  ·simp only [Sh.is,Bool.and_eq_true] at hs
   obtain ⟨h1,h2⟩:=hs
   have h2:=Nat.eq_of_beq_eq_true h2
   split at h1
   ·rename_i n te hk
    obtain ⟨xs,n',_,hx,hl,hlen,hf⟩:=DataW.trod_array hk h
    obtain ⟨y,y1,y2,y3⟩:=ih.2.2 te n 0 n' cs xs h1 hlen (by omega) fun i hi=>by rw [Nat.zero_add]; exact hf i hi
    refine ⟨y,by simpa [Sh.cells] using y1,y2,?_⟩
    have:=B.agg (xs.map (·.1))
    rw [hx]
    simp only [Sh.wt]
    omega
   ·cases h1
  ·cases fs <;> simp [Sh.fis] at hs
  ·cases n <;> simp [Sh.ais] at hs
theorem open_list {t:TypeId} {e:Sh} {W:World} {v:Value} {d:DataW H} {p:List MemPlace} {r:Reach} {b0:Nat} {b:DataW H→Nat} {ba:List (DataW H)→Nat} (B:BulkOk b ba) (hs:(Sh.list e).is P t=true)
  (hval:Value.okWide P W r b0 t v) (h:DataW.Trod enc P W 0 (fun _=>true) true t v d p):∃ y:Sl×List e.den,v = .slice y.1.base y.1.len y.1.cap∧(Sh.list e).ok W.heap y∧(Sh.list e).wt y≤b d:=by
 obtain ⟨fuel,h⟩:=h
 have ht:∃ te,P.underlying t=some (.slice te):=by
  have:=hs
  simp only [Sh.is,Bool.and_eq_true] at this
  obtain ⟨h1,_⟩:=this
  split at h1
  ·rename_i te hk; exact ⟨te,hk⟩
  ·cases h1
 obtain ⟨te,ht⟩:=ht
 obtain ⟨a',len',cap',rfl⟩:=okWide_slice ht hval
 obtain ⟨y,y1,y2,y3⟩:=(open_sh B (Sh.list e)).1 t fuel _ _ hs h
 simp [Value.cells,Sh.cells] at y1
 obtain ⟨q1,q2,q3⟩:=y1
 exact ⟨y,by rw [q1,q2,q3],y2,y3⟩
theorem Sh.lst {k:IntKind} {h:Heap} {x:Sl×List Int} (o:(Sh.list (.int k)).ok h x):Lst k h x.1 x.2:=by
 obtain ⟨h1,h2,h3,h4⟩:=o
 refine ⟨⟨by simpa using h1,fun i v hi=>?_⟩,h2,h3,fun y hy=>?_⟩
 ·rw [List.getElem?_map] at hi
  cases hx:x.2[i]? with
  | none=>rw [hx] at hi; cases hi
  | some y=>
   rw [hx] at hi
   cases hi
   obtain ⟨a,e,c,_⟩:=h4 i y hx
   refine ⟨a,e,?_⟩
   have:=cells_iff.1 c 0 _ rfl
   rw [add_zero'] at this
   simpa [Sh.size] using this
 ·obtain ⟨i,hi⟩:=List.getElem?_of_mem hy
  obtain ⟨a,_,_,f⟩:=h4 i y hi
  exact f
theorem Sh.wt_len {e:Sh} (x:Sl×List e.den) (h:∀ y,1≤e.wt y):x.2.length+1≤(Sh.list e).wt x:=by
 have:∀ l:List e.den,l.length≤(l.map e.wt).sum:=by
  intro l
  induction l with
  | nil=>simp
  | cons y l ih=>have:=h y; simp only [List.length_cons,List.map_cons,List.sum_cons]; omega
 have:=this x.2
 simp only [Sh.wt]; omega
end Go.Sw
