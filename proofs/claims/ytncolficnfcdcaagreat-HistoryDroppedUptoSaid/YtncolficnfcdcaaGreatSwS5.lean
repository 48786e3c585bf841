import Derived.Test.YtncolficnfcdcaaGreatSwS4
set_option linter.unusedSimpArgs false
set_option linter.unusedVariables false
namespace Go.Sw
theorem rangeZeros_list (z:List Value):∀ n,(List.range (n*z.length)).map (fun i=>z.toArray[i % z.length]!)=zeros z n:=by
 intro n
 induction n with
 | zero=>simp [zeros]
 | succ n ih=>
  rw [Nat.succ_mul,Nat.add_comm,List.range_add,List.map_append,List.map_map]
  have e1:(List.range z.length).map (fun i=>z.toArray[i % z.length]!)=z:=by
   apply List.ext_getElem
   ·simp
   ·intro i h1 h2
    have:i % z.length=i:=Nat.mod_eq_of_lt h2
    simp [this,h2]
  have e2:(fun i=>z.toArray[i % z.length]!)∘(fun x=>z.length+x)=fun i=>z.toArray[i % z.length]! := by
   funext i
   simp
  rw [e1,e2,ih]
  rfl
theorem zeros_length (z:List Value) (n:Nat):(zeros z n).length=n*z.length:=by
 induction n with
 | zero=>simp [zeros]
 | succ n ih=>simp [zeros,ih,Nat.succ_mul,Nat.add_comm]
theorem zeroCells_eq (z:List Value) (n:Nat):Builtin.zeroCells z.toArray n=(zeros z n).toArray:=by
 apply Array.toList_inj.1
 have:=rangeZeros_list z n
 simpa [Builtin.zeroCells] using this
theorem rangeZeros_eq (z:List Value) (n:Nat):(Array.range (n*z.length)).map (fun i=>z.toArray[i % z.toArray.size]!)=(zeros z n).toArray:=
 zeroCells_eq z n
section
variable {P:Program}
theorem elemOf_sound {t e:TypeId} {size bytes:Nat} {z:List Value} (h:elemOf P t=some (e,size,bytes,z)) :
  ∃ i,P.underlying t=some (.slice e)∧P.info? e=some i∧i.size=size∧i.bytes=bytes∧z.length=size∧∀ w,∃ v,(zeroValue e).run P w = .ok v w∧v.cells=z.toArray:=by
 unfold elemOf at h
 split at h
 ·rename_i e' hu
  split at h
  ·rename_i i z' hi hz
   cases hb:Nat.beq z'.length i.size
   ·simp only [hb,cond_false] at h; cases h
   ·simp only [hb,cond_true,Option.some.injEq,Prod.mk.injEq] at h
    obtain ⟨rfl,rfl,rfl,rfl⟩:=h
    exact ⟨i,hu,hi,rfl,rfl,nbeq_iff.1 hb,fun w=>zeroOf_sound hz⟩
  ·cases h
 ·cases h
theorem run_append {t t' e e':TypeId} {size bytes:Nat} {z:List Value} {q:Nat×Nat×List Value} (he:elemOf P t=some (e,size,bytes,z)) (he':elemOf P t'=some (e',q))
  (ty:TypeId) {p p':Option Addr} {n m n' m':Nat} {w:World} {K:Sl→Heap→Prop} (h:appendWp size bytes z ⟨p,n,m⟩ ⟨p',n',m'⟩ w.heap K) :
  ∃ r w',(Builtin.append_ #[t,t'] ty #[.slice p n m, .slice p' n' m']).run P w = .ok (.slice r.base r.len r.cap) w'∧Env w w'∧K r w'.heap:=by
 obtain ⟨i,hu,hi,hsz,hby,hzl,hzv⟩:=elemOf_sound he
 obtain ⟨i',hu', -, -, -, -, -⟩:=elemOf_sound (show elemOf P t'=some (e',q.1,q.2.1,q.2.2) from he')
 obtain ⟨new,hnew,h⟩:=h
 have hfirst:(Builtin.firstCells size n' (.slice p' n' m')).run P w = .ok new.toArray w:=firsts_ok hnew
 simp only at h
 by_cases hc:n+n'≤m
 ·simp only [hc,if_true] at h
  cases p with
  | none=>
   simp only at h
   refine ⟨⟨none,n+n',m⟩,w,?_,Env.refl w,h⟩
   simp [Builtin.append_,run_und hu,run_und hu',run_size hi,hsz,Builtin.lenOf,hc,hfirst]
  | some a=>
   simp only at h
   refine ⟨⟨some a,n+n',m⟩,wh w (puts w.heap (a.add (n*size)) new),?_,wh_env _ _,h.2⟩
   have hst:(storeCells (a.add (n*size)) new).run P w = .ok () (wh w (puts w.heap (a.add (n*size)) new)):=storeFrom_ok h.1
   simp [Builtin.append_,run_und hu,run_und hu',run_size hi,hsz,Builtin.lenOf,hc,hfirst,hst]
 ·simp only [hc,if_false] at h
  obtain ⟨old,hold,hroom,hlt,hk⟩:=h
  have hq:(Question.appendCap (n+n') m e).forced=false:=rfl
  generalize hcap:(Question.appendCap (n+n') m e).cut (w.tape w.drawn (.appendCap (n+n') m e))=cap
  have hcap1:n+n'≤cap∧cap<2 ^ 63:=by
   rw [← hcap]
   simp only [Question.cut]
   have:=Nat.mod_lt (w.tape w.drawn (.appendCap (n+n') m e)) (show 0<2 ^ 63-(n+n') by omega)
   omega
  obtain ⟨zv,hzr,hzc⟩:=hzv w.drew
  have hfirst':(Builtin.firstCells size n' (.slice p' n' m')).run P w.drew = .ok new.toArray w.drew:=firsts_ok (w:=w.drew) hnew
  have hold':(Builtin.firstCells size n (.slice p n m)).run P w.drew = .ok old.toArray w.drew:=firsts_ok (w:=w.drew) hold
  have hmax:¬ ((9223372036854775807:Int)<(n:Int)+(n':Int)∧bytes=0):=by omega
  have hroom':¬ (281474976710656<Builtin.nextslicecap (n+n') m*bytes):=by omega
  refine ⟨⟨some ⟨w.heap.size,0,none⟩,n+n',cap⟩,wh w.drew (w.heap.push (.cells (old++new++zeros z (cap-(n+n'))).toArray e)),?_,⟨rfl,rfl,rfl⟩,hk cap e hcap1.1 hcap1.2⟩
  simp [Builtin.append_,run_und hu,run_und hu',run_size hi,hsz,Builtin.lenOf,hc,run_info hi,hby,hmax,hroom',run_choose,hq,hcap,hold',hfirst',hzr,hzc,zeroCells_eq,newRow,wh]
  rfl
theorem run_copy {t e:TypeId} {size bytes:Nat} {z:List Value} (he:elemOf P t=some (e,size,bytes,z)) (ts:List TypeId)
  (ty:TypeId) {p p':Option Addr} {n m n' m':Nat} {w:World} {K:Nat→Heap→Prop} (h:copyWp size ⟨p,n,m⟩ ⟨p',n',m'⟩ w.heap K) :
  ∃ r w',(Builtin.copy_ (t::ts).toArray ty #[.slice p n m, .slice p' n' m']).run P w = .ok (.int .i64 ((r:Nat):Int)) w'∧Env w w'∧K r w'.heap:=by
 obtain ⟨i,hu,hi,hsz,hby,hzl,hzv⟩:=elemOf_sound he
 obtain ⟨new,hnew,h⟩:=h
 simp only at h hnew
 have hfirst:(Builtin.firstCells size (Nat.min n' n) (.slice p' n' m')).run P w = .ok new.toArray w:=firsts_ok hnew
 cases p with
 | none=>
  simp only at h
  refine ⟨min n' n,w,?_,Env.refl w,h⟩
  simp [Builtin.copy_,run_und hu,run_size hi,hsz,Builtin.lenOf,hfirst,goInt]
 | some a=>
  simp only at h
  refine ⟨min n' n,wh w (puts w.heap a new),?_,wh_env _ _,h.2⟩
  have hst:(storeCells a new).run P w = .ok () (wh w (puts w.heap a new)):=storeFrom_ok h.1
  simp [Builtin.copy_,run_und hu,run_size hi,hsz,Builtin.lenOf,hfirst,hst,goInt]
theorem wrap_i64 {n:Int} (h0:0≤n) (h1:n<2 ^ 63):IntKind.i64.wrap n=n:=by
 have e:n % (2 ^ 64)=n:=Int.emod_eq_of_lt h0 (by omega)
 have:IntKind.i64.wrap n=(if (true && decide (n % (2 ^ 64)≥2 ^ 63))=true then n % (2 ^ 64)-2 ^ 64 else n % (2 ^ 64)):=rfl
 rw [this]
 simp only [e]
 simp
 omega
theorem run_makeSlice {t e:TypeId} {size bytes:Nat} {z:List Value} (he:elemOf P t=some (e,size,bytes,z)) {l c:Int} {w:World}
  (h:0≤l∧l≤c∧c<2 ^ 63∧bytes*c≤2 ^ 48) :
  (Instr.makeSlice t (.int .i64 l) (.int .i64 c)).run P w = .ok (.slice (some ⟨w.heap.size,0,none⟩) l.toNat c.toNat) (wh w (w.heap.push (.cells (zeros z c.toNat).toArray e))):=by
 obtain ⟨i,hu,hi,hsz,hby,hzl,hzv⟩:=elemOf_sound he
 obtain ⟨h0,h1,h2,h3⟩:=h
 obtain ⟨zv,hzr,hzc⟩:=hzv w
 have e1:IntKind.i64.wrap l=l:=wrap_i64 h0 (by omega)
 have e2:IntKind.i64.wrap c=c:=wrap_i64 (by omega) h2
 have c1:(decide (c<0) || decide ((281474976710656:Int)<bytes*c))=false:=by simp; omega
 have t1:(c<0)=False:=by simp; omega
 have t2:((281474976710656:Int)<bytes*c)=False:=by simp; omega
 have t3:(l<0)=False:=by simp; omega
 have t4:(c<l)=False:=by simp; omega
 by_cases hn:c.toNat*size=0
 ·have hz0:zeros z c.toNat=[]:=List.length_eq_zero_iff.1 (by rw [zeros_length,hzl,hn])
  have hn':c.toNat=0∨size=0:=Nat.mul_eq_zero.1 hn
  simp [Instr.makeSlice,run_und hu,asInt,asIntOf,run_info hi,hby,e1,e2,t1,t2,t3,t4,run_size hi,hsz,hn,hz0,newRow,wh]
  exact congrArg (fun x=>w.alloc (.cells x e)) (Array.toList_inj.1 (by simp))
 ·have hr:=rangeZeros_eq z c.toNat
  rw [hzl] at hr
  have hn':¬ (c.toNat=0∨size=0):=fun x=>hn (Nat.mul_eq_zero.2 x)
  simp [Instr.makeSlice,run_und hu,asInt,asIntOf,run_info hi,hby,e1,e2,t1,t2,t3,t4,run_size hi,hsz,hn,hzr,hzc,newRow,wh]
  exact congrArg (fun x=>w.alloc (.cells x e)) (by simpa [hzl] using hr)
end
end Go.Sw
