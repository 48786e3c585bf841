import Derived.Test.YtncolficnfcdcaaGreatSwS2
set_option linter.unusedSimpArgs false
set_option linter.unusedVariables false
namespace Go.Sw
theorem shift_cut {p:Option Addr} {m l n:Nat}:(if m=l then p else p.map (·.add (l*n)))=cutBase p m l n:=rfl
theorem evs_array {f:Fr} {a:Act} (hf:FrOk f a) {xs:Array Operand} {vs:List Value} (h:evs f xs.toList=some vs):xs.map a.eval=vs.toArray:=
 Array.toList_inj.1 (by simpa using evs_sound hf h)
theorem run_places' {P:Program} {w:World}:∀ {fs:List Field},(fs.all (fun fd=>(P.info? fd.type).isSome))=true →
  (fs.mapM fun f=>(do pure (f.offset, ← sizeOf f.type):Sem (Nat×Nat))).run P w = .ok (fs.map fun fd=>(fd.offset,P.cellsOf fd.type)) w:=by
 intro fs
 induction fs with
 | nil=>intro h; simp
 | cons fd fs ih=>
  intro h
  simp only [List.all_cons,Bool.and_eq_true] at h
  obtain ⟨i,hi⟩:=Option.isSome_iff_exists.1 h.1
  have:=ih h.2
  simp [List.mapM_cons,run_size hi,Program.cellsOf,hi] at this ⊢
  simp [this]
theorem pureOp_sound {P:Program} {f:Fr} {a:Act} (hf:FrOk f a) {o:Oper} {c:PC} {v:Value} (h:pureOp P f o.type o.op=some (c,v)) (hc:PCHolds P c) (w:World) :
  (execOp a.eval o).run P w = .ok (.value v) w:=by
 obtain ⟨dst,op,type,pos,after,guard⟩:=o
 simp only at h
 cases op <;> simp only [pureOp,reduceCtorEq] at h
 case move x=>
  obtain ⟨u,hu,e⟩:=Option.map_eq_some_iff.1 h
  obtain ⟨rfl,rfl⟩:=Prod.mk.inj e
  simp [execOp,ev_sound hf hu]
 case assign x=>
  obtain ⟨u,hu,e⟩:=Option.map_eq_some_iff.1 h
  obtain ⟨rfl,rfl⟩:=Prod.mk.inj e
  simp [execOp,ev_sound hf hu]
 case nilCheck x=>
  cases hft:isFuncTy P type
  ·simp only [hft,cond_false] at h
   split at h
   ·rename_i p hx
    obtain ⟨rfl,rfl⟩:=Prod.mk.inj (Option.some.inj h)
    obtain ⟨ad,rfl⟩:=Option.isSome_iff_exists.1 hc
    simp [execOp,ev_sound hf hx]
   ·cases h
  ·simp only [hft,cond_true] at h
   obtain ⟨u,hu,e⟩:=Option.map_eq_some_iff.1 h
   obtain ⟨rfl,rfl⟩:=Prod.mk.inj e
   have e:=ev_sound hf hu
   have:=hc w
   simp only [execOp] at this ⊢
   rw [e]
   exact this
 case binOp op t x y u=>
  cases hn:isNilOp y
  ·simp only [hn,cond_false] at h
   split at h
   ·rename_i b d hx hy
    split at h
    ·rename_i xs ys
     obtain ⟨r,hr,e⟩:=Option.map_eq_some_iff.1 h
     obtain ⟨rfl,rfl⟩:=Prod.mk.inj e
     have:=structEq_sound (w:=w) (x:=x) (y:=y) hr
     simp only [execOp,ev_sound hf hx,ev_sound hf hy]
     rw [Sem.run_bind,this]
     rfl
    obtain ⟨r,hr,e⟩:=Option.map_eq_some_iff.1 h
    obtain ⟨rfl,rfl⟩:=Prod.mk.inj e
    have:=binV_sound (w:=w) (x:=x) (y:=y) hr hc
    simp only [execOp,ev_sound hf hx,ev_sound hf hy]
    rw [Sem.run_bind,this]
    rfl
   ·cases h
  ·simp only [hn,cond_true] at h
   split at h
   ·rename_i b hx
    obtain ⟨r,hr,e⟩:=Option.map_eq_some_iff.1 h
    obtain ⟨rfl,rfl⟩:=Prod.mk.inj e
    have:=nilV_sound (w:=w) (x:=x) a.eval (fun v=>rfl) hr hc
    simp only [execOp,ev_sound hf hx]
    rw [Sem.run_bind,this]
    rfl
   ·cases h
 case unOp op t x=>
  split at h
  ·rename_i b hx
   obtain ⟨r,hr,e⟩:=Option.map_eq_some_iff.1 h
   obtain ⟨rfl,rfl⟩:=Prod.mk.inj e
   simp [execOp,ev_sound hf hx,unV_sound (w:=w) hr]
  ·cases h
 case convert s d x=>
  split at h
  ·rename_i b hx
   obtain ⟨r,hr,e⟩:=Option.map_eq_some_iff.1 h
   obtain ⟨rfl,rfl⟩:=Prod.mk.inj e
   simp [execOp,ev_sound hf hx,convV_sound (w:=w) hr]
  ·cases h
 case fieldAddr t x n=>
  split at h
  ·rename_i p ft off hx hfo
   obtain ⟨rfl,rfl⟩:=Prod.mk.inj (Option.some.inj h)
   simp [execOp,ev_sound hf hx,fieldAt_sound (w:=w) hfo p hc]
  ·cases h
 case field t x n=>
  split at h
  ·rename_i cs ft off hx hfo
   obtain ⟨r,hr,e⟩:=Option.map_eq_some_iff.1 h
   obtain ⟨rfl,rfl⟩:=Prod.mk.inj e
   obtain ⟨fs,fd,i,hu,hfd,hi,hz,rfl,rfl⟩:=fieldOff_sound hfo
   simp [execOp,ev_sound hf hx,Instr.field,run_und hu,hfd,asAgg,run_part hr]
  ·cases h
 case indexAddr t x i=>
  split at h
  ·rename_i e p n c' k j hu hx hj
   split at h
   ·rename_i ei hi
    obtain ⟨rfl,rfl⟩:=Prod.mk.inj (Option.some.inj h)
    simp [execOp,ev_sound hf hx,ev_sound hf hj,indexAt_slice (w:=w) hu hi p n c' k j hc,mulN,toN]
   ·cases h
  ·rename_i n e p k j hu hx hj
   split at h
   ·rename_i ei hi
    obtain ⟨rfl,rfl⟩:=Prod.mk.inj (Option.some.inj h)
    simp [execOp,ev_sound hf hx,ev_sound hf hj,indexAt_array (w:=w) hu hi p k j hc,mulN,toN]
   ·cases h
  ·cases h
 case index t x i=>
  split at h
  ·rename_i s k j hu hx hj
   obtain ⟨rfl,rfl⟩:=Prod.mk.inj (Option.some.inj h)
   simp [execOp,ev_sound hf hx,ev_sound hf hj,index_string (w:=w) hu s k j hc]
  ·cases h
 case extract x n=>
  split at h
  ·rename_i vs hx
   obtain ⟨r,hr,e⟩:=Option.map_eq_some_iff.1 h
   obtain ⟨rfl,rfl⟩:=Prod.mk.inj e
   have hr':vs[n]? = some r:=by simpa using hr
   simp [execOp,ev_sound hf hx,Instr.extract,hr']
  ·cases h
 case slice t x lo hi mx=>
  split at h
  ·rename_i e p len cap lo' hi' mx' hu hx hlo hhi hmx
   split at h
   ·rename_i ei c' l h' m hei hb
    obtain ⟨rfl,rfl⟩:=Prod.mk.inj (Option.some.inj h)
    have:=bounds_sound (P:=P) (w:=w) true (optInt_sound hf hlo) (optInt_sound hf hhi) (optInt_sound hf hmx) hb hc
    simp [execOp,ev_sound hf hx,Instr.sliceAt,Instr.slice,run_und hu,this,run_size hei,shift_cut,subN]
   ·cases h
  ·rename_i n e p lo' hi' mx' hu hx hlo hhi hmx
   split at h
   ·rename_i ei c' l h' m hei hb
    obtain ⟨rfl,rfl⟩:=Prod.mk.inj (Option.some.inj h)
    have hc':p.isSome=true∧c'=true:=by simpa [PCHolds,andB,someB] using hc
    obtain ⟨ad,rfl⟩:=Option.isSome_iff_exists.1 hc'.1
    have:=bounds_sound (P:=P) (w:=w) false (optInt_sound hf hlo) (optInt_sound hf hhi) (optInt_sound hf hmx) hb hc'.2
    simp [execOp,ev_sound hf hx,Instr.sliceAt,run_und hu,this,run_size hei,sureAddr_some,cutBase,subN]
    split <;> rfl
   ·cases h
  ·rename_i s lo' hi' hu hx hlo hhi hmx
   split at h
   ·rename_i c' l h' m hb
    obtain ⟨rfl,rfl⟩:=Prod.mk.inj (Option.some.inj h)
    cases mx with
    | none=>
     have:=bounds_sound (P:=P) (w:=w) (mx:=none) (mx':=none) false (optInt_sound hf hlo) (optInt_sound hf hhi) trivial hb hc
     simp [execOp,ev_sound hf hx,Instr.sliceAt,Instr.slice,run_und hu,sizeS,cutS] at this ⊢
     simp [this]
    | some m=>
     simp only [optInt] at hmx
     split at hmx <;> simp at hmx
   ·cases h
  ·cases h
 case build t parts=>
  split at h
  ·rename_i vs z fs hvs hz hu
   cases hall:fs.toList.all (fun fd=>(P.info? fd.type).isSome)
   ·simp only [hall,cond_false] at h; cases h
   simp only [hall,cond_true] at h
   obtain ⟨r,hr,e⟩:=Option.map_eq_some_iff.1 h
   obtain ⟨rfl,rfl⟩:=Prod.mk.inj e
   obtain ⟨zv,hzv,hzc⟩:=zeroOf_sound (w:=w) hz
   have hpl:=run_places' (P:=P) (w:=w) (fs:=fs.toList) (by simpa using hall)
   have hfill:=(fillL_sound (P:=P) (place':=fun i=>(fs.toList.map (fun fd=>(fd.offset,P.cellsOf fd.type)))[i]?) (fun i off t ti hpi hti=>by
    simp only [fieldPlaces,Option.map_eq_some_iff,Prod.mk.injEq] at hpi
    obtain ⟨fd,hfd,rfl,rfl⟩:=hpi
    have:fs.toList[i]? = some fd:=by simpa using hfd
    simp [hfd,Program.cellsOf,hti]) hr hc).2
   have hparts:(parts.map fun p=>(p.1,a.eval p.2)).toList=vs:=by simpa using zipOps_sound hf hvs
   simp only [execOp,Instr.build,Sem.run_bind,hzv,Result.andThen_ok,run_und hu,Array.mapM_eq_mapM_toList,Sem.run_map,hzc]
   simp only [hparts,hpl,Result.andThen_ok]
   have hfill':Instr.fill (fun x=>Option.map (fun fd=>(fd.offset,P.cellsOf fd.type)) fs[x]?) z.toArray vs=some r.2.toArray:=by simpa using hfill
   simp [hfill']
  ·rename_i vs z n e hvs hz hu
   split at h
   ·rename_i ei hei
    obtain ⟨r,hr,e⟩:=Option.map_eq_some_iff.1 h
    obtain ⟨rfl,rfl⟩:=Prod.mk.inj e
    obtain ⟨zv,hzv,hzc⟩:=zeroOf_sound (w:=w) hz
    have hfill:=(fillL_sound (P:=P) (place':=fun i=>some (i*ei.size,ei.size)) (fun i off t ti hpi hti=>by
     simp only [Option.some.injEq,Prod.mk.injEq] at hpi
     obtain ⟨rfl,rfl⟩:=hpi
     rw [hei] at hti
     obtain rfl:=Option.some.inj hti
     rfl) hr hc).2
    have hparts:(parts.map fun p=>(p.1,a.eval p.2)).toList=vs:=by simpa using zipOps_sound hf hvs
    simp only [execOp,Instr.build,Sem.run_bind,hzv,Result.andThen_ok,run_und hu,hzc,run_size hei]
    simp only [hparts]
    simp [hfill]
   ·cases h
  ·cases h
 case makeInterface t x=>
  split at h
  ·cases h
  ·rename_i u d hd hx hu
   obtain ⟨rfl,rfl⟩:=Prod.mk.inj (Option.some.inj h)
   simp only [execOp,ev_sound hf hx,Instr.makeInterface,Sem.run_bind,run_und hu,Result.andThen_ok]
   cases d <;> first | rfl | exact absurd rfl (hd _)
  ·cases h
 case makeFunc fn first captured=>
  split at h
  ·rename_i u d hx hu
   obtain ⟨rfl,rfl⟩:=Prod.mk.inj (Option.some.inj h)
   have e1:first.map a.eval=u.toArray:=evs_array hf hx
   have e2:captured.map a.eval=d.toArray:=evs_array hf hu
   simp [execOp,Instr.makeFunc,e1,e2]
  ·cases h
 case call c=>
  obtain ⟨callee,args,argTypes⟩:=c
  simp only at h
  split at h
  ·rename_i n len cap t hcal hargs ht
   split at h
   ·rename_i e hu
    obtain ⟨rfl,rfl⟩:=Prod.mk.inj (Option.some.inj h)
    simp [execOp,resolve,invoke,builtin,Builtin.len_,ht,evs_array hf hargs,run_und hu,goInt,natI,sizeS]
   ·cases h
  ·rename_i s t hcal hargs ht
   split at h
   ·rename_i hu
    obtain ⟨rfl,rfl⟩:=Prod.mk.inj (Option.some.inj h)
    simp [execOp,resolve,invoke,builtin,Builtin.len_,ht,evs_array hf hargs,run_und hu,goInt,natI,sizeS]
   ·cases h
  ·rename_i n len cap t hcal hargs ht
   split at h
   ·rename_i e hu
    obtain ⟨rfl,rfl⟩:=Prod.mk.inj (Option.some.inj h)
    simp [execOp,resolve,invoke,builtin,Builtin.cap_,ht,evs_array hf hargs,run_und hu,goInt,natI,sizeS]
   ·cases h
  ·rename_i v vs hcal hargs
   obtain ⟨r,hr,e⟩:=Option.map_eq_some_iff.1 h
   obtain ⟨rfl,rfl⟩:=Prod.mk.inj e
   have:=minV_sound (P:=P) (w:=w) false hr
   simp only [cond_false] at this
   simp [execOp,resolve,invoke,builtin,Builtin.min_,evs_array hf hargs,this]
  ·rename_i v vs hcal hargs
   obtain ⟨r,hr,e⟩:=Option.map_eq_some_iff.1 h
   obtain ⟨rfl,rfl⟩:=Prod.mk.inj e
   have:=minV_sound (P:=P) (w:=w) true hr
   simp only [cond_true] at this
   simp [execOp,resolve,invoke,builtin,Builtin.max_,evs_array hf hargs,this]
  ·cases h
end Go.Sw
