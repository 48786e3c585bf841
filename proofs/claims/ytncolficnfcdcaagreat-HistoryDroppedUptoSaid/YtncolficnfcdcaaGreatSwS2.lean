import Derived.Test.YtncolficnfcdcaaGreatSwS1
import Derived.Laws.StructEq
set_option linter.unusedSimpArgs false
set_option linter.unusedVariables false
namespace Go.Sw
theorem cellsOf_sound {P:Program} {t:TypeId} {v:Value} {c:Bool} {vs:List Value} (h:cellsOf P t v=some (c,vs)) (hc:c=true) :
  ∃ i,P.info? t=some i∧v.cells=vs.toArray∧vs.length=i.size:=by
 unfold cellsOf at h
 split at h
 ·rename_i i hi
  split at h
  ·split at h
   ·rename_i cs
    cases hb:Nat.beq cs.toList.length i.size
    ·simp only [hb,cond_false] at h; cases h
    ·simp only [hb,cond_true,Option.some.injEq,Prod.mk.injEq] at h
     obtain ⟨-, rfl⟩:=h
     exact ⟨i,hi,by simp [Value.cells],nbeq_iff.1 hb⟩
   ·cases h
  ·cases hb:Nat.beq i.size 1
   ·simp only [hb,cond_false] at h; cases h
   ·simp only [hb,cond_true,Option.some.injEq,Prod.mk.injEq] at h
    obtain ⟨h1,rfl⟩:=h
    rw [hc] at h1
    refine ⟨i,hi,?_,by simpa using (nbeq_iff.1 hb).symm⟩
    cases v <;> simp [flatB,flat] at h1 <;> rfl
  ·cases h
 ·cases h
def OptV:Option Value→Option Int→Prop
 | none,none=>True
 | some v,some n=>∃ k,v = .int k n
 | _,_=>False
theorem optInt_sound {f:Fr} {a:Act} (hf:FrOk f a) {x:Option Operand} {r:Option Int} (h:optInt f x=some r):OptV (x.map a.eval) r:=by
 cases x with
 | none=>simp [optInt] at h; subst h; trivial
 | some o=>
  simp only [optInt] at h
  split at h
  ·rename_i k n he
   obtain rfl:=Option.some.inj h
   exact ⟨k,ev_sound hf he⟩
  ·cases h
section
variable {P:Program} {w:World}
theorem sliceBound_ok {k:IntKind} {n:Int} {y:Nat} (code:BoundsCode) (h:leB n y=true):(Instr.sliceBound (.int k n) y code).run P w = .ok n.toNat w:=by
 have:=leB_iff.1 h
 simp [Instr.sliceBound,asIntOf,this]
theorem bounds_sound (isSlice:Bool) {len cap:Nat} {lo hi mx:Option Value} {lo' hi' mx':Option Int} (h1:OptV lo lo') (h2:OptV hi hi') (h3:OptV mx mx')
  {c:Bool} {l h m:Nat} (hb:bounds len cap lo' hi' mx'=some (c,l,h,m)) (hc:c=true) :
  (Instr.sliceBounds isSlice len cap lo hi mx).run P w = .ok (l,h,m) w:=by
 subst hc
 cases mx <;> cases mx' <;> simp only [OptV] at h3
 ·cases hi <;> cases hi' <;> simp only [OptV] at h2
  ·cases lo <;> cases lo' <;> simp only [OptV] at h1
   ·simp only [bounds,Option.some.injEq,Prod.mk.injEq] at hb
    obtain ⟨-, rfl,rfl,rfl⟩:=hb
    simp [Instr.sliceBounds]
   ·obtain ⟨k,rfl⟩:=h1
    simp only [bounds,toN,Option.some.injEq,Prod.mk.injEq] at hb
    obtain ⟨hl,rfl,rfl,rfl⟩:=hb
    simp [Instr.sliceBounds,sliceBound_ok _ hl]
  ·obtain ⟨k2,rfl⟩:=h2
   cases lo <;> cases lo' <;> simp only [OptV] at h1
   ·simp only [bounds,toN,Option.some.injEq,Prod.mk.injEq] at hb
    obtain ⟨hl,rfl,rfl,rfl⟩:=hb
    simp [Instr.sliceBounds,sliceBound_ok _ hl]
   ·obtain ⟨k,rfl⟩:=h1
    simp only [bounds,andB,toN,Option.some.injEq,Prod.mk.injEq,Bool.and_eq_true] at hb
    obtain ⟨⟨hl,hl'⟩,rfl,rfl,rfl⟩:=hb
    simp [Instr.sliceBounds,sliceBound_ok _ hl,sliceBound_ok _ hl']
 ·obtain ⟨k3,rfl⟩:=h3
  cases hi <;> cases hi' <;> simp only [OptV] at h2
  ·simp [bounds] at hb
  ·obtain ⟨k2,rfl⟩:=h2
   cases lo <;> cases lo' <;> simp only [OptV] at h1
   ·simp only [bounds,andB,toN,Option.some.injEq,Prod.mk.injEq,Bool.and_eq_true] at hb
    obtain ⟨⟨hl,hl'⟩,rfl,rfl,rfl⟩:=hb
    simp [Instr.sliceBounds,sliceBound_ok _ hl,sliceBound_ok _ hl']
   ·obtain ⟨k,rfl⟩:=h1
    simp only [bounds,andB,toN,Option.some.injEq,Prod.mk.injEq,Bool.and_eq_true] at hb
    obtain ⟨⟨hl,hl',hl''⟩,rfl,rfl,rfl⟩:=hb
    simp [Instr.sliceBounds,sliceBound_ok _ hl,sliceBound_ok _ hl',sliceBound_ok _ hl'']
theorem run_part {t:TypeId} {cs:Array Value} {off:Nat} {v:Value} (h:partV P t cs off=some v):(part t cs off).run P w = .ok v w:=by
 unfold partV at h
 split at h
 ·rename_i i hi
  split at h
  ·rename_i hd
   obtain rfl:=Option.some.inj h
   have:(isAgg t).run P w = .ok true w:=by
    cases hu:P.underlying t <;> simp only [hu,aggD] at hd
    ·cases hd
    ·rename_i d
     simp only [isAgg,Sem.run_bind,run_und hu,Result.andThen_ok]
     cases d <;> first | rfl | (simp [aggD] at hd)
   simp [part,this,run_size hi]
  ·rename_i hd
   have:(isAgg t).run P w = .ok false w:=by
    cases hu:P.underlying t <;> simp only [hu,aggD] at hd
    ·cases hd
    ·rename_i d
     simp only [isAgg,Sem.run_bind,run_und hu,Result.andThen_ok]
     cases d <;> first | rfl | (simp [aggD] at hd)
   simp [part,this,h]
  ·cases h
 ·cases h
theorem splice_list (vs:List Value):∀ (off k:Nat) (cs:List Value),off+k+vs.length≤cs.length →
  (vs.zipIdx k).foldl (fun cs (p:Value×Nat)=>cs.set (off+p.2) p.1) cs=cs.take (off+k)++vs++cs.drop (off+k+vs.length):=by
 induction vs with
 | nil=>intro off k cs h; simp
 | cons v vs ih=>
  intro off k cs h
  simp only [List.zipIdx_cons,List.foldl_cons]
  rw [ih off (k+1) (cs.set (off+k) v) (by simp at h ⊢; omega)]
  have h1:off+k<cs.length:=by simp at h; omega
  have e1:(cs.set (off+k) v).take (off+(k+1))=cs.take (off+k)++[v]:=by
   rw [← Nat.add_assoc,List.take_succ_eq_append_getElem (by simpa using h1)]
   simp [List.take_set_of_le]
  have e2:(cs.set (off+k) v).drop (off+(k+1)+vs.length)=cs.drop (off+k+(v::vs).length):=by
   rw [List.drop_set_of_lt (by omega)]
   simp only [List.length_cons]
   congr 1
   omega
  rw [e1,e2]
  simp
theorem splice_array (vs cs:Array Value) (off:Nat) (h:off+vs.size≤cs.size) :
  vs.zipIdx.foldl (fun cs (p:Value×Nat)=>cs.setIfInBounds (off+p.2) p.1) cs=(cs.toList.take off++vs.toList++cs.toList.drop (off+vs.size)).toArray:=by
 have key:∀ (l:List (Value×Nat)) (cs:Array Value),(l.foldl (fun cs p=>cs.setIfInBounds (off+p.2) p.1) cs).toList=l.foldl (fun cs (p:Value×Nat)=>cs.set (off+p.2) p.1) cs.toList:=by
  intro l
  induction l with
  | nil=>intro cs; rfl
  | cons p l ih=>intro cs; simp [ih]
 apply Array.toList_inj.1
 rw [← Array.foldl_toList,key,Array.toList_zipIdx]
 have:=splice_list vs.toList off 0 cs.toList (by simpa using h)
 simpa using this
theorem fillL_sound {place:Nat→Option (Nat×TypeId)} {place':Nat→Option (Nat×Nat)}
  (hp:∀ i off t ti,place i=some (off,t)→P.info? t=some ti→place' i=some (off,ti.size)) :
  ∀ {parts:List (Nat×Value)} {c0:Bool} {cells:List Value} {c:Bool} {r:List Value},fillL P place parts c0 cells=some (c,r)→c=true →
   c0=true∧Instr.fill place' cells.toArray parts=some r.toArray:=by
 intro parts
 induction parts with
 | nil=>intro c0 cells c r h hc; simp [fillL] at h; obtain ⟨rfl,rfl⟩:=h; exact ⟨hc,rfl⟩
 | cons p parts ih=>
  intro c0 cells c r h hc
  obtain ⟨i,v⟩:=p
  simp only [fillL] at h
  split at h
  ·cases h
  ·rename_i off t hpl
   split at h
   ·cases h
   ·rename_i c' vs hv
    cases hb:Nat.ble (off+vs.length) cells.length
    ·simp [hb] at h
    ·simp only [hb,cond_true] at h
     obtain ⟨h1,h2⟩:=ih h hc
     simp only [andB,Bool.and_eq_true] at h1
     obtain ⟨ti,hti,hvc,hl⟩:=cellsOf_sound hv h1.2
     have hle:off+vs.length≤cells.length:=Nat.le_of_ble_eq_true hb
     refine ⟨h1.1,?_⟩
     simp only [Instr.fill,hp i off t ti hpl hti,hvc]
     have e:(vs.toArray.size≠ti.size || off+vs.toArray.size > cells.toArray.size)=false:=by
      simp [hl]; omega
     simp only [e]
     rw [splice_array _ _ _ (by simpa using hle)]
     simpa using h2
theorem zipOps_sound {f:Fr} {a:Act} (hf:FrOk f a):∀ {ps:List (Nat×Operand)} {vs:List (Nat×Value)},zipOps f ps=some vs→ps.map (fun p=>(p.1,a.eval p.2))=vs:=by
 intro ps
 induction ps with
 | nil=>intro vs h; simp [zipOps] at h; simp [h]
 | cons p ps ih=>
  intro vs h
  obtain ⟨i,x⟩:=p
  simp only [zipOps] at h
  split at h
  ·rename_i v vs' h1 h2
   obtain rfl:=Option.some.inj h
   simp [ev_sound hf h1,ih h2]
  ·cases h
theorem zeroOf_sound {t:TypeId} {z:List Value} (h:zeroOf P t=some z):∃ v,(zeroValue t).run P w = .ok v w∧v.cells=z.toArray:=by
 unfold zeroOf at h
 split at h
 ·rename_i i hi
  split at h
  ·rename_i cs hz
   obtain rfl:=Option.some.inj h
   exact ⟨.agg cs,by simp [zeroValue,run_info hi,hz],by simp [Value.cells]⟩
  ·rename_i v hv hz
   obtain rfl:=Option.some.inj h
   refine ⟨v,by simp [zeroValue,run_info hi,hz],?_⟩
   cases v <;> first | rfl | exact absurd rfl (hv _)
  ·cases h
 ·cases h
theorem minV_sound (mx:Bool):∀ {vs:List Value} {v r:Value},minV mx v vs=some r→(vs.foldlM (bif mx then Builtin.max2 else Builtin.min2) v).run P w = .ok r w:=by
 intro vs
 induction vs with
 | nil=>intro v r h; simp [minV] at h; simp [h]
 | cons x vs ih=>
  intro v r h
  unfold minV at h
  split at h
  ·rename_i heq; cases heq
  ·rename_i k a k' b r' heq
   obtain ⟨rfl,rfl⟩:=List.cons.inj heq
   cases hk:kindBeq k k'
   ·simp [hk] at h
   ·simp only [hk,cond_true] at h
    obtain rfl:=kindBeq_iff.1 hk
    have:=ih h
    cases mx
    ·simpa [List.foldlM_cons,Builtin.min2,minI] using this
    ·simpa [List.foldlM_cons,Builtin.max2,maxI] using this
  ·cases h
end
section
variable {P:Program} {w:World}
theorem cellEq_sound {t:TypeId} {a b:Value} {c:Bool} (h:cellEq P t a b=some c) (d:Nat):(Op.equalIn (d+1) t a b).run P w = .ok c w:=by
 unfold cellEq at h
 split at h
 ·rename_i k0 k a k' b hu
  cases hk:kindBeq k k'
  ·simp only [hk,cond_false] at h; cases h
  ·simp only [hk,cond_true,Option.some.injEq] at h
   obtain rfl:=kindBeq_iff.1 hk
   subst h
   simp [Op.equalIn,run_und hu,eqI]
 ·rename_i a b hu
  obtain rfl:=Option.some.inj h
  simp [Op.equalIn,run_und hu,eqS,beq_toListBytes]
 ·rename_i a b hu
  obtain rfl:=Option.some.inj h
  simp [Op.equalIn,run_und hu,eqB]
 ·cases h
theorem fieldsEq_sound {xs ys:Array Value} (d:Nat):∀ {fs:List Field} {c:Bool},fieldsEq P xs ys fs=some c→(Op.eqFields (d+1) xs ys fs).run P w = .ok c w:=by
 intro fs
 induction fs with
 | nil=>intro c h; obtain rfl:=Option.some.inj h; simp [Op.eqFields]
 | cons f fs ih=>
  intro c h
  simp only [fieldsEq] at h
  cases hn:f.name == "_"
  ·simp only [hn,cond_false] at h
   have hne:f.name ≠ "_" := by simpa using hn
   split at h
   ·rename_i a b ha hb
    split at h
    ·rename_i c' r hc hr
     have h1:=run_part (w:=w) ha
     have h2:=run_part (w:=w) hb
     have h3:=cellEq_sound (w:=w) hc d
     have h4:=ih hr
     simp only [Op.eqFields,hne,ne_eq,not_false_eq_true,if_true,Sem.run_bind,h1,h2,h3,Result.andThen_ok]
     split at h
     ·obtain rfl:=Option.some.inj h
      obtain rfl:=Option.some.inj hr
      cases c' <;> simp [Op.eqFields]
     ·obtain rfl:=Option.some.inj h
      cases c' <;> simp [andB,h4]
    ·cases h
   ·cases h
  ·simp only [hn,cond_true] at h; cases h
theorem pairEq_sound {e:TypeId} {xs ys:Array Value} {c:Bool} (d:Nat) (t:TypeId) (ht:P.underlying t=some (.array 2 e)) (h:pairEq P e xs ys=some c):(Op.equalIn (d+2) t (.agg xs) (.agg ys)).run P w = .ok c w:=by
 unfold pairEq at h
 split at h
 ·rename_i i hi
  split at h
  ·rename_i a b a' b' h1 h2 h3 h4
   split at h
   ·rename_i x y hx hy
    obtain rfl:=Option.some.inj h
    have q1:=run_part (w:=w) h1
    have q2:=run_part (w:=w) h2
    have q3:=run_part (w:=w) h3
    have q4:=run_part (w:=w) h4
    have q5:=cellEq_sound (w:=w) hx d
    have q6:=cellEq_sound (w:=w) hy d
    rw [Op.equalIn]
    simp only [Sem.run_bind,run_und ht,Result.andThen_ok,run_size hi]
    simp only [Std.Legacy.Range.forIn_eq_forIn_range',Std.Legacy.Range.size]
    have hr:List.range' 0 ((2-0+1-1) / 1) 1=[0,1]:=rfl
    rw [hr]
    have q1:(part e xs (0*i.size)).run P w = .ok a w:=q1
    have q2:(part e ys (0*i.size)).run P w = .ok b w:=q2
    have q3:(part e xs (1*i.size)).run P w = .ok a' w:=q3
    have q4:(part e ys (1*i.size)).run P w = .ok b' w:=q4
    simp only [List.forIn_cons,List.forIn_nil,Sem.run_bind,q1,q2,q5,Result.andThen_ok]
    cases x
    ·simp [andB]
    ·simp only [Bool.not_true,Bool.false_eq_true,if_false,Sem.run_pure,Result.andThen_ok,q3,q4,q6,Sem.run_bind]
     cases y <;> simp [andB]
   ·cases h
  ·cases h
 ·cases h
theorem structEq_sound {op:BinOp} {t:TypeId} {x y:Operand} {xs ys:Array Value} {v:Value} (h:structEq P op t xs ys=some v) :
  (do eqGuard op t x y (.agg xs) (.agg ys); binOp op t (.agg xs) (.agg ys):Sem Value).run P w = .ok v w:=by
 unfold structEq at h
 split at h
 ·rename_i n e hu
  cases hg:(!Nat.beq n 2 || P.eqGuardType P.depth t)
  ·simp only [hg,cond_false] at h
   obtain ⟨g1,g2⟩:=Bool.or_eq_false_iff.1 hg
   have hn:n=2:=Nat.eq_of_beq_eq_true (by simpa using g1)
   subst hn
   split at h
   ·rename_i c hc
    have he':(Op.equalIn 10000 t (.agg xs) (.agg ys)).run P w = .ok c w:=pairEq_sound 9998 t hu hc
    simp only [Sem.run_bind,run_eqGuard_agg w op t x y xs ys g2,Result.andThen_ok]
    rcases eqRes_sound h with ⟨rfl,rfl⟩ | ⟨rfl,rfl⟩
    ·rw [run_eql_struct,he']; rfl
    ·rw [run_neq_struct,he']; rfl
   ·cases h
  ·simp only [hg,cond_true] at h; cases h
 ·rename_i fs hu
  cases hg:(P.stoodInHeld t || P.eqGuardType P.depth t)
  ·simp only [hg,cond_false] at h
   obtain ⟨g1,g2⟩:=Bool.or_eq_false_iff.1 hg
   split at h
   ·rename_i c hc
    have hf:P.fieldsOf t=fs:=by unfold Program.fieldsOf; rw [hu]
    have he:∀ d,(Op.equalIn (d+2) t (.agg xs) (.agg ys)).run P w = .ok c w:=fun d=>by
     rw [run_equalIn_struct w (d+1) t xs ys (by rw [hf]; exact hu) g1,hf]
     exact fieldsEq_sound d hc
    have he':(Op.equalIn 10000 t (.agg xs) (.agg ys)).run P w = .ok c w:=he 9998
    simp only [Sem.run_bind,run_eqGuard_agg w op t x y xs ys g2,Result.andThen_ok]
    rcases eqRes_sound h with ⟨rfl,rfl⟩ | ⟨rfl,rfl⟩
    ·rw [run_eql_struct,he']; rfl
    ·rw [run_neq_struct,he']; rfl
   ·cases h
  ·simp only [hg,cond_true] at h; cases h
 ·cases h
end
end Go.Sw
