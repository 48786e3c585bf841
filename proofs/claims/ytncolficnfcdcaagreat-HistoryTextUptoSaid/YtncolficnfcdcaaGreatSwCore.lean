
/- Steps. -/
import Derived.Orders
import Derived.Laws.Sem
import Derived.Laws.World
import Derived.KernelRfl
import Derived.RangeFuncLeaves
import Derived.RangeFuncRecord
set_option linter.unusedVariables false
set_option linter.unusedSimpArgs false
namespace Go.Sw
abbrev bL:=@Nat.le_refl
abbrev bM:=@List.length_append
abbrev cD:=@List.length_map
abbrev cM:=@List.getElem?_eq_getElem
abbrev cS:=@Nat.zero_le
abbrev dE:=@List.mem_singleton
abbrev dI:=@Nat.le_trans
abbrev dJ:=@List.length_take
abbrev eJ:=@List.mem_cons
abbrev eK:=@List.getElem?_eq_some_iff
abbrev cN:=@Int.toNat_natCast
abbrev cX:=@List.mem_cons_self
abbrev cZ:=@List.length_drop
abbrev dC:=@List.mem_map
abbrev dD:=@List.mem_append
abbrev dL:=@List.map_append
abbrev dW:=@Option.some.inj
abbrev dZ:=@List.mem_cons_of_mem
abbrev eC:=@List.append_assoc
abbrev eG:=@List.take_add_one
abbrev eL:=@List.mem_of_getElem?
abbrev eX:=@List.take_append_drop
abbrev fA:=@List.take_length
abbrev fF:=@List.length_cons
abbrev fK:=@List.map_cons
abbrev fO:=@Nat.le_of_ble_eq_true
abbrev fW:=@Option.some.injEq
abbrev fX:=@List.getElem?_map
abbrev fY:=@List.flatMap_cons
abbrev gE:=@Bool.false_eq_true
abbrev gF:=@List.getD_eq_getElem?_getD
abbrev gK:=@List.drop_eq_getElem_cons
abbrev hP:=@Bool.and_eq_true
abbrev hQ:=@List.flatMap_append
abbrev iF:=@List.take_of_length_le
abbrev jB:=@Prod.mk.inj
abbrev jK:=@List.getElem?_append_right
abbrev jX:=@List.append_nil
abbrev lU:=@List.not_mem_nil
abbrev lV:=@List.getElem?_append_left
abbrev mK:=@Option.map_eq_some_iff
abbrev nJ:=@Int.le_refl
abbrev oL:=@Prod.mk.injEq
abbrev oM:=@List.mem_append_left
abbrev pI:=@Nat.lt_of_lt_of_le
abbrev pZ:=@List.mem_append_right
abbrev rG:=@List.mem_of_mem_take
abbrev rH:=@Nat.le_of_lt
abbrev sL:=@List.map_map
abbrev tY:=@List.drop_of_length_le
abbrev tZ:=@Nat.sub_self
abbrev wF:=@List.mem_map_of_mem
abbrev wG:=@List.mem_filter
abbrev xR:=@Array.toList_inj
abbrev xS:=@List.set_cons_zero
abbrev zX:=@Array.getElem?_setIfInBounds_ne
abbrev zY:=@Array.getElem?_eq_some_iff
abbrev zZ:=@List.take_append_of_le_length
abbrev Aa:=@List.eq_nil_of_length_eq_zero
abbrev Bg:=@Nat.add_assoc
abbrev Bh:=@List.pairwise_cons
abbrev Bi:=@List.mem_of_mem_drop
abbrev Bj:=@Nat.add_sub_cancel_left
abbrev Bl:=@List.set_append_right
abbrev Ci:=@Option.isSome_iff_exists
abbrev Cj:=@List.foldl_cons
abbrev Ck:=@Bool.or_eq_false_iff
abbrev Cl:=@List.nodup_cons
abbrev Cn:=@Bool.not_eq_true'
abbrev Co:=@Nat.add_mul
abbrev Cp:=@List.getElem_mem
abbrev Cq:=@List.length_singleton
abbrev DM:=@Nat.eq_of_beq_eq_true
abbrev DN:=@List.cons_append
abbrev DO:=@List.getElem?_drop
abbrev DP:=@List.map_take
abbrev DQ:=@List.sum_cons
abbrev DR:=@List.drop_zero
abbrev DS:=@Nat.le_add_right
abbrev FB:=@Nat.succ_mul
abbrev FC:=@Nat.add_comm
abbrev FD:=@List.all_eq_true
abbrev FE:=@Array.getElem?_push_size
abbrev FF:=@Nat.add_zero
abbrev FH:=@Int.eq_ofNat_of_zero_le
abbrev FI:=@List.drop_drop
abbrev FJ:=@List.length_set
abbrev FK:=@Nat.min_eq_left
abbrev FL:=@List.drop_length
abbrev FM:=@Nat.le_succ_of_le
abbrev Hy:=@List.getElem?_take
abbrev Hz:=@Nat.mul_one
abbrev HA:=@Option.toList_some
abbrev HB:=@Nat.lt_irrefl
abbrev J7:=@List.cons.inj
abbrev Ka:=@Array.getElem?_eq_none
abbrev Kb:=@Nat.lt_succ_self
abbrev Kc:=@List.nil_append
abbrev Kd:=@List.mem_flatMap
abbrev Ke:=@List.foldl_append
abbrev Gg:=@Nat.le_succ
abbrev Jf:=@List.singleton_sublist
abbrev Jg:=@List.any_eq_true
abbrev Jh:=@Bool.or_eq_true
abbrev Ji:=@List.mem_range
abbrev Jj:=@Option.map_some
abbrev Jk:=@List.nodup_nil
abbrev Jl:=@Nat.mul_le_mul_right
abbrev Jm:=@Nat.zero_add
abbrev Jn:=@List.replicate_succ
abbrev Jo:=@List.take_succ_cons
abbrev Jp:=@List.take_append
abbrev Jq:=@List.cons.injEq
abbrev Jr:=@List.take_take
abbrev Js:=@List.map_congr_left
abbrev Jt:=@List.length_replicate
abbrev Ju:=@List.concat_eq_append
abbrev LH:=@List.mapM_cons
abbrev LI:=@Array.mem_filter
abbrev LJ:=@List.sublist_cons_self
abbrev LK:=@List.range_succ
abbrev LL:=@Nat.sub_zero
abbrev LM:=@Nat.pow_le_pow_right
abbrev LN:=@Int.natCast_nonneg
abbrev LO:=@List.map_drop
abbrev LP:=@List.nodup_append
abbrev LQ:=@Int.cast_ofNat_Int
abbrev LR:=@List.drop_take
abbrev LS:=@List.length_nil
abbrev LU:=@Nat.pow_succ
abbrev LV:=@List.drop_left'
abbrev LW:=@List.any_append
abbrev LX:=@List.any_map
abbrev LY:=@List.eq_nil_or_concat
abbrev LZ:=@List.pairwise_append
abbrev L2:=@List.length_reverse
abbrev L3:=@List.length_flatMap
abbrev Q3:=@Nat.mod_eq_of_lt
abbrev Q4:=@List.length_eq_zero_iff
abbrev Q5:=@Array.all_eq_true_iff_forall_mem
abbrev Q6:=@List.mem_toArray
abbrev Q7:=@Array.getElem?_eq_getElem
abbrev Q8:=@List.filter_cons
abbrev Q9:=@List.Perm.eq_nil
abbrev Ra:=@List.Sublist.cons_cons
abbrev Rb:=@List.idxOf_cons
abbrev Rc:=@List.of_mem_zip
abbrev Re:=@Array.length_toList
abbrev Rf:=@List.size_toArray
abbrev Rg:=@Array.getElem?_modify
abbrev Rh:=@List.getElem?_append
abbrev Ri:=@List.getElem?_toArray
abbrev Rj:=@Int.natCast_emod
abbrev Rk:=@List.mem_or_eq_of_mem_set
abbrev Rl:=@Nat.lt_of_le_of_lt
abbrev Rm:=@List.getElem?_set_ne
abbrev Rn:=@List.getD_cons_zero
abbrev Ro:=@List.getElem?_eq_none
abbrev Rp:=@List.take_left'
abbrev Rq:=@List.drop_append
abbrev Rr:=@List.drop_append_of_le_length
abbrev Rt:=@List.getElem?_cons_succ
abbrev Ru:=@List.take_zero
abbrev Rv:=@List.drop_eq_nil_iff
abbrev Rw:=@List.mem_replicate
abbrev Rx:=@List.map_singleton
abbrev Ry:=@List.pairwise_singleton
abbrev Rz:=@List.filter_eq_self
abbrev RA:=@List.filter_cons_of_pos
abbrev V0:=@Array.mapM_eq_mapM_toList
abbrev V1:=@List.perm_ext_iff_of_nodup
abbrev V2:=@Array.getElem?_setIfInBounds
abbrev V3:=@Nat.and_two_pow_sub_one_eq_mod
abbrev V4:=@Nat.two_pow_add_eq_or_of_lt
abbrev V5:=@Int.tdiv_eq_ediv_of_nonneg
abbrev V6:=@Array.getElem?_setIfInBounds_self
abbrev V7:=@List.getElem?_eq_none_iff
section
abbrev aE:=Array Obj
def cell(h:aE)(a:Addr):Option Value:=
  match h[a.block]? with
  |some (.cells c _ _)=>if a.spot.isSome then none else c[a.off]?
  |_=>none
def Ix(h:aE)(a:Addr):Bool:=
  match h[a.block]? with
  |some (.cells _ _ (lo,hi))=>lo<=a.off && a.off<hi
  |_=>false
def setCell(h:aE)(a:Addr)(v:Value):aE:=
  h.modify a.block fun
    |.cells c elem frozen=>.cells (if a.spot.isSome then c else c.setIfInBounds a.off v) elem frozen
    |o=>o
theorem YC(w:World)(a:Addr):w.frozen? a=Ix w.heap a:=rfl
def flat:Value->Bool
  |.agg _|.tuple _=>false
  |_=>true
theorem PZ(v:Value):flat v=v.oneCell':=by cases v<;>rfl
def AF(h:aE)(a:Addr):Nat->List Value->Prop
  |_,[]=>True
  |i,v::vs=>cell h (a.add i)=some v/\AF h a (i+1) vs
def Cells(h:aE)(a:Addr)(vs:List Value):Prop:=AF h a 0 vs
def nA(h:aE)(a:Addr):Nat->List Value->Prop
  |_,[]=>True
  |i,v::vs=>((∃u,cell h (a.add i)=some u)/\Ix h (a.add i)=false/\flat v=true)/\nA h a (i+1) vs
def nR(h:aE)(a:Addr):Nat->List Value->aE
  |_,[]=>h
  |i,v::vs=>nR (setCell h (a.add i) v) a (i+1) vs
def Mc(h:aE)(a:Addr)(vs:List Value):Prop:=nA h a 0 vs
def nO(h:aE)(a:Addr)(vs:List Value):aE:=nR h a 0 vs
structure Env(w w':World):Prop where
  os:w'.os=w.os
  tape:w'.tape=w.tape
  output:w'.output=w.output
theorem Env.refl(w:World):Env w w:=⟨rfl,rfl,rfl⟩
theorem Env.trans{a b c:World}(h:Env a b)(k:Env b c):Env a c:=⟨k.os.trans h.os,k.tape.trans h.tape,k.output.trans h.output⟩
inductive B where
  |int (k:IntKind)
  |bool
  |str
  |sl
  |ptr
  |map
  |Xy (k:FloatKind)
  |any
structure Sl where
  aD:Option Addr
  len:Nat
  cap:Nat
@[reducible] def B.den:B->Type
  |.int _=>Int
  |.bool=>Bool
  |.str=>ByteArray
  |.sl=>Sl
  |.ptr=>Option Addr
  |.map=>Option Nat
  |.Xy _=>Nat
  |.any=>Value
def B.inj:(b:B)->b.den->Value
  |.int k,n=>.int k n
  |.bool,x=>.bool x
  |.str,s=>.string s
  |.sl,x=>.slice x.aD x.len x.cap
  |.ptr,p=>.pointer p
  |.map,r=>.map r
  |.Xy k,n=>.float k n
  |.any,v=>v
@[reducible] def Bs.den:List B->Type
  |[]=>Unit
  |b::bs=>b.den×Bs.den bs
def Bs.inj:(bs:List B)->Bs.den bs->List Value
  |[],_=>[]
  |b::bs,x=>b.inj x.1::Bs.inj bs x.2
inductive Ty where
  |one (b:B)
  |agg (bs:List B)
@[reducible] def Ty.den:Ty->Type
  |.one b=>b.den
  |.agg bs=>Bs.den bs
def Ty.cells:(t:Ty)->t.den->List Value
  |.one b,x=>[b.inj x]
  |.agg bs,x=>Bs.inj bs x
def Ty.inj:(t:Ty)->t.den->Value
  |.one b,x=>b.inj x
  |.agg bs,x=>.agg (Bs.inj bs x).toArray
@[reducible] def Ts.den:List Ty->Type
  |[]=>Unit
  |t::ts=>t.den×Ts.den ts
def Ts.inj:(ts:List Ty)->Ts.den ts->List Value
  |[],_=>[]
  |t::ts,x=>t.inj x.1::Ts.inj ts x.2
def Bb:List Value->Value
  |[v]=>v
  |vs=>.tuple vs.toArray
inductive aK where
  |ret (tag:Nat) (vs:List Value)
  |fail
  |assert (c:Prop) (K:aK)
  |load (t:Ty) (p:Option Addr) (K:t.den->aK)
  |store (p:Option Addr) (vs:List Value) (K:aK)
  |alloc (vs:List Value) (K:Addr->aK)
  |mk (bytes:Nat) (zero:List Value) (len cap:Int) (K:Sl->aK)
  |append (size bytes:Nat) (zero:List Value) (s x:Sl) (K:Sl->aK)
  |copy (size:Nat) (d s:Sl) (K:Nat->aK)
  |call (m:aK) (tys:List Ty) (K:Ts.den tys->aK)
  |invoke (c:Value) (name:String) (args:List Value) (tys:List Ty) (K:Ts.den tys->aK)
  |kO (f:Value) (args:List Value) (tys:List Ty) (K:Ts.den tys->aK)
  |bind (m:aK) (K:Nat->List Value->aK)
  |cast (tys:List Ty) (vs:List Value) (K:Ts.den tys->aK)
  |loop (tys:List Ty) (s:Ts.den tys) (body:Ts.den tys->aK)
  |check (p:Option Addr) (vs:List Value) (K:aK)
  |bytes (x:Sl) (K:ByteArray->aK)
  |S0 (x:Value) (K:aK)
  |Xy (r:Option Nat) (K:Nat->aK)
  |xd (s:Sem Value) (K:Value->aK)
  |both (a b:aK)
  |ex (K:Nat->aK)
  |pj (p q:Option Addr) (K:Bool->aK)
  |range (f:Value) (tys outs:List Ty) (asg:Ts.den tys->aK) (body:Ts.den outs->aK) (K:Nat->aK)
  |O3 (K:Nat->aK)
  |YV (r:Option Nat) (k:Int) (K:Int->Bool->aK)
  |QG (r:Option Nat) (k v:Int) (K:aK)
  |dv (r:Option Nat) (K:Nat->aK)
  |KP (r:Option Nat) (K:Addr->aK)
  |KR (it:Option Addr) (K:Int->Int->aK) (K0:aK)
  |Fl (it:Option Addr) (K:Int->Int->aK)
  |clear (zero:List Value) (s:Sl) (K:aK)
  |JB (i:FuncId) (args:List Value) (K:aK)
abbrev fR:=List (Int×Int×Nat)
def AW(e:Int×Int×Nat):MapEntry:=⟨.int .i64 e.1, .int .i64 e.2.1,e.2.2⟩
def mU(l:fR)(c:Nat):Obj:=.map (l.map AW).toArray c
def iX(k:Int):fR->Option Int
  |[]=>none
  |e::l=>if e.1=k then some e.2.1 else iX k l
def Fm(k v:Int):fR->fR
  |[]=>[]
  |e::l=>if e.1=k then (k,v,e.2.2)::l else e::Fm k v l
def IM(k v:Int)(l:fR)(c:Nat):Obj:=
  match iX k l with
  |some _=>mU (Fm k v l) c
  |none=>mU (l++[(k,v,c)]) (c+1)
def U3(h:aE)(r:Option Nat)(l:fR):Prop:=
  match r with
  |none=>l=[]
  |some m=>∃c,h[m]?=some (mU l c)
def QE(it:Option Addr)(h:aE)(K:Int->Int->aE->Prop)(K0:aE->Prop):Prop:=
  ∃i m since seen last l c,it=some ⟨i,0,none⟩/\h[i]?=some (.mapIter (some m) since seen last)/\h[m]?=some (mU l c) /\
    (seen = #[]\/l=[]\/∃e∈l,e.2.2<last) /\
    (∀e∈l,seen.contains e.2.2=false->K e.1 e.2.1 (h.setIfInBounds i (.mapIter (some m) since (seen.push e.2.2) c))) /\
    ((∀e∈l,seen.contains e.2.2=false->since<=e.2.2)->K0 h)
def TD(P:Program)(f:FuncId)(args:List Value)(h:aE)(Q:List Value->aE->Prop):Prop:=
  ∀w:World,w.heap=h->Calls P f args.toArray w λe w'=>∃vs,e = .returned (Bb vs)/\Env w w'/\Q vs w'.heap
def Cv(P:Program)(c:Value)(name:String)(args:List Value)(h:aE)(Q:List Value->aE->Prop):Prop:=
  ∀w:World,w.heap=h->∃f as,(callMethod c name args.toArray).run P w = .ok (.enter f as) w /\
    Calls P f as w λe w'=>∃vs,e = .returned (Bb vs)/\Env w w'/\Q vs w'.heap
def NZ(P:Program)(f:Value)(args:List Value)(h:aE)(Q:List Value->aE->Prop):Prop:=
  ∀w:World,w.heap=h->∃d g as,(Deferred.ofValue f args.toArray).run P w = .ok d w/\(invoke d.target d.args).run P w = .ok (.enter g as) w /\
    Calls P g as w λe w'=>∃vs,e = .returned (Bb vs)/\Env w w'/\Q vs w'.heap
def N0(P:Program)(f:Value)(args:List Value)(h:aE)(Q:List Value->aE->Prop):Prop:=
  ∀w:World,w.heap=h->∃d,(Deferred.ofValue f args.toArray).run P w = .ok d w /\
    ((∃g as,(invoke d.target d.args).run P w = .ok (.enter g as) w/\Calls P g as w λe w'=>∃vs,e = .returned (Bb vs)/\Env w w'/\Q vs w'.heap) \/
     (∃l fn tmps assign body,(invoke d.target d.args).run P w = .ok (.round l fn tmps assign body) w /\
        RoundIn Fence.wide 0 P l fn tmps assign body w λe w'=>∃vs,e = .returned (Bb vs)/\Env w w'/\Q vs w'.heap))
def xT(P:Program)(i:FuncId)(args:List Value)(h:aE)(Q:aE->Prop):Prop:=
  ∀(u:FrameMode) (w:World),w.heap=h->CallsDIn Fence.wide 0 P i args.toArray u w λe u' w'=>u'=u/\∃v,e = .returned v/\Env w w'/\Q w'.heap
theorem xT.mono{P:Program}{i:FuncId}{args:List Value}{h:aE}{Q a:aE->Prop}(c:xT P i args h Q)(d:∀b,Q b->a b):xT P i args h a:=
  λu w hw=>(c u w hw).mono λ_ _ _ ⟨e,v,r,n,q⟩=>⟨e,v,r,n,d _ q⟩
theorem NZ.xt{P:Program}{f:Value}{args:List Value}{h:aE}{Q:List Value->aE->Prop}(e:NZ P f args h Q):N0 P f args h Q:=
  λw hw=>let ⟨d,g,as,a,b,c⟩:=e w hw;⟨d,a, .inl ⟨g,as,b,c⟩⟩
abbrev UZ(l:Nat):Value:=.func (.yield l) #[] #[]
def AZ:Nat->Option Code
  |0=>none
  |1=>some .ret
  |n+2=>some (.exit n)
def zB(r:Loop)(j:Nat):Loop:={r with state:=if (AZ j).isNone then .ready else .done,pending:=AZ j}
def PF(r:Loop):Loop:={r with state:=.busy}
def P4(r:Loop):Loop:={r with state:=.exhausted}
theorem Cv.mono{P:Program}{c:Value}{name:String}{args:List Value}{h:aE}{Q b:List Value->aE->Prop}(g:Cv P c name args h Q)
    (i:∀a d,Q a d->b a d):Cv P c name args h b:=
  λw hw=>let ⟨f,as,r,k⟩:=g w hw;⟨f,as,r,k.mono λ_ _ ⟨a,e,n,q⟩=>⟨a,e,n,i _ _ q⟩⟩
theorem NZ.mono{P:Program}{f:Value}{args:List Value}{h:aE}{Q b:List Value->aE->Prop}(g:NZ P f args h Q)
    (i:∀a c,Q a c->b a c):NZ P f args h b:=
  λw hw=>let ⟨d,f,as,r,s,k⟩:=g w hw;⟨d,f,as,r,s,k.mono λ_ _ ⟨a,e,n,q⟩=>⟨a,e,n,i _ _ q⟩⟩
theorem N0.mono{P:Program}{f:Value}{args:List Value}{h:aE}{Q b:List Value->aE->Prop}(i:N0 P f args h Q)
    (g:∀a c,Q a c->b a c):N0 P f args h b:=λw hw=>by
  obtain⟨d,r,⟨f,as,s,k⟩|⟨l,fn,tmps,assign,body,s,k⟩⟩:=i w hw
  . exact⟨d,r, .inl ⟨f,as,s,k.mono λ_ _ ⟨a,e,n,q⟩=>⟨a,e,n,g _ _ q⟩⟩⟩
  . exact⟨d,r, .inr ⟨l,fn,tmps,assign,body,s,k.mono λ_ _ ⟨a,e,n,q⟩=>⟨a,e,n,g _ _ q⟩⟩⟩
def U4(P:Program)(x:Value):Prop:=
  ∀w:World,(execOp (λ_=>x) {dst:=none,op:=.nilCheck (.tmp 0),type:=0,pos:= "", after:=#[],guard:=none}).run P w = .ok (.value x) w
def wW(h:aE)(p:Option Addr)(k:Nat)(vs:List Value):Prop:=
  match p with
  |none=>vs=[]
  |some a=>vs.length=k/\Cells h a vs
def kW(zero:List Value):Nat->List Value
  |0=>[]
  |n+1=>zero++kW zero n
def HP(size bytes:Nat)(zero:List Value)(s x:Sl)(h:aE)(K:Sl->aE->Prop):Prop:=
  ∃new,wW h x.aD (x.len*size) new /\
    if s.len+x.len<=s.cap then
      match s.aD with
      |none=>K ⟨none,s.len+x.len,s.cap⟩ h
      |some a=>Mc h (a.add (s.len*size)) new/\K ⟨some a,s.len+x.len,s.cap⟩ (nO h (a.add (s.len*size)) new)
    else
      ∃old,wW h s.aD (s.len*size) old/\Builtin.nextslicecap (s.len+x.len) s.cap*bytes<=2^48/\s.len+x.len<2^63 /\
        ∀cap elem,s.len+x.len<=cap->cap<2^63 ->
          K ⟨some ⟨h.size,0,none⟩,s.len+x.len,cap⟩ (h.push (.cells (old++new++kW zero (cap-(s.len+x.len))).toArray elem))
def PN(size:Nat)(d s:Sl)(h:aE)(K:Nat->aE->Prop):Prop:=
  ∃new,wW h s.aD (min s.len d.len*size) new /\
    match d.aD with
    |none=>K (min s.len d.len) h
    |some a=>Mc h a new/\K (min s.len d.len) (nO h a new)
def Lx(h:aE)(a:Addr):Prop:=∃c e,h[a.block]?=some (.cells c e)
def Dm(zero:List Value)(s:Sl)(h:aE)(K:aE->Prop):Prop:=
  match s.aD with
  |none=>K h
  |some a=>Mc h a (kW zero s.len)/\K (nO h a (kW zero s.len))
def Nh(it:Option Addr)(h:aE)(K:Int->Int->Prop):Prop:=
  ∃i m since seen stamp l c,it=some ⟨i,0,none⟩/\h[i]?=some (.mapIter (some m) since (Array.push seen stamp) c)/\h[m]?=some (mU l c) /\
    ∃e,l.find? (λe=>e.2.2 == stamp)=some e/\K e.1 e.2.1
theorem OD{it:Option Addr}{h:aE}{K b:Int->Int->Prop}(p:∀k v,K k v->b k v)(o:Nh it h K):Nh it h b:=by
  obtain⟨i,m,since,seen,a,l,c,d,f,g,e,j,n⟩:=o;exact⟨i,m,since,seen,a,l,c,d,f,g,e,j,p _ _ n⟩
def wp(P:Program):aK->aE->(Nat->List Value->aE->Prop)->Prop
  |.ret tag vs,h,Q=>Q tag vs h
  |.fail,_,_=>False
  |.assert c K,h,Q=>c/\wp P K h Q
  |.load t p K,h,Q=>∃a,p=some a/\∃x,Cells h a (t.cells x)/\wp P (K x) h Q
  |.store p vs K,h,Q=>∃a,p=some a/\Mc h a vs/\wp P K (nO h a vs) Q
  |.alloc vs K,h,Q=>∀elem,wp P (K ⟨h.size,0,none⟩) (h.push (.cells vs.toArray elem)) Q
  | .mk bytes zero len cap K,h,Q=>(0<=len/\len<=cap/\cap<2^63/\bytes*cap<=2^48) /\
      ∀elem,wp P (K ⟨some ⟨h.size,0,none⟩,len.toNat,cap.toNat⟩) (h.push (.cells (kW zero cap.toNat).toArray elem)) Q
  |.append size bytes zero s x K,h,Q=>HP size bytes zero s x h λr h'=>wp P (K r) h' Q
  |.copy size d s K,h,Q=>PN size d s h λn h'=>wp P (K n) h' Q
  |.call m tys K,h,Q=>wp P m h λtag vs h'=>tag=0/\∃x,vs=Ts.inj tys x/\wp P (K x) h' Q
  |.invoke c name args tys K,h,Q=>Cv P c name args h λvs h'=>∃x,vs=Ts.inj tys x/\wp P (K x) h' Q
  |.kO f args tys K,h,Q=>N0 P f args h λvs h'=>∃x,vs=Ts.inj tys x/\wp P (K x) h' Q
  |.bind m K,h,Q=>wp P m h λtag vs h'=>wp P (K tag vs) h' Q
  |.cast tys vs K,h,Q=>∃x,vs=Ts.inj tys x/\wp P (K x) h Q
  |.loop tys s body,h,Q=>∃(I:Ts.den tys->aE->Prop) (μ:Ts.den tys->aE->Nat),I s h/\∀s h,I s h->wp P (body s) h λtag vs h'=>
      (tag=0->∃s',vs=Ts.inj tys s'/\I s' h'/\μ s' h'<μ s h)/\(tag≠0->Q tag vs h')
  |.check p vs K,h,Q=>(∃a,p=some a/\Cells h a vs)/\wp P K h Q
  |.bytes x K,h,Q=>∃l:List UInt8,wW h x.aD x.len (l.map λb=>.int .u8 b.toNat)/\wp P (K ⟨l.toArray⟩) h Q
  |.S0 x K,h,Q=>U4 P x/\wp P K h Q
  |.Xy r K,h,Q=>∃v,r=some v/\wp P (K v) h Q
  |.xd s K,h,Q=>∀w:World,w.heap=h->∃v w',s.run P w = .ok v w'/\Env w w'/\wp P (K v) w'.heap Q
  |.both a b,h,Q=>wp P a h Q/\wp P b h Q
  |.ex K,h,Q=>∃n,wp P (K n) h Q
  | .pj p q K,h,Q=>match p,q with
      |some a,some b=>(a.block=b.block/\wp P (K (a == b)) h Q)\/(a.block≠b.block/\Lx h a/\Lx h b/\wp P (K false) h Q)
      |some _,none=>wp P (K false) h Q
      |none,q=>wp P (K q.isNone) h Q
  | .range f tys outs asg body K,h,Q=>∀r:Loop,r.state = .ready->r.pending=none ->
      (∀(x:Ts.den tys) (h2:aE) (R:List Value->aE->Prop),h2[h.size+1]?=some (.loop r) ->
        wp P (asg x) h2 (λtag vs h3=>tag=0/\∃y,vs=Ts.inj outs y/\h3[h.size+1]?=some (.loop r) /\
          wp P (body y) (h3.setIfInBounds (h.size+1) (.loop (PF r))) λtag _ h4=>h4[h.size+1]?=some (.loop (PF r)) /\
            R [.bool (AZ tag).isNone] (h4.setIfInBounds (h.size+1) (.loop (zB r tag)))) ->
        N0 P (UZ (h.size+1)) (Ts.inj tys x) h2 R) ->
      NZ P f [UZ (h.size+1)] ((h.push (.deferred (some []))).push (.loop r)) λ_ h5=>∃j,h5[h.size+1]?=some (.loop (zB r j)) /\
        wp P (K j) (h5.setIfInBounds (h.size+1) (.loop (P4 (zB r j)))) λt vs h6=>h6[h.size]?=some (.deferred (some []))/\Q t vs (h6.setIfInBounds h.size (.deferred none))
  |.O3 K,h,Q=>wp P (K h.size) (h.push (mU [] 0)) Q
  |.YV r k K,h,Q=>∃l,U3 h r l/\wp P (K ((iX k l).getD 0) (iX k l).isSome) h Q
  |.QG r k v K,h,Q=>∃m l c,r=some m/\h[m]?=some (mU l c)/\wp P K (h.setIfInBounds m (IM k v l c)) Q
  |.dv r K,h,Q=>∃l,U3 h r l/\wp P (K l.length) h Q
  |.KP r K,h,Q=>∃m l c,r=some m/\h[m]?=some (mU l c)/\wp P (K ⟨h.size,0,none⟩) (h.push (.mapIter (some m) c #[] c)) Q
  |.KR it K K0,h,Q=>QE it h (λk v h'=>wp P (K k v) h' Q) (λh'=>wp P K0 h' Q)
  |.Fl it K,h,Q=>Nh it h λk v=>wp P (K k v) h Q
  |.clear zero s K,h,Q=>Dm zero s h λh'=>wp P K h' Q
  |.JB i args K,h,Q=>wp P K h λt vs h'=>xT P i args h' λh''=>Q t vs h''
theorem N4{size bytes:Nat}{zero:List Value}{s x:Sl}{h:aE}{K i:Sl->aE->Prop}(g:∀r j,K r j->i r j)
    (m:HP size bytes zero s x h K):HP size bytes zero s x h i:=by
  obtain⟨new,l,d⟩:=m;refine⟨new,l,?_⟩;split
  . rename_i f
    simp only[f,if_true]at d;split
    . rename_i e;simp only[e]at d;exact g _ _ d
    . rename_i a e;simp only[e]at d;exact⟨d.1,g _ _ d.2⟩
  . rename_i f
    simp only[f,if_false]at d;obtain⟨old,a,b,k,c⟩:=d;exact⟨old,a,b,k,λcap e x y=>g _ _ (c cap e x y)⟩
theorem R3{size:Nat}{d s:Sl}{h:aE}{K c:Nat->aE->Prop}(g:∀r f,K r f->c r f)
    (j:PN size d s h K):PN size d s h c:=by
  obtain⟨new,i,b⟩:=j;refine⟨new,i,?_⟩;split
  . rename_i e;simp only[e]at b;exact g _ _ b
  . rename_i a e;simp only[e]at b;exact⟨b.1,g _ _ b.2⟩
theorem QF{it:Option Addr}{h:aE}{K f:Int->Int->aE->Prop}{g b:aE->Prop}(t:∀k v a,K k v a->f k v a)(h0:∀a,g a->b a)
    (s:QE it h K g):QE it h f b:=by
  obtain⟨i,m,since,seen,last,l,c,j,n,o,p,q,r⟩:=s;exact⟨i,m,since,seen,last,l,c,j,n,o,p,λe he d=>t _ _ _ (q e he d),λd=>h0 _ (r d)⟩
theorem PM{zero:List Value}{s:Sl}{h:aE}{K c:aE->Prop}(f:∀d,K d->c d)(b:Dm zero s h K):Dm zero s h c:=by
  unfold Dm at *;split
  . rename_i e;simp only[e]at b;exact f _ b
  . rename_i a e;simp only[e]at b;exact⟨b.1,f _ b.2⟩
theorem cU{P:Program}(p:aK):∀{h:aE} {Q u:Nat->List Value->aE->Prop},(∀t y z,Q t y z->u t y z)->wp P p h Q->wp P p h u:=by
  induction p with
  |ret tag y=>intro h Q u g hw;exact g _ _ _ hw
  |fail=>intro h Q u g hw;exact hw
  |assert c K o=>intro h Q u g hw;exact⟨hw.1,o g hw.2⟩
  |load t p K o=>intro h Q u g hw;obtain⟨a,e,x,c,k⟩:=hw;exact⟨a,e,x,c,o _ g k⟩
  |store p y K o=>intro h Q u g hw;obtain⟨a,e,c,k⟩:=hw;exact⟨a,e,c,o g k⟩
  |alloc y K o=>intro h Q u g hw e;exact o _ g (hw e)
  |mk bytes zero len cap K o=>intro h Q u g hw;exact⟨hw.1,λe=>o _ g (hw.2 e)⟩
  |append size bytes zero s x K o=>intro h Q u g hw;exact N4 (λr z k=>o r g k) hw
  |copy size d s K o=>intro h Q u g hw;exact R3 (λr z k=>o r g k) hw
  |call m tys K F o=>intro h Q u g hw;exact F (λt y z ⟨e,x,D,k⟩=>⟨e,x,D,o x g k⟩) hw
  |invoke c name args tys K o=>intro h Q u g hw;exact Cv.mono hw λy z ⟨x,D,k⟩=>⟨x,D,o x g k⟩
  |kO f args tys K o=>intro h Q u g hw;exact N0.mono hw λy z ⟨x,D,k⟩=>⟨x,D,o x g k⟩
  |bind m K F o=>intro h Q u g hw;exact F (λt y z k=>o t y g k) hw
  |cast tys y K o=>intro h Q u g hw;obtain⟨x,e,k⟩:=hw;exact⟨x,e,o x g k⟩
  |loop tys s body o=>
    intro h Q u g hw;obtain⟨I,μ,h0,J⟩:=hw;exact⟨I,μ,h0,λs h hi=>o s (λt y z k=>⟨k.1,λe=>g _ _ _ (k.2 e)⟩) (J s h hi)⟩
  |check p y K o=>intro h Q u g hw;exact⟨hw.1,o g hw.2⟩
  |bytes x K o=>intro h Q u g hw;obtain⟨l,c,k⟩:=hw;exact⟨l,c,o _ g k⟩
  |S0 x K o=>intro h Q u g hw;exact⟨hw.1,o g hw.2⟩
  |Xy r K o=>intro h Q u g hw;obtain⟨v,e,k⟩:=hw;exact⟨v,e,o v g k⟩
  |xd s K o=>intro h Q u g hw w e;obtain⟨v,R,r,n,k⟩:=hw w e;exact⟨v,R,r,n,o v g k⟩
  |both a b G H=>intro h Q u g hw;exact⟨G g hw.1,H g hw.2⟩
  |ex K o=>intro h Q u g hw;obtain⟨n,hw⟩:=hw;exact⟨n,o n g hw⟩
  |pj p q K o=>
    intro h Q u g hw;cases p with
    |none=>exact o _ g hw
    | some a=>cases q with
      |none=>exact o _ g hw
      |some b=>
        rcases hw with⟨A,B⟩|⟨A,B,E,N⟩
        . exact .inl ⟨A,o _ g B⟩
        . exact .inr ⟨A,B,E,o _ g N⟩
  |range f tys outs S body K G H o=>
    intro h Q u g hw r J O L;exact NZ.mono (hw r J O L) λy V ⟨j,A,B⟩=>⟨j,A,o j (λt y W C=>⟨C.1,g _ _ _ C.2⟩) B⟩
  |O3 K o=>intro h Q u g hw;exact o _ g hw
  |YV r k K o=>
    intro h Q u g hw;obtain⟨l,A,B⟩:=hw;exact⟨l,A,o _ _ g B⟩
  |QG r k v K o=>intro h Q u g hw;obtain⟨m,l,c,A,B,E⟩:=hw;exact⟨m,l,c,A,B,o g E⟩
  |dv r K o=>intro h Q u g hw;obtain⟨l,A,B⟩:=hw;exact⟨l,A,o _ g B⟩
  |KP r K o=>intro h Q u g hw;obtain⟨m,l,c,A,B,E⟩:=hw;exact⟨m,l,c,A,B,o _ g E⟩
  |KR it K U o M=>intro h Q u g hw;exact QF (λk v z C=>o k v g C) (λz C=>M g C) hw
  |Fl it K o=>intro h Q u g hw;exact OD (λk v C=>o k v g C) hw
  |clear zero s K o=>intro h Q u g hw;exact PM (λz C=>o g C) hw
  |JB i args K o=>intro h Q u g hw;exact o (λt y z C=>C.mono λT L=>g _ _ _ L) hw
end
end Go.Sw
