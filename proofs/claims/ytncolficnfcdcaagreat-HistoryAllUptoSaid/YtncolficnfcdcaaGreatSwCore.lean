
/- Steps. -/
import Derived.Orders
import Derived.Laws.Sem
import Derived.Laws.World
import Derived.KernelRfl
import Derived.RangeFuncLeaves
import Derived.RangeFuncRecord
set_option linter.unusedVariables false
set_option linter.unusedSimpArgs false
namespace Go.Sw
abbrev bM:=@Nat.le_refl
abbrev bQ:=@List.length_append
abbrev cE:=@List.length_map
abbrev cK:=@List.getElem?_eq_getElem
abbrev cO:=@Nat.zero_le
abbrev dE:=@List.mem_singleton
abbrev dI:=@Nat.le_trans
abbrev dJ:=@List.length_take
abbrev eH:=@List.mem_cons
abbrev eO:=@List.mem_cons_self
abbrev cQ:=@List.getElem?_eq_some_iff
abbrev cR:=@Int.toNat_natCast
abbrev cW:=@List.length_drop
abbrev dB:=@List.mem_map
abbrev dH:=@List.mem_append
abbrev dP:=@List.map_append
abbrev dU:=@Option.some.inj
abbrev dX:=@List.append_assoc
abbrev eK:=@List.mem_cons_of_mem
abbrev eL:=@List.mem_of_getElem?
abbrev eN:=@List.take_add_one
abbrev eY:=@List.take_append_drop
abbrev fH:=@List.take_length
abbrev fM:=@List.length_cons
abbrev fT:=@List.map_cons
abbrev gB:=@Nat.le_of_ble_eq_true
abbrev gD:=@List.flatMap_cons
abbrev gJ:=@List.getD_eq_getElem?_getD
abbrev gP:=@Option.some.injEq
abbrev gQ:=@List.getElem?_map
abbrev gW:=@Bool.false_eq_true
abbrev gX:=@List.flatMap_append
abbrev gY:=@List.drop_eq_getElem_cons
abbrev iL:=@Bool.and_eq_true
abbrev iY:=@List.take_of_length_le
abbrev jS:=@Prod.mk.inj
abbrev jZ:=@List.getElem?_append_right
abbrev kQ:=@List.append_nil
abbrev kR:=@Int.le_refl
abbrev lG:=@List.not_mem_nil
abbrev mK:=@Nat.lt_of_lt_of_le
abbrev mL:=@List.getElem?_append_left
abbrev mZ:=@Option.map_eq_some_iff
abbrev oV:=@Prod.mk.injEq
abbrev oW:=@List.mem_append_left
abbrev qM:=@List.mem_append_right
abbrev rV:=@List.mem_map_of_mem
abbrev rW:=@List.mem_of_mem_take
abbrev rX:=@Nat.le_of_lt
abbrev sZ:=@List.map_map
abbrev tC:=@Nat.sub_self
abbrev uM:=@List.drop_of_length_le
abbrev wV:=@List.mem_filter
abbrev wW:=@Array.getElem?_eq_some_iff
abbrev wX:=@List.set_cons_zero
abbrev yI:=@Array.toList_inj
abbrev yJ:=@Array.getElem?_setIfInBounds_ne
abbrev yK:=@List.pairwise_cons
abbrev Aq:=@List.getElem?_drop
abbrev Ar:=@Nat.add_sub_cancel_left
abbrev As:=@List.take_append_of_le_length
abbrev At:=@List.eq_nil_of_length_eq_zero
abbrev Au:=@List.set_append_right
abbrev Av:=@List.length_singleton
abbrev BC:=@Option.isSome_iff_exists
abbrev BD:=@Nat.add_assoc
abbrev BE:=@List.mem_of_mem_drop
abbrev CD:=@List.foldl_cons
abbrev CE:=@Bool.or_eq_false_iff
abbrev CF:=@List.nodup_cons
abbrev CG:=@Bool.not_eq_true'
abbrev CH:=@Nat.add_mul
abbrev CI:=@Int.eq_ofNat_of_zero_le
abbrev CJ:=@List.length_set
abbrev CK:=@List.getElem_mem
abbrev Ed:=@Nat.eq_of_beq_eq_true
abbrev Ee:=@List.cons_append
abbrev Ef:=@Array.getElem?_push_size
abbrev Eg:=@List.map_take
abbrev Eh:=@List.sum_cons
abbrev Ej:=@List.drop_drop
abbrev Ek:=@List.drop_zero
abbrev Em:=@Nat.le_add_right
abbrev F0:=@Nat.succ_mul
abbrev F1:=@Nat.add_comm
abbrev F2:=@List.all_eq_true
abbrev F3:=@Nat.add_zero
abbrev F4:=@List.getElem?_take
abbrev F5:=@Nat.min_eq_left
abbrev F6:=@List.drop_length
abbrev F7:=@Nat.le_succ_of_le
abbrev HT:=@Nat.mul_one
abbrev HU:=@Option.toList_some
abbrev HV:=@Nat.lt_irrefl
abbrev KC:=@List.cons.inj
abbrev KD:=@Bool.or_eq_true
abbrev KE:=@List.nodup_nil
abbrev KF:=@Array.getElem?_eq_none
abbrev KG:=@Nat.pow_le_pow_right
abbrev KH:=@Nat.lt_succ_self
abbrev GB:=@List.nil_append
abbrev GC:=@List.mem_flatMap
abbrev GD:=@List.foldl_append
abbrev GF:=@Nat.le_succ
abbrev GG:=@Int.le_trans
abbrev JD:=@List.singleton_sublist
abbrev JE:=@List.any_eq_true
abbrev JF:=@List.mem_range
abbrev JG:=@Option.map_some
abbrev JH:=@Nat.mul_le_mul_right
abbrev JI:=@Nat.zero_add
abbrev JJ:=@List.nodup_append
abbrev JK:=@List.getElem?_eq_none
abbrev JL:=@List.replicate_succ
abbrev JM:=@List.take_succ_cons
abbrev JN:=@List.take_append
abbrev JO:=@List.cons.injEq
abbrev JP:=@List.take_take
abbrev JQ:=@List.map_congr_left
abbrev JR:=@List.length_replicate
abbrev JS:=@List.concat_eq_append
abbrev Md:=@List.mapM_cons
abbrev Mf:=@Array.mem_filter
abbrev Mg:=@List.sublist_cons_self
abbrev Mh:=@List.range_succ
abbrev Mi:=@List.size_toArray
abbrev Mj:=@Nat.sub_zero
abbrev Mk:=@Int.natCast_nonneg
abbrev Ml:=@List.map_drop
abbrev Mm:=@Int.cast_ofNat_Int
abbrev Mn:=@List.drop_take
abbrev Mp:=@List.length_nil
abbrev Mq:=@Nat.pow_succ
abbrev Mr:=@Nat.add_sub_cancel
abbrev Ms:=@List.drop_left'
abbrev Mt:=@List.any_append
abbrev Mu:=@List.any_map
abbrev Mv:=@List.eq_nil_or_concat
abbrev Mw:=@List.pairwise_map
abbrev Mx:=@List.pairwise_append
abbrev My:=@List.length_reverse
abbrev Mz:=@List.length_flatMap
abbrev RF:=@Nat.mod_eq_of_lt
abbrev RG:=@List.length_eq_zero_iff
abbrev RH:=@Bool.not_eq_true
abbrev RJ:=@Array.all_eq_true_iff_forall_mem
abbrev RK:=@List.mem_toArray
abbrev RL:=@Array.getElem?_eq_getElem
abbrev RM:=@List.filter_cons
abbrev RN:=@List.Perm.eq_nil
abbrev RO:=@List.perm_cons
abbrev RP:=@List.Sublist.cons_cons
abbrev RQ:=@List.idxOf_cons
abbrev RR:=@List.perm_ext_iff_of_nodup
abbrev RS:=@List.of_mem_zip
abbrev RU:=@Array.length_toList
abbrev RV:=@Array.getElem?_modify
abbrev RW:=@List.getElem?_append
abbrev RY:=@List.getElem?_toArray
abbrev RZ:=@Int.natCast_emod
abbrev R0:=@List.getElem?_set
abbrev R1:=@List.mem_or_eq_of_mem_set
abbrev R2:=@Nat.lt_of_le_of_lt
abbrev R3:=@List.getElem?_set_ne
abbrev R4:=@List.getD_cons_zero
abbrev R5:=@List.take_left'
abbrev R6:=@List.drop_append
abbrev R7:=@List.drop_append_of_le_length
abbrev R8:=@List.getElem?_cons_succ
abbrev R9:=@List.take_zero
abbrev Sa:=@List.drop_eq_nil_iff
abbrev Sb:=@List.mem_replicate
abbrev Sc:=@List.map_singleton
abbrev Sd:=@List.pairwise_singleton
abbrev Se:=@List.filter_eq_self
abbrev Sf:=@List.filter_cons_of_pos
abbrev Si:=@List.ext_getElem?
abbrev Sj:=@List.pairwise_iff_getElem
abbrev WO:=@Array.mapM_eq_mapM_toList
abbrev WQ:=@Array.getElem?_setIfInBounds
abbrev WR:=@Nat.and_two_pow_sub_one_eq_mod
abbrev WS:=@Nat.two_pow_add_eq_or_of_lt
abbrev WT:=@Int.tdiv_eq_ediv_of_nonneg
abbrev WU:=@Array.getElem?_setIfInBounds_self
abbrev WV:=@List.mem_of_find?_eq_some
abbrev WW:=@List.getElem?_eq_none_iff
section
abbrev aG:=Array Obj
def cell(h:aG)(a:Addr):Option Value:=
  match h[a.block]? with
  |some (.cells c _ _)=>if a.spot.isSome then none else c[a.off]?
  |_=>none
def IU(h:aG)(a:Addr):Bool:=
  match h[a.block]? with
  |some (.cells _ _ (lo,hi))=>lo<=a.off && a.off<hi
  |_=>false
def setCell(h:aG)(a:Addr)(v:Value):aG:=
  h.modify a.block fun
    |.cells c elem frozen=>.cells (if a.spot.isSome then c else c.setIfInBounds a.off v) elem frozen
    |o=>o
theorem Zx(w:World)(a:Addr):w.frozen? a=IU w.heap a:=rfl
def flat:Value->Bool
  |.agg _|.tuple _=>false
  |_=>true
theorem QC(v:Value):flat v=v.oneCell':=by cases v<;>rfl
def A0(h:aG)(a:Addr):Nat->List Value->Prop
  |_,[]=>True
  |i,v::vs=>cell h (a.add i)=some v/\A0 h a (i+1) vs
def Cells(h:aG)(a:Addr)(vs:List Value):Prop:=A0 h a 0 vs
def nL(h:aG)(a:Addr):Nat->List Value->Prop
  |_,[]=>True
  |i,v::vs=>((∃u,cell h (a.add i)=some u)/\IU h (a.add i)=false/\flat v=true)/\nL h a (i+1) vs
def oD(h:aG)(a:Addr):Nat->List Value->aG
  |_,[]=>h
  |i,v::vs=>oD (setCell h (a.add i) v) a (i+1) vs
def MH(h:aG)(a:Addr)(vs:List Value):Prop:=nL h a 0 vs
def nZ(h:aG)(a:Addr)(vs:List Value):aG:=oD h a 0 vs
structure Env(w w':World):Prop where
  os:w'.os=w.os
  tape:w'.tape=w.tape
  output:w'.output=w.output
theorem Env.refl(w:World):Env w w:=⟨rfl,rfl,rfl⟩
theorem Env.trans{a b c:World}(h:Env a b)(k:Env b c):Env a c:=⟨k.os.trans h.os,k.tape.trans h.tape,k.output.trans h.output⟩
inductive B where
  |int (k:IntKind)
  |bool
  |str
  |sl
  |ptr
  |map
  |Yr (k:FloatKind)
  |any
structure Sl where
  aD:Option Addr
  len:Nat
  cap:Nat
@[reducible] def B.den:B->Type
  |.int _=>Int
  |.bool=>Bool
  |.str=>ByteArray
  |.sl=>Sl
  |.ptr=>Option Addr
  |.map=>Option Nat
  |.Yr _=>Nat
  |.any=>Value
def B.inj:(b:B)->b.den->Value
  |.int k,n=>.int k n
  |.bool,x=>.bool x
  |.str,s=>.string s
  |.sl,x=>.slice x.aD x.len x.cap
  |.ptr,p=>.pointer p
  |.map,r=>.map r
  |.Yr k,n=>.float k n
  |.any,v=>v
@[reducible] def Bs.den:List B->Type
  |[]=>Unit
  |b::bs=>b.den×Bs.den bs
def Bs.inj:(bs:List B)->Bs.den bs->List Value
  |[],_=>[]
  |b::bs,x=>b.inj x.1::Bs.inj bs x.2
inductive Ty where
  |one (b:B)
  |agg (bs:List B)
@[reducible] def Ty.den:Ty->Type
  |.one b=>b.den
  |.agg bs=>Bs.den bs
def Ty.cells:(t:Ty)->t.den->List Value
  |.one b,x=>[b.inj x]
  |.agg bs,x=>Bs.inj bs x
def Ty.inj:(t:Ty)->t.den->Value
  |.one b,x=>b.inj x
  |.agg bs,x=>.agg (Bs.inj bs x).toArray
@[reducible] def Ts.den:List Ty->Type
  |[]=>Unit
  |t::ts=>t.den×Ts.den ts
def Ts.inj:(ts:List Ty)->Ts.den ts->List Value
  |[],_=>[]
  |t::ts,x=>t.inj x.1::Ts.inj ts x.2
def Bw:List Value->Value
  |[v]=>v
  |vs=>.tuple vs.toArray
inductive aK where
  |ret (tag:Nat) (vs:List Value)
  |fail
  |assert (c:Prop) (K:aK)
  |load (t:Ty) (p:Option Addr) (K:t.den->aK)
  |store (p:Option Addr) (vs:List Value) (K:aK)
  |alloc (vs:List Value) (K:Addr->aK)
  |mk (bytes:Nat) (zero:List Value) (len cap:Int) (K:Sl->aK)
  |append (size bytes:Nat) (zero:List Value) (s x:Sl) (K:Sl->aK)
  |copy (size:Nat) (d s:Sl) (K:Nat->aK)
  |call (m:aK) (tys:List Ty) (K:Ts.den tys->aK)
  |invoke (c:Value) (name:String) (args:List Value) (tys:List Ty) (K:Ts.den tys->aK)
  |kB (f:Value) (args:List Value) (tys:List Ty) (K:Ts.den tys->aK)
  |bind (m:aK) (K:Nat->List Value->aK)
  |cast (tys:List Ty) (vs:List Value) (K:Ts.den tys->aK)
  |loop (tys:List Ty) (s:Ts.den tys) (body:Ts.den tys->aK)
  |check (p:Option Addr) (vs:List Value) (K:aK)
  |bytes (x:Sl) (K:ByteArray->aK)
  |TH (x:Value) (K:aK)
  |Yr (r:Option Nat) (K:Nat->aK)
  |sem (s:Sem Value) (K:Value->aK)
  |both (a b:aK)
  |ex (K:Nat->aK)
  |vc (p q:Option Addr) (K:Bool->aK)
  |range (f:Value) (tys outs:List Ty) (asg:Ts.den tys->aK) (body:Ts.den outs->aK) (K:Nat->aK)
  |PH (K:Nat->aK)
  |ZR (r:Option Nat) (k:Int) (K:Int->Bool->aK)
  |Rh (r:Option Nat) (k v:Int) (K:aK)
  |ZX (r:Option Nat) (K:Nat->aK)
  |I8 (r:Option Nat) (K:Addr->aK)
  |Ja (it:Option Addr) (K:Int->Int->aK) (K0:aK)
  |DU (it:Option Addr) (K:Int->Int->aK)
  |clear (zero:List Value) (s:Sl) (K:aK)
  |J3 (i:FuncId) (args:List Value) (K:aK)
abbrev fX:=List (Int×Int×Nat)
def Bm(e:Int×Int×Nat):MapEntry:=⟨.int .i64 e.1, .int .i64 e.2.1,e.2.2⟩
def lP(l:fX)(c:Nat):Obj:=.map (l.map Bm).toArray c
def jN(k:Int):fX->Option Int
  |[]=>none
  |e::l=>if e.1=k then some e.2.1 else jN k l
def FK(k v:Int):fX->fX
  |[]=>[]
  |e::l=>if e.1=k then (k,v,e.2.2)::l else e::FK k v l
def Jc(k v:Int)(l:fX)(c:Nat):Obj:=
  match jN k l with
  |some _=>lP (FK k v l) c
  |none=>lP (l++[(k,v,c)]) (c+1)
def VK(h:aG)(r:Option Nat)(l:fX):Prop:=
  match r with
  |none=>l=[]
  |some m=>∃c,h[m]?=some (lP l c)
def Rf(it:Option Addr)(h:aG)(K:Int->Int->aG->Prop)(K0:aG->Prop):Prop:=
  ∃i m since seen last l c,it=some ⟨i,0,none⟩/\h[i]?=some (.mapIter (some m) since seen last)/\h[m]?=some (lP l c) /\
    (seen = #[]\/l=[]\/∃e∈l,e.2.2<last) /\
    (∀e∈l,seen.contains e.2.2=false->K e.1 e.2.1 (h.setIfInBounds i (.mapIter (some m) since (seen.push e.2.2) c))) /\
    ((∀e∈l,seen.contains e.2.2=false->since<=e.2.2)->K0 h)
def Ur(P:Program)(f:FuncId)(args:List Value)(h:aG)(Q:List Value->aG->Prop):Prop:=
  ∀w:World,w.heap=h->Calls P f args.toArray w λe w'=>∃vs,e = .returned (Bw vs)/\Env w w'/\Q vs w'.heap
def CO(P:Program)(c:Value)(name:String)(args:List Value)(h:aG)(Q:List Value->aG->Prop):Prop:=
  ∀w:World,w.heap=h->∃f as,(callMethod c name args.toArray).run P w = .ok (.enter f as) w /\
    Calls P f as w λe w'=>∃vs,e = .returned (Bw vs)/\Env w w'/\Q vs w'.heap
def OE(P:Program)(f:Value)(args:List Value)(h:aG)(Q:List Value->aG->Prop):Prop:=
  ∀w:World,w.heap=h->∃d g as,(Deferred.ofValue f args.toArray).run P w = .ok d w/\(invoke d.target d.args).run P w = .ok (.enter g as) w /\
    Calls P g as w λe w'=>∃vs,e = .returned (Bw vs)/\Env w w'/\Q vs w'.heap
def OF(P:Program)(f:Value)(args:List Value)(h:aG)(Q:List Value->aG->Prop):Prop:=
  ∀w:World,w.heap=h->∃d,(Deferred.ofValue f args.toArray).run P w = .ok d w /\
    ((∃g as,(invoke d.target d.args).run P w = .ok (.enter g as) w/\Calls P g as w λe w'=>∃vs,e = .returned (Bw vs)/\Env w w'/\Q vs w'.heap) \/
     (∃l fn tmps assign body,(invoke d.target d.args).run P w = .ok (.round l fn tmps assign body) w /\
        RoundIn Fence.wide 0 P l fn tmps assign body w λe w'=>∃vs,e = .returned (Bw vs)/\Env w w'/\Q vs w'.heap))
def yL(P:Program)(i:FuncId)(args:List Value)(h:aG)(Q:aG->Prop):Prop:=
  ∀(u:FrameMode) (w:World),w.heap=h->CallsDIn Fence.wide 0 P i args.toArray u w λe u' w'=>u'=u/\∃v,e = .returned v/\Env w w'/\Q w'.heap
theorem yL.mono{P:Program}{i:FuncId}{args:List Value}{h:aG}{Q a:aG->Prop}(c:yL P i args h Q)(d:∀b,Q b->a b):yL P i args h a:=
  λu w hw=>(c u w hw).mono λ_ _ _ ⟨e,v,r,n,q⟩=>⟨e,v,r,n,d _ q⟩
theorem OE.toV{P:Program}{f:Value}{args:List Value}{h:aG}{Q:List Value->aG->Prop}(e:OE P f args h Q):OF P f args h Q:=
  λw hw=>let ⟨d,g,as,a,b,c⟩:=e w hw;⟨d,a, .inl ⟨g,as,b,c⟩⟩
abbrev VG(l:Nat):Value:=.func (.yield l) #[] #[]
def Bo:Nat->Option Code
  |0=>none
  |1=>some .ret
  |n+2=>some (.exit n)
def zW(r:Loop)(j:Nat):Loop:={r with state:=if (Bo j).isNone then .ready else .done,pending:=Bo j}
def Qi(r:Loop):Loop:={r with state:=.busy}
def QH(r:Loop):Loop:={r with state:=.exhausted}
theorem CO.mono{P:Program}{c:Value}{name:String}{args:List Value}{h:aG}{Q b:List Value->aG->Prop}(g:CO P c name args h Q)
    (i:∀a d,Q a d->b a d):CO P c name args h b:=
  λw hw=>let ⟨f,as,r,k⟩:=g w hw;⟨f,as,r,k.mono λ_ _ ⟨a,e,n,q⟩=>⟨a,e,n,i _ _ q⟩⟩
theorem OE.mono{P:Program}{f:Value}{args:List Value}{h:aG}{Q b:List Value->aG->Prop}(g:OE P f args h Q)
    (i:∀a c,Q a c->b a c):OE P f args h b:=
  λw hw=>let ⟨d,f,as,r,s,k⟩:=g w hw;⟨d,f,as,r,s,k.mono λ_ _ ⟨a,e,n,q⟩=>⟨a,e,n,i _ _ q⟩⟩
theorem OF.mono{P:Program}{f:Value}{args:List Value}{h:aG}{Q b:List Value->aG->Prop}(i:OF P f args h Q)
    (g:∀a c,Q a c->b a c):OF P f args h b:=λw hw=>by
  obtain⟨d,r,⟨f,as,s,k⟩|⟨l,fn,tmps,assign,body,s,k⟩⟩:=i w hw
  . exact⟨d,r, .inl ⟨f,as,s,k.mono λ_ _ ⟨a,e,n,q⟩=>⟨a,e,n,g _ _ q⟩⟩⟩
  . exact⟨d,r, .inr ⟨l,fn,tmps,assign,body,s,k.mono λ_ _ ⟨a,e,n,q⟩=>⟨a,e,n,g _ _ q⟩⟩⟩
def VL(P:Program)(x:Value):Prop:=
  ∀w:World,(execOp (λ_=>x) {dst:=none,op:=.nilCheck (.tmp 0),type:=0,pos:= "", after:=#[],guard:=none}).run P w = .ok (.value x) w
def xO(h:aG)(p:Option Addr)(k:Nat)(vs:List Value):Prop:=
  match p with
  |none=>vs=[]
  |some a=>vs.length=k/\Cells h a vs
def jP(zero:List Value):Nat->List Value
  |0=>[]
  |n+1=>zero++jP zero n
def Ia(size bytes:Nat)(zero:List Value)(s x:Sl)(h:aG)(K:Sl->aG->Prop):Prop:=
  ∃new,xO h x.aD (x.len*size) new /\
    if s.len+x.len<=s.cap then
      match s.aD with
      |none=>K ⟨none,s.len+x.len,s.cap⟩ h
      |some a=>MH h (a.add (s.len*size)) new/\K ⟨some a,s.len+x.len,s.cap⟩ (nZ h (a.add (s.len*size)) new)
    else
      ∃old,xO h s.aD (s.len*size) old/\Builtin.nextslicecap (s.len+x.len) s.cap*bytes<=2^48/\s.len+x.len<2^63 /\
        ∀cap elem,s.len+x.len<=cap->cap<2^63 ->
          K ⟨some ⟨h.size,0,none⟩,s.len+x.len,cap⟩ (h.push (.cells (old++new++jP zero (cap-(s.len+x.len))).toArray elem))
def Qs(size:Nat)(d s:Sl)(h:aG)(K:Nat->aG->Prop):Prop:=
  ∃new,xO h s.aD (min s.len d.len*size) new /\
    match d.aD with
    |none=>K (min s.len d.len) h
    |some a=>MH h a new/\K (min s.len d.len) (nZ h a new)
def L4(h:aG)(a:Addr):Prop:=∃c e,h[a.block]?=some (.cells c e)
def DI(zero:List Value)(s:Sl)(h:aG)(K:aG->Prop):Prop:=
  match s.aD with
  |none=>K h
  |some a=>MH h a (jP zero s.len)/\K (nZ h a (jP zero s.len))
def NP(it:Option Addr)(h:aG)(K:Int->Int->Prop):Prop:=
  ∃i m since seen stamp l c,it=some ⟨i,0,none⟩/\h[i]?=some (.mapIter (some m) since (Array.push seen stamp) c)/\h[m]?=some (lP l c) /\
    ∃e,l.find? (λe=>e.2.2 == stamp)=some e/\K e.1 e.2.1
theorem Pd{it:Option Addr}{h:aG}{K b:Int->Int->Prop}(p:∀k v,K k v->b k v)(o:NP it h K):NP it h b:=by
  obtain⟨i,m,since,seen,a,l,c,d,f,g,e,j,n⟩:=o;exact⟨i,m,since,seen,a,l,c,d,f,g,e,j,p _ _ n⟩
def wp(P:Program):aK->aG->(Nat->List Value->aG->Prop)->Prop
  |.ret tag vs,h,Q=>Q tag vs h
  |.fail,_,_=>False
  |.assert c K,h,Q=>c/\wp P K h Q
  |.load t p K,h,Q=>∃a,p=some a/\∃x,Cells h a (t.cells x)/\wp P (K x) h Q
  |.store p vs K,h,Q=>∃a,p=some a/\MH h a vs/\wp P K (nZ h a vs) Q
  |.alloc vs K,h,Q=>∀elem,wp P (K ⟨h.size,0,none⟩) (h.push (.cells vs.toArray elem)) Q
  | .mk bytes zero len cap K,h,Q=>(0<=len/\len<=cap/\cap<2^63/\bytes*cap<=2^48) /\
      ∀elem,wp P (K ⟨some ⟨h.size,0,none⟩,len.toNat,cap.toNat⟩) (h.push (.cells (jP zero cap.toNat).toArray elem)) Q
  |.append size bytes zero s x K,h,Q=>Ia size bytes zero s x h λr h'=>wp P (K r) h' Q
  |.copy size d s K,h,Q=>Qs size d s h λn h'=>wp P (K n) h' Q
  |.call m tys K,h,Q=>wp P m h λtag vs h'=>tag=0/\∃x,vs=Ts.inj tys x/\wp P (K x) h' Q
  |.invoke c name args tys K,h,Q=>CO P c name args h λvs h'=>∃x,vs=Ts.inj tys x/\wp P (K x) h' Q
  |.kB f args tys K,h,Q=>OF P f args h λvs h'=>∃x,vs=Ts.inj tys x/\wp P (K x) h' Q
  |.bind m K,h,Q=>wp P m h λtag vs h'=>wp P (K tag vs) h' Q
  |.cast tys vs K,h,Q=>∃x,vs=Ts.inj tys x/\wp P (K x) h Q
  |.loop tys s body,h,Q=>∃(I:Ts.den tys->aG->Prop) (μ:Ts.den tys->aG->Nat),I s h/\∀s h,I s h->wp P (body s) h λtag vs h'=>
      (tag=0->∃s',vs=Ts.inj tys s'/\I s' h'/\μ s' h'<μ s h)/\(tag≠0->Q tag vs h')
  |.check p vs K,h,Q=>(∃a,p=some a/\Cells h a vs)/\wp P K h Q
  |.bytes x K,h,Q=>∃l:List UInt8,xO h x.aD x.len (l.map λb=>.int .u8 b.toNat)/\wp P (K ⟨l.toArray⟩) h Q
  |.TH x K,h,Q=>VL P x/\wp P K h Q
  |.Yr r K,h,Q=>∃v,r=some v/\wp P (K v) h Q
  |.sem s K,h,Q=>∀w:World,w.heap=h->∃v w',s.run P w = .ok v w'/\Env w w'/\wp P (K v) w'.heap Q
  |.both a b,h,Q=>wp P a h Q/\wp P b h Q
  |.ex K,h,Q=>∃n,wp P (K n) h Q
  | .vc p q K,h,Q=>match p,q with
      |some a,some b=>(a.block=b.block/\wp P (K (a == b)) h Q)\/(a.block≠b.block/\L4 h a/\L4 h b/\wp P (K false) h Q)
      |some _,none=>wp P (K false) h Q
      |none,q=>wp P (K q.isNone) h Q
  | .range f tys outs asg body K,h,Q=>∀r:Loop,r.state = .ready->r.pending=none ->
      (∀(x:Ts.den tys) (h2:aG) (R:List Value->aG->Prop),h2[h.size+1]?=some (.loop r) ->
        wp P (asg x) h2 (λtag vs h3=>tag=0/\∃y,vs=Ts.inj outs y/\h3[h.size+1]?=some (.loop r) /\
          wp P (body y) (h3.setIfInBounds (h.size+1) (.loop (Qi r))) λtag _ h4=>h4[h.size+1]?=some (.loop (Qi r)) /\
            R [.bool (Bo tag).isNone] (h4.setIfInBounds (h.size+1) (.loop (zW r tag)))) ->
        OF P (VG (h.size+1)) (Ts.inj tys x) h2 R) ->
      OE P f [VG (h.size+1)] ((h.push (.deferred (some []))).push (.loop r)) λ_ h5=>∃j,h5[h.size+1]?=some (.loop (zW r j)) /\
        wp P (K j) (h5.setIfInBounds (h.size+1) (.loop (QH (zW r j)))) λt vs h6=>h6[h.size]?=some (.deferred (some []))/\Q t vs (h6.setIfInBounds h.size (.deferred none))
  |.PH K,h,Q=>wp P (K h.size) (h.push (lP [] 0)) Q
  |.ZR r k K,h,Q=>∃l,VK h r l/\wp P (K ((jN k l).getD 0) (jN k l).isSome) h Q
  |.Rh r k v K,h,Q=>∃m l c,r=some m/\h[m]?=some (lP l c)/\wp P K (h.setIfInBounds m (Jc k v l c)) Q
  |.ZX r K,h,Q=>∃l,VK h r l/\wp P (K l.length) h Q
  |.I8 r K,h,Q=>∃m l c,r=some m/\h[m]?=some (lP l c)/\wp P (K ⟨h.size,0,none⟩) (h.push (.mapIter (some m) c #[] c)) Q
  |.Ja it K K0,h,Q=>Rf it h (λk v h'=>wp P (K k v) h' Q) (λh'=>wp P K0 h' Q)
  |.DU it K,h,Q=>NP it h λk v=>wp P (K k v) h Q
  |.clear zero s K,h,Q=>DI zero s h λh'=>wp P K h' Q
  |.J3 i args K,h,Q=>wp P K h λt vs h'=>yL P i args h' λh''=>Q t vs h''
theorem OI{size bytes:Nat}{zero:List Value}{s x:Sl}{h:aG}{K i:Sl->aG->Prop}(g:∀r j,K r j->i r j)
    (m:Ia size bytes zero s x h K):Ia size bytes zero s x h i:=by
  obtain⟨new,l,d⟩:=m;refine⟨new,l,?_⟩;split
  . rename_i f
    simp only[f,if_true]at d;split
    . rename_i e;simp only[e]at d;exact g _ _ d
    . rename_i a e;simp only[e]at d;exact⟨d.1,g _ _ d.2⟩
  . rename_i f
    simp only[f,if_false]at d;obtain⟨old,a,b,k,c⟩:=d;exact⟨old,a,b,k,λcap e x y=>g _ _ (c cap e x y)⟩
theorem SP{size:Nat}{d s:Sl}{h:aG}{K c:Nat->aG->Prop}(g:∀r f,K r f->c r f)
    (j:Qs size d s h K):Qs size d s h c:=by
  obtain⟨new,i,b⟩:=j;refine⟨new,i,?_⟩;split
  . rename_i e;simp only[e]at b;exact g _ _ b
  . rename_i a e;simp only[e]at b;exact⟨b.1,g _ _ b.2⟩
theorem Rg{it:Option Addr}{h:aG}{K f:Int->Int->aG->Prop}{g b:aG->Prop}(t:∀k v a,K k v a->f k v a)(h0:∀a,g a->b a)
    (s:Rf it h K g):Rf it h f b:=by
  obtain⟨i,m,since,seen,last,l,c,j,n,o,p,q,r⟩:=s;exact⟨i,m,since,seen,last,l,c,j,n,o,p,λe he d=>t _ _ _ (q e he d),λd=>h0 _ (r d)⟩
theorem Qr{zero:List Value}{s:Sl}{h:aG}{K c:aG->Prop}(f:∀d,K d->c d)(b:DI zero s h K):DI zero s h c:=by
  unfold DI at *;split
  . rename_i e;simp only[e]at b;exact f _ b
  . rename_i a e;simp only[e]at b;exact⟨b.1,f _ b.2⟩
theorem cN{P:Program}(p:aK):∀{h:aG} {Q u:Nat->List Value->aG->Prop},(∀t y z,Q t y z->u t y z)->wp P p h Q->wp P p h u:=by
  induction p with
  |ret tag y=>intro h Q u g hw;exact g _ _ _ hw
  |fail=>intro h Q u g hw;exact hw
  |assert c K o=>intro h Q u g hw;exact⟨hw.1,o g hw.2⟩
  |load t p K o=>intro h Q u g hw;obtain⟨a,e,x,c,k⟩:=hw;exact⟨a,e,x,c,o _ g k⟩
  |store p y K o=>intro h Q u g hw;obtain⟨a,e,c,k⟩:=hw;exact⟨a,e,c,o g k⟩
  |alloc y K o=>intro h Q u g hw e;exact o _ g (hw e)
  |mk bytes zero len cap K o=>intro h Q u g hw;exact⟨hw.1,λe=>o _ g (hw.2 e)⟩
  |append size bytes zero s x K o=>intro h Q u g hw;exact OI (λr z k=>o r g k) hw
  |copy size d s K o=>intro h Q u g hw;exact SP (λr z k=>o r g k) hw
  |call m tys K F o=>intro h Q u g hw;exact F (λt y z ⟨e,x,D,k⟩=>⟨e,x,D,o x g k⟩) hw
  |invoke c name args tys K o=>intro h Q u g hw;exact CO.mono hw λy z ⟨x,D,k⟩=>⟨x,D,o x g k⟩
  |kB f args tys K o=>intro h Q u g hw;exact OF.mono hw λy z ⟨x,D,k⟩=>⟨x,D,o x g k⟩
  |bind m K F o=>intro h Q u g hw;exact F (λt y z k=>o t y g k) hw
  |cast tys y K o=>intro h Q u g hw;obtain⟨x,e,k⟩:=hw;exact⟨x,e,o x g k⟩
  |loop tys s body o=>
    intro h Q u g hw;obtain⟨I,μ,h0,J⟩:=hw;exact⟨I,μ,h0,λs h hi=>o s (λt y z k=>⟨k.1,λe=>g _ _ _ (k.2 e)⟩) (J s h hi)⟩
  |check p y K o=>intro h Q u g hw;exact⟨hw.1,o g hw.2⟩
  |bytes x K o=>intro h Q u g hw;obtain⟨l,c,k⟩:=hw;exact⟨l,c,o _ g k⟩
  |TH x K o=>intro h Q u g hw;exact⟨hw.1,o g hw.2⟩
  |Yr r K o=>intro h Q u g hw;obtain⟨v,e,k⟩:=hw;exact⟨v,e,o v g k⟩
  |sem s K o=>intro h Q u g hw w e;obtain⟨v,R,r,n,k⟩:=hw w e;exact⟨v,R,r,n,o v g k⟩
  |both a b G H=>intro h Q u g hw;exact⟨G g hw.1,H g hw.2⟩
  |ex K o=>intro h Q u g hw;obtain⟨n,hw⟩:=hw;exact⟨n,o n g hw⟩
  |vc p q K o=>
    intro h Q u g hw;cases p with
    |none=>exact o _ g hw
    | some a=>cases q with
      |none=>exact o _ g hw
      |some b=>
        rcases hw with⟨A,B⟩|⟨A,B,E,N⟩
        . exact .inl ⟨A,o _ g B⟩
        . exact .inr ⟨A,B,E,o _ g N⟩
  |range f tys outs S body K G H o=>
    intro h Q u g hw r J O L;exact OE.mono (hw r J O L) λy V ⟨j,A,B⟩=>⟨j,A,o j (λt y W C=>⟨C.1,g _ _ _ C.2⟩) B⟩
  |PH K o=>intro h Q u g hw;exact o _ g hw
  |ZR r k K o=>
    intro h Q u g hw;obtain⟨l,A,B⟩:=hw;exact⟨l,A,o _ _ g B⟩
  |Rh r k v K o=>intro h Q u g hw;obtain⟨m,l,c,A,B,E⟩:=hw;exact⟨m,l,c,A,B,o g E⟩
  |ZX r K o=>intro h Q u g hw;obtain⟨l,A,B⟩:=hw;exact⟨l,A,o _ g B⟩
  |I8 r K o=>intro h Q u g hw;obtain⟨m,l,c,A,B,E⟩:=hw;exact⟨m,l,c,A,B,o _ g E⟩
  |Ja it K U o M=>intro h Q u g hw;exact Rg (λk v z C=>o k v g C) (λz C=>M g C) hw
  |DU it K o=>intro h Q u g hw;exact Pd (λk v C=>o k v g C) hw
  |clear zero s K o=>intro h Q u g hw;exact Qr (λz C=>o g C) hw
  |J3 i args K o=>intro h Q u g hw;exact o (λt y z C=>C.mono λT L=>g _ _ _ L) hw
end
end Go.Sw
