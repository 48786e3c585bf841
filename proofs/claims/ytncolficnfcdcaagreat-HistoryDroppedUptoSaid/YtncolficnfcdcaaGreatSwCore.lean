/-
  Shallow programs over heaps, what it means that one ends well (wp), and small facts on heaps. No program of the kit's is named here.
-/
import Derived.Orders
import Derived.Laws.Sem
import Derived.Laws.World
import Derived.KernelRfl
import Derived.RangeFuncLeaves
import Derived.RangeFuncRecord
set_option linter.unusedSimpArgs false
set_option linter.unusedVariables false
namespace Go.Sw
abbrev Heap:=Array Obj
def cell (h:Heap) (a:Addr):Option Value:=
  match h[a.block]? with
  | some (.cells c _ _)=>if a.spot.isSome then none else c[a.off]?
  | _=>none
def frz (h:Heap) (a:Addr):Bool:=
  match h[a.block]? with
  | some (.cells _ _ (lo,hi))=>lo≤a.off && a.off<hi
  | _=>false
def setCell (h:Heap) (a:Addr) (v:Value):Heap:=
  h.modify a.block fun
    | .cells c elem frozen=>.cells (if a.spot.isSome then c else c.setIfInBounds a.off v) elem frozen
    | o=>o
theorem frz_eq (w:World) (a:Addr):w.frozen? a=frz w.heap a:=rfl
def flat:Value→Bool
  | .agg _ | .tuple _=>false
  | _=>true
theorem flat_oneCell (v:Value):flat v=v.oneCell':=by cases v <;> rfl
def CellsFrom (h:Heap) (a:Addr):Nat→List Value→Prop
  | _,[]=>True
  | i,v::vs=>cell h (a.add i)=some v∧CellsFrom h a (i+1) vs
def Cells (h:Heap) (a:Addr) (vs:List Value):Prop:=CellsFrom h a 0 vs
def WritesFrom (h:Heap) (a:Addr):Nat→List Value→Prop
  | _,[]=>True
  | i,v::vs=>((∃ u,cell h (a.add i)=some u)∧frz h (a.add i)=false∧flat v=true)∧WritesFrom h a (i+1) vs
def putFrom (h:Heap) (a:Addr):Nat→List Value→Heap
  | _,[]=>h
  | i,v::vs=>putFrom (setCell h (a.add i) v) a (i+1) vs
def Writes (h:Heap) (a:Addr) (vs:List Value):Prop:=WritesFrom h a 0 vs
def puts (h:Heap) (a:Addr) (vs:List Value):Heap:=putFrom h a 0 vs
structure Env (w w':World):Prop where
  os:w'.os=w.os
  tape:w'.tape=w.tape
  output:w'.output=w.output
theorem Env.refl (w:World):Env w w:=⟨rfl,rfl,rfl⟩
theorem Env.trans {a b c:World} (h:Env a b) (k:Env b c):Env a c:=⟨k.os.trans h.os,k.tape.trans h.tape,k.output.trans h.output⟩
inductive B where
  | int (k:IntKind)
  | bool
  | str
  | sl
  | ptr
  | map
  | flt (k:FloatKind)
  | any
structure Sl where
  base:Option Addr
  len:Nat
  cap:Nat
@[reducible] def B.den:B→Type
  | .int _=>Int
  | .bool=>Bool
  | .str=>ByteArray
  | .sl=>Sl
  | .ptr=>Option Addr
  | .map=>Option Nat
  | .flt _=>Nat
  | .any=>Value
def B.inj:(b:B)→b.den→Value
  | .int k,n=>.int k n
  | .bool,x=>.bool x
  | .str,s=>.string s
  | .sl,x=>.slice x.base x.len x.cap
  | .ptr,p=>.pointer p
  | .map,r=>.map r
  | .flt k,n=>.float k n
  | .any,v=>v
@[reducible] def Bs.den:List B→Type
  | []=>Unit
  | b::bs=>b.den×Bs.den bs
def Bs.inj:(bs:List B)→Bs.den bs→List Value
  | [],_=>[]
  | b::bs,x=>b.inj x.1::Bs.inj bs x.2
inductive Ty where
  | one (b:B)
  | agg (bs:List B)
@[reducible] def Ty.den:Ty→Type
  | .one b=>b.den
  | .agg bs=>Bs.den bs
def Ty.cells:(t:Ty)→t.den→List Value
  | .one b,x=>[b.inj x]
  | .agg bs,x=>Bs.inj bs x
def Ty.inj:(t:Ty)→t.den→Value
  | .one b,x=>b.inj x
  | .agg bs,x=>.agg (Bs.inj bs x).toArray
@[reducible] def Ts.den:List Ty→Type
  | []=>Unit
  | t::ts=>t.den×Ts.den ts
def Ts.inj:(ts:List Ty)→Ts.den ts→List Value
  | [],_=>[]
  | t::ts,x=>t.inj x.1::Ts.inj ts x.2
def resV:List Value→Value
  | [v]=>v
  | vs=>.tuple vs.toArray
inductive Prog where
  | ret (tag:Nat) (vs:List Value)
  | fail
  | assert (c:Prop) (K:Prog)
  | load (t:Ty) (p:Option Addr) (K:t.den→Prog)
  | store (p:Option Addr) (vs:List Value) (K:Prog)
  | alloc (vs:List Value) (K:Addr→Prog)
  | mk (bytes:Nat) (zero:List Value) (len cap:Int) (K:Sl→Prog)
  | append (size bytes:Nat) (zero:List Value) (s x:Sl) (K:Sl→Prog)
  | copy (size:Nat) (d s:Sl) (K:Nat→Prog)
  | call (m:Prog) (tys:List Ty) (K:Ts.den tys→Prog)
  | invoke (c:Value) (name:String) (args:List Value) (tys:List Ty) (K:Ts.den tys→Prog)
  | callv (f:Value) (args:List Value) (tys:List Ty) (K:Ts.den tys→Prog)
  | bind (m:Prog) (K:Nat→List Value→Prog)
  | cast (tys:List Ty) (vs:List Value) (K:Ts.den tys→Prog)
  | loop (tys:List Ty) (s:Ts.den tys) (body:Ts.den tys→Prog)
  | check (p:Option Addr) (vs:List Value) (K:Prog)
  | bytes (x:Sl) (K:ByteArray→Prog)
  | nilok (x:Value) (K:Prog)
  | flt (r:Option Nat) (K:Nat→Prog)
  | sem (s:Sem Value) (K:Value→Prog)
  | both (a b:Prog)
  | ex (K:Nat→Prog)
  | peq (p q:Option Addr) (K:Bool→Prog)
  | range (f:Value) (tys outs:List Ty) (asg:Ts.den tys→Prog) (body:Ts.den outs→Prog) (K:Nat→Prog)
  | mkmap (K:Nat→Prog)
  | mget (r:Option Nat) (k:Int) (K:Int→Bool→Prog)
  | mput (r:Option Nat) (k v:Int) (K:Prog)
  | mlen (r:Option Nat) (K:Nat→Prog)
  | miter (r:Option Nat) (K:Addr→Prog)
  | mnext (it:Option Addr) (K:Int→Int→Prog) (K0:Prog)
  | mentry (it:Option Addr) (K:Int→Int→Prog)
  | clear (zero:List Value) (s:Sl) (K:Prog)
  | deferv (i:FuncId) (args:List Value) (K:Prog)
abbrev Ents:=List (Int×Int×Nat)
def entO (e:Int×Int×Nat):MapEntry:=⟨.int .i64 e.1, .int .i64 e.2.1,e.2.2⟩
def mapO (l:Ents) (c:Nat):Obj:=.map (l.map entO).toArray c
def mfind (k:Int):Ents→Option Int
  | []=>none
  | e::l=>if e.1=k then some e.2.1 else mfind k l
def mset (k v:Int):Ents→Ents
  | []=>[]
  | e::l=>if e.1=k then (k,v,e.2.2)::l else e::mset k v l
def mputO (k v:Int) (l:Ents) (c:Nat):Obj:=
  match mfind k l with
  | some _=>mapO (mset k v l) c
  | none=>mapO (l++[(k,v,c)]) (c+1)
def MapAt (h:Heap) (r:Option Nat) (l:Ents):Prop:=
  match r with
  | none=>l=[]
  | some m=>∃ c,h[m]? = some (mapO l c)
def mnextWp (it:Option Addr) (h:Heap) (K:Int→Int→Heap→Prop) (K0:Heap→Prop):Prop:=
  ∃ i m since seen last l c,it=some ⟨i,0,none⟩∧h[i]? = some (.mapIter (some m) since seen last)∧h[m]? = some (mapO l c) ∧
    (seen = #[]∨l=[]∨∃ e∈l,e.2.2<last) ∧
    (∀ e∈l,seen.contains e.2.2=false→K e.1 e.2.1 (h.setIfInBounds i (.mapIter (some m) since (seen.push e.2.2) c))) ∧
    ((∀ e∈l,seen.contains e.2.2=false→since≤e.2.2)→K0 h)
def CallsV (P:Program) (f:FuncId) (args:List Value) (h:Heap) (Q:List Value→Heap→Prop):Prop:=
  ∀ w:World,w.heap=h→Calls P f args.toArray w fun e w'=>∃ vs,e = .returned (resV vs)∧Env w w'∧Q vs w'.heap
def InvokesV (P:Program) (c:Value) (name:String) (args:List Value) (h:Heap) (Q:List Value→Heap→Prop):Prop:=
  ∀ w:World,w.heap=h→∃ f as,(callMethod c name args.toArray).run P w = .ok (.enter f as) w ∧
    Calls P f as w fun e w'=>∃ vs,e = .returned (resV vs)∧Env w w'∧Q vs w'.heap
def DynE (P:Program) (f:Value) (args:List Value) (h:Heap) (Q:List Value→Heap→Prop):Prop:=
  ∀ w:World,w.heap=h→∃ d g as,(Deferred.ofValue f args.toArray).run P w = .ok d w∧(invoke d.target d.args).run P w = .ok (.enter g as) w ∧
    Calls P g as w fun e w'=>∃ vs,e = .returned (resV vs)∧Env w w'∧Q vs w'.heap
def DynV (P:Program) (f:Value) (args:List Value) (h:Heap) (Q:List Value→Heap→Prop):Prop:=
  ∀ w:World,w.heap=h→∃ d,(Deferred.ofValue f args.toArray).run P w = .ok d w ∧
    ((∃ g as,(invoke d.target d.args).run P w = .ok (.enter g as) w∧Calls P g as w fun e w'=>∃ vs,e = .returned (resV vs)∧Env w w'∧Q vs w'.heap) ∨
     (∃ l fn tmps assign body,(invoke d.target d.args).run P w = .ok (.round l fn tmps assign body) w ∧
        RoundIn Fence.wide 0 P l fn tmps assign body w fun e w'=>∃ vs,e = .returned (resV vs)∧Env w w'∧Q vs w'.heap))
def DefersV (P:Program) (i:FuncId) (args:List Value) (h:Heap) (Q:Heap→Prop):Prop:=
  ∀ (u:FrameMode) (w:World),w.heap=h→CallsDIn Fence.wide 0 P i args.toArray u w fun e u' w'=>u'=u∧∃ v,e = .returned v∧Env w w'∧Q w'.heap
theorem DefersV.mono {P:Program} {i:FuncId} {args:List Value} {h:Heap} {Q Q':Heap→Prop} (hc:DefersV P i args h Q) (hq:∀ h',Q h'→Q' h'):DefersV P i args h Q':=
  fun u w hw=>(hc u w hw).mono fun _ _ _ ⟨e,v,r,n,q⟩=>⟨e,v,r,n,hq _ q⟩
theorem DynE.toV {P:Program} {f:Value} {args:List Value} {h:Heap} {Q:List Value→Heap→Prop} (e:DynE P f args h Q):DynV P f args h Q:=
  fun w hw=>let ⟨d,g,as,h1,h2,h3⟩:=e w hw; ⟨d,h1, .inl ⟨g,as,h2,h3⟩⟩
abbrev yieldV (l:Nat):Value:=.func (.yield l) #[] #[]
def jumpOf:Nat→Option Code
  | 0=>none
  | 1=>some .ret
  | n+2=>some (.exit n)
def recOf (r:Loop) (j:Nat):Loop:={ r with state:=if (jumpOf j).isNone then .ready else .done,pending:=jumpOf j }
def busyOf (r:Loop):Loop:={ r with state:=.busy }
def goneOf (r:Loop):Loop:={ r with state:=.exhausted }
theorem InvokesV.mono {P:Program} {c:Value} {name:String} {args:List Value} {h:Heap} {Q Q':List Value→Heap→Prop} (hc:InvokesV P c name args h Q)
    (hq:∀ vs h',Q vs h'→Q' vs h'):InvokesV P c name args h Q':=
  fun w hw=>let ⟨f,as,r,k⟩:=hc w hw; ⟨f,as,r,k.mono fun _ _ ⟨vs,e,n,q⟩=>⟨vs,e,n,hq _ _ q⟩⟩
theorem DynE.mono {P:Program} {f:Value} {args:List Value} {h:Heap} {Q Q':List Value→Heap→Prop} (hc:DynE P f args h Q)
    (hq:∀ vs h',Q vs h'→Q' vs h'):DynE P f args h Q':=
  fun w hw=>let ⟨d,f,as,r,s,k⟩:=hc w hw; ⟨d,f,as,r,s,k.mono fun _ _ ⟨vs,e,n,q⟩=>⟨vs,e,n,hq _ _ q⟩⟩
theorem DynV.mono {P:Program} {f:Value} {args:List Value} {h:Heap} {Q Q':List Value→Heap→Prop} (hc:DynV P f args h Q)
    (hq:∀ vs h',Q vs h'→Q' vs h'):DynV P f args h Q':=fun w hw=>by
  obtain ⟨d,r,⟨f,as,s,k⟩ | ⟨l,fn,tmps,assign,body,s,k⟩⟩:=hc w hw
  · exact ⟨d,r, .inl ⟨f,as,s,k.mono fun _ _ ⟨vs,e,n,q⟩=>⟨vs,e,n,hq _ _ q⟩⟩⟩
  · exact ⟨d,r, .inr ⟨l,fn,tmps,assign,body,s,k.mono fun _ _ ⟨vs,e,n,q⟩=>⟨vs,e,n,hq _ _ q⟩⟩⟩
def NilOk (P:Program) (x:Value):Prop:=
  ∀ w:World,(execOp (fun _=>x) { dst:=none,op:=.nilCheck (.tmp 0),type:=0,pos:= "", after:=#[],guard:=none }).run P w = .ok (.value x) w
def Firsts (h:Heap) (p:Option Addr) (k:Nat) (vs:List Value):Prop:=
  match p with
  | none=>vs=[]
  | some a=>vs.length=k∧Cells h a vs
def zeros (zero:List Value):Nat→List Value
  | 0=>[]
  | n+1=>zero++zeros zero n
def appendWp (size bytes:Nat) (zero:List Value) (s x:Sl) (h:Heap) (K:Sl→Heap→Prop):Prop:=
  ∃ new,Firsts h x.base (x.len*size) new ∧
    if s.len+x.len≤s.cap then
      match s.base with
      | none=>K ⟨none,s.len+x.len,s.cap⟩ h
      | some a=>Writes h (a.add (s.len*size)) new∧K ⟨some a,s.len+x.len,s.cap⟩ (puts h (a.add (s.len*size)) new)
    else
      ∃ old,Firsts h s.base (s.len*size) old∧Builtin.nextslicecap (s.len+x.len) s.cap*bytes≤2 ^ 48∧s.len+x.len<2 ^ 63 ∧
        ∀ cap elem,s.len+x.len≤cap→cap<2 ^ 63 →
          K ⟨some ⟨h.size,0,none⟩,s.len+x.len,cap⟩ (h.push (.cells (old++new++zeros zero (cap-(s.len+x.len))).toArray elem))
def copyWp (size:Nat) (d s:Sl) (h:Heap) (K:Nat→Heap→Prop):Prop:=
  ∃ new,Firsts h s.base (min s.len d.len*size) new ∧
    match d.base with
    | none=>K (min s.len d.len) h
    | some a=>Writes h a new∧K (min s.len d.len) (puts h a new)
def plainAt (h:Heap) (a:Addr):Prop:=∃ c e,h[a.block]? = some (.cells c e)
def clearWp (zero:List Value) (s:Sl) (h:Heap) (K:Heap→Prop):Prop:=
  match s.base with
  | none=>K h
  | some a=>Writes h a (zeros zero s.len)∧K (puts h a (zeros zero s.len))
def mentryWp (it:Option Addr) (h:Heap) (K:Int→Int→Prop):Prop:=
  ∃ i m since seen stamp l c,it=some ⟨i,0,none⟩∧h[i]? = some (.mapIter (some m) since (Array.push seen stamp) c)∧h[m]? = some (mapO l c) ∧
    ∃ e,l.find? (fun e=>e.2.2 == stamp)=some e∧K e.1 e.2.1
theorem mentryWp_mono {it:Option Addr} {h:Heap} {K K':Int→Int→Prop} (hk:∀ k v,K k v→K' k v) (hh:mentryWp it h K):mentryWp it h K':=by
  obtain ⟨i,m,since,seen,stamp,l,c,h1,h2,h3,e,h4,h5⟩:=hh
  exact ⟨i,m,since,seen,stamp,l,c,h1,h2,h3,e,h4,hk _ _ h5⟩
def wp (P:Program):Prog→Heap→(Nat→List Value→Heap→Prop)→Prop
  | .ret tag vs,h,Q=>Q tag vs h
  | .fail,_,_=>False
  | .assert c K,h,Q=>c∧wp P K h Q
  | .load t p K,h,Q=>∃ a,p=some a∧∃ x,Cells h a (t.cells x)∧wp P (K x) h Q
  | .store p vs K,h,Q=>∃ a,p=some a∧Writes h a vs∧wp P K (puts h a vs) Q
  | .alloc vs K,h,Q=>∀ elem,wp P (K ⟨h.size,0,none⟩) (h.push (.cells vs.toArray elem)) Q
  | .mk bytes zero len cap K,h,Q=>(0≤len∧len≤cap∧cap<2 ^ 63∧bytes*cap≤2 ^ 48) ∧
      ∀ elem,wp P (K ⟨some ⟨h.size,0,none⟩,len.toNat,cap.toNat⟩) (h.push (.cells (zeros zero cap.toNat).toArray elem)) Q
  | .append size bytes zero s x K,h,Q=>appendWp size bytes zero s x h fun r h'=>wp P (K r) h' Q
  | .copy size d s K,h,Q=>copyWp size d s h fun n h'=>wp P (K n) h' Q
  | .call m tys K,h,Q=>wp P m h fun tag vs h'=>tag=0∧∃ x,vs=Ts.inj tys x∧wp P (K x) h' Q
  | .invoke c name args tys K,h,Q=>InvokesV P c name args h fun vs h'=>∃ x,vs=Ts.inj tys x∧wp P (K x) h' Q
  | .callv f args tys K,h,Q=>DynV P f args h fun vs h'=>∃ x,vs=Ts.inj tys x∧wp P (K x) h' Q
  | .bind m K,h,Q=>wp P m h fun tag vs h'=>wp P (K tag vs) h' Q
  | .cast tys vs K,h,Q=>∃ x,vs=Ts.inj tys x∧wp P (K x) h Q
  | .loop tys s body,h,Q=>∃ (I:Ts.den tys→Heap→Prop) (μ:Ts.den tys→Heap→Nat),I s h∧∀ s h,I s h→wp P (body s) h fun tag vs h'=>
      (tag=0→∃ s',vs=Ts.inj tys s'∧I s' h'∧μ s' h'<μ s h)∧(tag≠0→Q tag vs h')
  | .check p vs K,h,Q=>(∃ a,p=some a∧Cells h a vs)∧wp P K h Q
  | .bytes x K,h,Q=>∃ l:List UInt8,Firsts h x.base x.len (l.map fun b=>.int .u8 b.toNat)∧wp P (K ⟨l.toArray⟩) h Q
  | .nilok x K,h,Q=>NilOk P x∧wp P K h Q
  | .flt r K,h,Q=>∃ v,r=some v∧wp P (K v) h Q
  | .sem s K,h,Q=>∀ w:World,w.heap=h→∃ v w',s.run P w = .ok v w'∧Env w w'∧wp P (K v) w'.heap Q
  | .both a b,h,Q=>wp P a h Q∧wp P b h Q
  | .ex K,h,Q=>∃ n,wp P (K n) h Q
  | .peq p q K,h,Q=>match p,q with
      | some a,some b=>(a.block=b.block∧wp P (K (a == b)) h Q)∨(a.block≠b.block∧plainAt h a∧plainAt h b∧wp P (K false) h Q)
      | some _,none=>wp P (K false) h Q
      | none,q=>wp P (K q.isNone) h Q
  | .range f tys outs asg body K,h,Q=>∀ r:Loop,r.state = .ready→r.pending=none →
      (∀ (x:Ts.den tys) (h2:Heap) (R:List Value→Heap→Prop),h2[h.size+1]? = some (.loop r) →
        wp P (asg x) h2 (fun tag vs h3=>tag=0∧∃ y,vs=Ts.inj outs y∧h3[h.size+1]? = some (.loop r) ∧
          wp P (body y) (h3.setIfInBounds (h.size+1) (.loop (busyOf r))) fun tag _ h4=>h4[h.size+1]? = some (.loop (busyOf r)) ∧
            R [.bool (jumpOf tag).isNone] (h4.setIfInBounds (h.size+1) (.loop (recOf r tag)))) →
        DynV P (yieldV (h.size+1)) (Ts.inj tys x) h2 R) →
      DynE P f [yieldV (h.size+1)] ((h.push (.deferred (some []))).push (.loop r)) fun _ h5=>∃ j,h5[h.size+1]? = some (.loop (recOf r j)) ∧
        wp P (K j) (h5.setIfInBounds (h.size+1) (.loop (goneOf (recOf r j)))) fun t vs h6=>h6[h.size]? = some (.deferred (some []))∧Q t vs (h6.setIfInBounds h.size (.deferred none))
  | .mkmap K,h,Q=>wp P (K h.size) (h.push (mapO [] 0)) Q
  | .mget r k K,h,Q=>∃ l,MapAt h r l∧wp P (K ((mfind k l).getD 0) (mfind k l).isSome) h Q
  | .mput r k v K,h,Q=>∃ m l c,r=some m∧h[m]? = some (mapO l c)∧wp P K (h.setIfInBounds m (mputO k v l c)) Q
  | .mlen r K,h,Q=>∃ l,MapAt h r l∧wp P (K l.length) h Q
  | .miter r K,h,Q=>∃ m l c,r=some m∧h[m]? = some (mapO l c)∧wp P (K ⟨h.size,0,none⟩) (h.push (.mapIter (some m) c #[] c)) Q
  | .mnext it K K0,h,Q=>mnextWp it h (fun k v h'=>wp P (K k v) h' Q) (fun h'=>wp P K0 h' Q)
  | .mentry it K,h,Q=>mentryWp it h fun k v=>wp P (K k v) h Q
  | .clear zero s K,h,Q=>clearWp zero s h fun h'=>wp P K h' Q
  | .deferv i args K,h,Q=>wp P K h fun t vs h'=>DefersV P i args h' fun h''=>Q t vs h''
theorem appendWp_mono {size bytes:Nat} {zero:List Value} {s x:Sl} {h:Heap} {K K':Sl→Heap→Prop} (hk:∀ r h',K r h'→K' r h')
    (hh:appendWp size bytes zero s x h K):appendWp size bytes zero s x h K':=by
  obtain ⟨new,h1,h2⟩:=hh
  refine ⟨new,h1,?_⟩
  split
  · rename_i hc
    simp only [hc,if_true] at h2
    split
    · rename_i e; simp only [e] at h2; exact hk _ _ h2
    · rename_i a e; simp only [e] at h2; exact ⟨h2.1,hk _ _ h2.2⟩
  · rename_i hc
    simp only [hc,if_false] at h2
    obtain ⟨old,a,b,b',c⟩:=h2
    exact ⟨old,a,b,b',fun cap e x y=>hk _ _ (c cap e x y)⟩
theorem copyWp_mono {size:Nat} {d s:Sl} {h:Heap} {K K':Nat→Heap→Prop} (hk:∀ r h',K r h'→K' r h')
    (hh:copyWp size d s h K):copyWp size d s h K':=by
  obtain ⟨new,h1,h2⟩:=hh
  refine ⟨new,h1,?_⟩
  split
  · rename_i e; simp only [e] at h2; exact hk _ _ h2
  · rename_i a e; simp only [e] at h2; exact ⟨h2.1,hk _ _ h2.2⟩
theorem mnextWp_mono {it:Option Addr} {h:Heap} {K K':Int→Int→Heap→Prop} {K0 K0':Heap→Prop} (hk:∀ k v h',K k v h'→K' k v h') (h0:∀ h',K0 h'→K0' h')
    (hh:mnextWp it h K K0):mnextWp it h K' K0':=by
  obtain ⟨i,m,since,seen,last,l,c,h1,h2,h3,h4,h5,h6⟩:=hh
  exact ⟨i,m,since,seen,last,l,c,h1,h2,h3,h4,fun e he hs=>hk _ _ _ (h5 e he hs),fun hs=>h0 _ (h6 hs)⟩
theorem clearWp_mono {zero:List Value} {s:Sl} {h:Heap} {K K':Heap→Prop} (hk:∀ h',K h'→K' h') (hh:clearWp zero s h K):clearWp zero s h K':=by
  unfold clearWp at *
  split
  · rename_i e; simp only [e] at hh; exact hk _ hh
  · rename_i a e; simp only [e] at hh; exact ⟨hh.1,hk _ hh.2⟩
theorem wp_mono {P:Program} (p:Prog):∀ {h:Heap} {Q Q':Nat→List Value→Heap→Prop},(∀ t vs h',Q t vs h'→Q' t vs h')→wp P p h Q→wp P p h Q':=by
  induction p with
  | ret tag vs=>intro h Q Q' hq hw; exact hq _ _ _ hw
  | fail=>intro h Q Q' hq hw; exact hw
  | assert c K ih=>intro h Q Q' hq hw; exact ⟨hw.1,ih hq hw.2⟩
  | load t p K ih=>intro h Q Q' hq hw; obtain ⟨a,e,x,c,k⟩:=hw; exact ⟨a,e,x,c,ih _ hq k⟩
  | store p vs K ih=>intro h Q Q' hq hw; obtain ⟨a,e,c,k⟩:=hw; exact ⟨a,e,c,ih hq k⟩
  | alloc vs K ih=>intro h Q Q' hq hw e; exact ih _ hq (hw e)
  | mk bytes zero len cap K ih=>intro h Q Q' hq hw; exact ⟨hw.1,fun e=>ih _ hq (hw.2 e)⟩
  | append size bytes zero s x K ih=>intro h Q Q' hq hw; exact appendWp_mono (fun r h' k=>ih r hq k) hw
  | copy size d s K ih=>intro h Q Q' hq hw; exact copyWp_mono (fun r h' k=>ih r hq k) hw
  | call m tys K ihm ih=>intro h Q Q' hq hw; exact ihm (fun t vs h' ⟨e,x,e',k⟩=>⟨e,x,e',ih x hq k⟩) hw
  | invoke c name args tys K ih=>intro h Q Q' hq hw; exact InvokesV.mono hw fun vs h' ⟨x,e',k⟩=>⟨x,e',ih x hq k⟩
  | callv f args tys K ih=>intro h Q Q' hq hw; exact DynV.mono hw fun vs h' ⟨x,e',k⟩=>⟨x,e',ih x hq k⟩
  | bind m K ihm ih=>intro h Q Q' hq hw; exact ihm (fun t vs h' k=>ih t vs hq k) hw
  | cast tys vs K ih=>intro h Q Q' hq hw; obtain ⟨x,e,k⟩:=hw; exact ⟨x,e,ih x hq k⟩
  | loop tys s body ih=>
    intro h Q Q' hq hw
    obtain ⟨I,μ,h0,hr⟩:=hw
    exact ⟨I,μ,h0,fun s h hi=>ih s (fun t vs h' k=>⟨k.1,fun e=>hq _ _ _ (k.2 e)⟩) (hr s h hi)⟩
  | check p vs K ih=>intro h Q Q' hq hw; exact ⟨hw.1,ih hq hw.2⟩
  | bytes x K ih=>intro h Q Q' hq hw; obtain ⟨l,c,k⟩:=hw; exact ⟨l,c,ih _ hq k⟩
  | nilok x K ih=>intro h Q Q' hq hw; exact ⟨hw.1,ih hq hw.2⟩
  | flt r K ih=>intro h Q Q' hq hw; obtain ⟨v,e,k⟩:=hw; exact ⟨v,e,ih v hq k⟩
  | sem s K ih=>intro h Q Q' hq hw w e; obtain ⟨v,w',r,n,k⟩:=hw w e; exact ⟨v,w',r,n,ih v hq k⟩
  | both a b iha ihb=>intro h Q Q' hq hw; exact ⟨iha hq hw.1,ihb hq hw.2⟩
  | ex K ih=>intro h Q Q' hq hw; obtain ⟨n,hw⟩:=hw; exact ⟨n,ih n hq hw⟩
  | peq p q K ih=>
    intro h Q Q' hq hw
    cases p with
    | none=>exact ih _ hq hw
    | some a=>cases q with
      | none=>exact ih _ hq hw
      | some b=>
        rcases hw with ⟨h1,h2⟩ | ⟨h1,h2,h3,h4⟩
        · exact .inl ⟨h1,ih _ hq h2⟩
        · exact .inr ⟨h1,h2,h3,ih _ hq h4⟩
  | range f tys outs asg body K iha ihb ih=>
    intro h Q Q' hq hw r hr hp hy
    exact DynE.mono (hw r hr hp hy) fun vs h5 ⟨j,h1,h2⟩=>⟨j,h1,ih j (fun t vs h6 hx=>⟨hx.1,hq _ _ _ hx.2⟩) h2⟩
  | mkmap K ih=>intro h Q Q' hq hw; exact ih _ hq hw
  | mget r k K ih=>
    intro h Q Q' hq hw
    obtain ⟨l,h1,h2⟩:=hw
    exact ⟨l,h1,ih _ _ hq h2⟩
  | mput r k v K ih=>intro h Q Q' hq hw; obtain ⟨m,l,c,h1,h2,h3⟩:=hw; exact ⟨m,l,c,h1,h2,ih hq h3⟩
  | mlen r K ih=>intro h Q Q' hq hw; obtain ⟨l,h1,h2⟩:=hw; exact ⟨l,h1,ih _ hq h2⟩
  | miter r K ih=>intro h Q Q' hq hw; obtain ⟨m,l,c,h1,h2,h3⟩:=hw; exact ⟨m,l,c,h1,h2,ih _ hq h3⟩
  | mnext it K K0 ih ih0=>intro h Q Q' hq hw; exact mnextWp_mono (fun k v h' hx=>ih k v hq hx) (fun h' hx=>ih0 hq hx) hw
  | mentry it K ih=>intro h Q Q' hq hw; exact mentryWp_mono (fun k v hx=>ih k v hq hx) hw
  | clear zero s K ih=>intro h Q Q' hq hw; exact clearWp_mono (fun h' hx=>ih hq hx) hw
  | deferv i args K ih=>intro h Q Q' hq hw; exact ih (fun t vs h' hx=>hx.mono fun h'' hy=>hq _ _ _ hy) hw
end Go.Sw
