import Derived.Test.YtncolficnfcdcaaGreatSwS5m
import Derived.Laws.BytesString
set_option linter.unusedVariables false
set_option linter.unusedSimpArgs false
namespace Go.Sw
section
variable{P:Program}{a:Act}{Q:Exit->Act->World->Prop}
def KJ(P:Program)(Γ:Ctx):Prop:=∀i args m tys,Γ i args=some (m,tys) ->
  (∀as (w:World),(callFunc i as).run P w = .ok (.enter i as) w)/\∀h Q,wp P m h (λtag vs h'=>tag=0/\Q vs h')->Uo P i args h Q
structure St(w0:World)(G:Act->Prop)(n:Nat)(f:Fr)(a:Act)(w:World):Prop where
  fr:sE f a
  sz:a.tmps.size=n
  env:Env w0 w
  g:G a
def uO(G:Act->Prop)(ws:List Nat):Prop:=∀a d v,d∈ws->G a->G (a.put (some d) v)
theorem sE.put{f:Fr}{a:Act}(h:sE f a){d:Option Nat}(c:∀k,d=some k->k<a.tmps.size)(v:Value):sE (f.put d v) (a.put d v):=by
  cases d with
  |none=>exact h
  |some d=>
    intro n u hu;simp only[Fr.put,Fr.tQ]at hu;have b:=c d rfl;by_cases e:d=n
    . subst e
      simp only[if_true,gO]at hu;subst hu;simp[Act.put,b]
    . simp only[e,if_false]at hu
      have:=h n u hu;simp[Act.put,yH e,this]
theorem St.put{w0:World}{G:Act->Prop}{n:Nat}{f:Fr}{a:Act}{w w':World}(h:St w0 G n f a w){ws:List Nat}(c:uO G ws){d:Option Nat}
    (b:∀k,d=some k->k<n/\k∈ws) (hw:Env w w') (v:Value):St w0 G n (f.put d v) (a.put d v) w' where
  fr:=h.fr.put (λk e=>by rw[h.sz];exact(b k e).1) v
  sz:=by cases d<;>simp[Act.put,h.sz]
  env:=h.env.trans hw
  g:=by
    cases d with
    |none=>exact h.g
    |some d=>exact c a d v (b d rfl).2 h.g
def Ot(P:Program)(o:Oper)(a:Act)(next:Act->World->Prop)(Q:Exit->Act->World->Prop):Result Next->Prop
  |.ok (.value v) w'=>next (a.put o.dst v) w'
  |.ok .skip w'=>next (a.put o.dst undef) w'
  | .ok (.enter f args) w'=>Calls P f args w' fun
      |.returned v,w''=>next (a.put o.dst v) w''
      |.panicked chain,w''=>Q (.panic chain) a w''
      |.outgrown,_=>LetsOut Q
  | .ok (.round l f tmps assign body) w'=>RoundIn Fence.wide 0 P l f tmps assign body w' fun
      |.returned v,w''=>next (a.put o.dst v) w''
      |.panicked chain,w''=>Q (.panic chain) a w''
      |.outgrown,_=>LetsOut Q
  |.halt (.panic v) w'=>Q (.panic [{v,recovered:=false}]) a w'
  |_=>False
end
end Go.Sw
namespace Go
open Go.Sw
variable{P:Program}{a:Act}{Q:Exit->Act->World->Prop}
def Oper.JC(P:Program)(o:Oper)(a:Act)(w:World)(next:Act->World->Prop)(Q:Exit->Act->World->Prop):Prop:=
  Ot P o a next Q ((execOp a.eval o).run P w)
end Go
namespace Go.Sw
section
variable{P:Program}{a:Act}{Q:Exit->Act->World->Prop}
end
end Go.Sw
namespace Go
open Go.Sw
variable{P:Program}{a:Act}{Q:Exit->Act->World->Prop}
theorem Oper.JD{o:Oper}{w:World}{K d:Act->World->Prop}{f:Exit->Act->World->Prop}(c:∀a w,K a w->d a w)(b:∀e a w,Q e a w->f e a w)(h:o.JC P a w K Q):o.JC P a w d f:=by
  unfold Oper.JC at *;generalize(execOp a.eval o).run P w=r at *;cases r with
  |ok n w'=>
    cases n<;>simp only[Ot]at h⊢ <;>
      first
        |exact c _ _ h
        |exact Calls.mono h (λe g he=>by
            cases e
            . exact c _ _ he
            . exact b _ _ _ he
            . obtain⟨x,y,he⟩:=he;exact⟨x,y,b _ _ _ he⟩)
        |exact RoundIn.mono h (λe g he=>by
            cases e
            . exact c _ _ he
            . exact b _ _ _ he
            . obtain⟨x,y,he⟩:=he;exact⟨x,y,b _ _ _ he⟩)
  |halt x w'=>cases x<;>simp only[Ot]at h⊢;exact b _ _ _ h
end Go
namespace Go.Sw
section
variable{P:Program}{a:Act}{Q:Exit->Act->World->Prop}
def LP(ro:Option Nat):Fence:={Fence.wide with round:=ro}
theorem Sp:LP none=Fence.wide:=rfl
theorem m7(l:Nat):Fence.wide.inRound l=LP (some l):=rfl
theorem ZZ{o:Oper}{w:World}{next:Act->World->Prop}(h:o.JC P a w next λ_ _ _=>False):∀c,o.op ≠ .defer c:=by
  intro c b;unfold Oper.JC at h;have:execOp a.eval o=(do pure (Next.defer (<-resolve a.eval c o.type)):Sem Next):=by
    unfold execOp;rw[b]
  rw[this,Sem.run_bind]at h;generalize(resolve a.eval c o.type).run P w=r at h;cases r with
  |ok d w'=>simp[Result.andThen,Ot]at h
  |halt x w'=>cases x<;>simp[Result.andThen,Ot]at h
theorem KP{ro:Option Nat}{n:Nat}{f:FuncId}{args:Array Value}{w:World}{R:Ending->World->Prop}(h:Calls P f args w R):CallsIn (LP ro) n P f args w R:=by
  have:=(callsIn_wide (n:=n)).2 h;exact this
theorem TU{ro:Option Nat}{l:Nat}{f:FuncId}{tmps:Array Value}{assign body:Code}{w:World}{R:Ending->World->Prop}(h:RoundIn Fence.wide 0 P l f tmps assign body w R):RoundIn (LP ro) 0 P l f tmps assign body w R:=h
theorem Kx{ro:Option Nat}{o:Oper}{w:World}{next next':Act->World->Prop}(b:∀a w,next a w->next' a w)(h:o.JC P a w next λ_ _ _=>False):o.wpIn (LP ro) 0 P a w next' Q:=by
  refine⟨λ_ _=>trivial,?_⟩;rw[Oper.semAt_eq _ _ _ (ZZ h)];unfold Oper.JC at h;generalize(execOp a.eval o).run P w=r at *;cases r with
  |ok n w'=>
    cases n with
    |value v=>exact b _ _ h
    |skip=>exact b _ _ h
    |enter f args=>
      refine⟨λx=>(by cases x),KP (Calls.mono h (λe c he=>?_))⟩;cases e with
      |returned v=>exact b _ _ he
      |panicked ch=>exact he.elim
      |outgrown=>obtain⟨_,_,he⟩:=he;exact he.elim
    |round l f tmps assign body=>
      refine⟨λx=>(by cases x),TU (RoundIn.mono h (λe c he=>?_))⟩;cases e with
      |returned v=>exact b _ _ he
      |panicked ch=>exact he.elim
      |outgrown=>obtain⟨_,_,he⟩:=he;exact he.elim
    |_=>exact h.elim
  |halt x w'=>cases x<;>exact h.elim
def qS(P:Program)(dr:Bool)(o:Oper)(a:Act)(w:World)(next:Act->World->Prop):Prop:=
  match dr,lN P o.op with
  |true, .pure=>∃v,(∀w',(execOp a.eval o).run P w' = .ok (.value v) w')/\next (a.put o.dst v) w
  |true, .load=>∃v,(execOp a.eval o).run P w = .ok (.value v) w/\next (a.put o.dst v) w
  |_,_=>o.JC P a w next λ_ _ _=>False
section
variable{P:Program}{dr:Bool}{o:Oper}{a:Act}{w:World}{next:Act->World->Prop}
variable{v:Value}{w':World}{q:Option Addr}{e:TypeId}
theorem Gp(h:∀w',(execOp a.eval o).run P w' = .ok (.value v) w')(b:next (a.put o.dst v) w):qS P dr o a w next:=by
  unfold qS;split
  . exact⟨v,h,b⟩
  . exact⟨v,h w,b⟩
  . unfold Oper.JC;rw[h w];exact b
theorem Of(c:∀x,lN P o.op=x->x ≠ .pure)(h:(execOp a.eval o).run P w = .ok (.value v) w)(b:next (a.put o.dst v) w):qS P dr o a w next:=by
  unfold qS;split
  . rename_i e;exact absurd rfl (c _ e)
  . exact⟨v,h,b⟩
  . unfold Oper.JC;rw[h];exact b
theorem Ju(b:dr=true->lN P o.op = .SX)(h:o.JC P a w next λ_ _ _=>False):qS P dr o a w next:=by
  unfold qS;split
  . rename_i e;rw[b rfl]at e;cases e
  . rename_i e;rw[b rfl]at e;cases e
  . exact h
theorem gH(b:dr=true->lN P o.op = .SX)(h:(execOp a.eval o).run P w = .ok (.value v) w')(c:next (a.put o.dst v) w'):qS P dr o a w next:=
  Ju b (by unfold Oper.JC;rw[h];exact c)
theorem stepR_skip(b:dr=true->lN P o.op = .SX)(h:(execOp a.eval o).run P w = .ok .skip w')(c:next (a.put o.dst undef) w'):qS P dr o a w next:=
  Ju b (by unfold Oper.JC;rw[h];exact c)
theorem Ck(g:dr=true->lN P o.op = .SX){f:FuncId}{args:Array Value}(h:(execOp a.eval o).run P w = .ok (.enter f args) w')
    (i:Calls P f args w' λe b=>∃c,e = .returned (Bv c)/\next (a.put o.dst (Bv c)) b):qS P dr o a w next:=by
  refine Ju g ?_;unfold Oper.JC;rw[h];refine i.mono λe b d=>?_;obtain⟨c,rfl,j⟩:=d;exact j
theorem Ua(g:dr=true->lN P o.op = .SX){l:Nat}{f:FuncId}{tmps:Array Value}{assign body:Code}(h:(execOp a.eval o).run P w = .ok (.round l f tmps assign body) w')
    (i:RoundIn Fence.wide 0 P l f tmps assign body w' λe b=>∃c,e = .returned (Bv c)/\next (a.put o.dst (Bv c)) b):qS P dr o a w next:=by
  refine Ju g ?_;unfold Oper.JC;rw[h];refine RoundIn.mono i λe b d=>?_;obtain⟨c,rfl,j⟩:=d;exact j
def kc(h:aG)(p q:Option Addr)(b:Bool):Prop:=
  match p,q with
  |some x,some y=>(x.block=y.block/\b=(x == y))\/(x.block≠y.block/\L3 h x/\L3 h y/\b=false)
  |some _,none=>b=false
  |none,q=>b=q.isNone
theorem dt{p:Option Addr}{K:Bool->aK}{h:aG}{Q:Nat->List Value->aG->Prop}(hw:wp P (.v_ p q K) h Q):∃b,kc h p q b/\wp P (K b) h Q:=by
  cases p with
  |none=>exact⟨_,rfl,hw⟩
  | some x=>cases q with
    |none=>exact⟨_,rfl,hw⟩
    |some y=>
      rcases hw with⟨c,d⟩|⟨c,d,f,g⟩
      . exact⟨_, .inl ⟨c,rfl⟩,d⟩
      . exact⟨_, .inr ⟨c,d,f,rfl⟩,g⟩
theorem Wu{t:TypeId}{i:TypeInfo}{p:Option Addr}{b:Bool}(hu:P.underlying t=some (.pointer e))(hi:P.info? e=some i)(l:i.size≠0)(hb:kc w.heap p q b) :
    (Op.equal t (.pointer p) (.pointer q)).run P w = .ok b w:=by
  have:∀d,(Op.equalIn (d+1) t (.pointer p) (.pointer q)).run P w = .ok b w:=by
    intro d;cases p with
    |none=>have hb:b=q.isNone:=hb;subst hb;simp[Op.equalIn,cG hu]
    | some x=>cases q with
      |none=>have hb:b=false:=hb;subst hb;simp[Op.equalIn,cG hu]
      |some y=>
        rcases hb with⟨g,rfl⟩|⟨g,⟨c1,h,c⟩,⟨c2,j,f⟩,rfl⟩
        . simp[Op.equalIn,cG hu,gT hi,l,sameAddr,g]
        . have f1:∀n,w.frozen? ⟨x.block,n,none⟩=false:=λn=>by simp[World.frozen?,c]
          have f2:∀n,w.frozen? ⟨y.block,n,none⟩=false:=λn=>by simp[World.frozen?,f]
          have k:w.frozen? x=false:=by simp[World.frozen?,c]
          have r:w.frozen? y=false:=by simp[World.frozen?,f]
          have s1:(Go.shape x.block).run P w = .ok (some (h,c1.size)) w:=by simp[Go.shape,Sem.run,World.shape?,c]
          have s2:(Go.shape y.block).run P w = .ok (some (j,c2.size)) w:=by simp[Go.shape,Sem.run,World.shape?,f]
          have v1:(noView x).run P w = .ok () w:=by simp[noView,viewAt,s1]
          have v2:(noView y).run P w = .ok () w:=by simp[noView,viewAt,s2]
          have s:w.shape? x.block=some (h,c1.size):=by simp[World.shape?,c]
          have u:w.shape? y.block=some (j,c2.size):=by simp[World.shape?,f]
          have t1:(stringish x).run P w = .ok false w:=by simp[stringish,Go.frozen,Sem.run,k,s,f1]
          have t2:(stringish y).run P w = .ok false w:=by simp[stringish,Go.frozen,Sem.run,r,u,f2]
          have m:(mayBeOne x y).run P w = .ok false w:=by simp[mayBeOne,s1,s2,t1,t2]
          simp[Op.equalIn,cG hu,gT hi,l,sameAddr,g,k,v1,v2,m]
  exact this 9999
theorem jd(l:List UInt8):∀s:ByteArray,(l.map λb=>(b.toNat:Int)).foldl (λr n=>r.push (UInt8.ofNat n.toNat)) s=⟨s.data++l.toArray⟩:=by
  induction l with
  |nil=>intro s;cases s;simp
  |cons b l c=>
    intro s;simp only[fS,CD];rw[c];cases s;simp[ByteArray.push]
theorem yY{c:Call}{g:Operand}{fr:Fr}{args:List Value}{b:Value}(d:sE fr a)(f:c.callee = .value g)(h:ev fr g=some b)(ha:Sj fr c.args.toList=some args)(ty:TypeId) :
    resolve a.eval c ty=Deferred.ofValue b args.toArray:=by
  simp[resolve,f,bV d h,kZ d ha]
theorem ON{t:TypeId}{name:String}{i:FuncId}(h:Vc P t name=some i)(v:Value)(args:Array Value)(x:∀as (w:World),(callFunc i as).run P w = .ok (.enter i as) w) :
    (callMethod (.iface t v) name args).run P w = .ok (.enter i (#[v]++args)) w:=by
  unfold Vc at h;split at h
  . rename_i A u
    split at h
    . rename_i m g
      have hm:A.methods.find? (λm=>m.name == name)=some m:=by simpa using g
      have key:∀(b:Bool),m.path.toList=[]->m.func=some (i,b)->((b=true/\∃e,P.underlying t=some (.pointer e))\/(b=false/\∃d,P.underlying t=some d/\∀e,d ≠ .pointer e)) ->
          (callMethod (.iface t v) name args).run P w = .ok (.enter i (#[v]++args)) w:=by
        intro b z y hb;have j:∀k,(method (k+1) t v name).run P w = .ok (i,v) w:=by
          intro k;simp only[method,Sem.run_bind,zV u,Result.andThen_ok,hm,z,follow,Sem.run_pure,y];rcases hb with⟨rfl,e,he⟩|⟨rfl,d,s,c⟩
          . simp[receiverAt,cG he,Place.get]
          . simp only[receiverAt,Sem.run_bind,cG s,Result.andThen_ok]
            cases d<;>first|exact absurd rfl (c _)|simp[Place.get]
        have s:0<Made.depth:=by decide
        have r:∃k,P.types.size+Made.depth=k+1:=⟨P.types.size+Made.depth-1,by omega⟩;obtain⟨k,r⟩:=r;simp only[callMethod,Sem.run_bind,run_program,Result.andThen_ok,r,j k,x]
      split at h
      . rename_i f e l n p
        obtain rfl:=dU h;exact key true l n (.inl ⟨rfl,e,p⟩)
      . cases h
      . rename_i f d c l n p
        obtain rfl:=dU h;exact key false l n (.inr ⟨rfl,d,p,λe he=>c e (by rw[he])⟩)
      . cases h
    . cases h
  . cases h
theorem Cz{f:Fr}{a:Act}{w:World}(t:sE f a){dst:Option Tmp}{s d:TypeId}{x:Operand}{type:TypeId}{pos:String}{after:_}{guard:_}{p:Option Addr}{m c:Nat}
    (k:P.underlying s=some (.slice e)) (n:P.underlying d=some .string) (r:P.underlying e=some (.int .u8)) (u:ev f x=some (.slice p m c)) {l:List UInt8}
    (h:xM w.heap p m (l.map λb=>.int .u8 b.toNat)) :
    (execOp a.eval {dst,op:=.convert s d x,type,pos,after,guard}).run P w = .ok (.value (.string ⟨l.toArray⟩)) w:=by
  have hb:(Conv.bytesToString (.slice p m c)).run P w = .ok (.string ⟨l.toArray⟩) w:=by
    cases p with
    |none=>
      simp only[xM]at h;have:l=[]:=List.map_eq_nil_iff.1 h;subst this;rfl
    |some ad=>
      obtain⟨hlen,j⟩:=h;have g:=AQ (P:=P) j;rw[hlen]at g;have i:(loadCells ad m).run P w = .ok ((l.map λb=>(b.toNat:Int)).map (Value.int .u8)).toArray w:=by
        rw[g,sX];rfl
      rw[run_bytesToString w ad m c _ i,jd];simp
  simp[execOp,bV t u,convert,cG k,cG n,cG r,hb]
theorem SZ{Γ:Ctx}{pX:List Nat}(hΓ:KJ P Γ){w0:World}{G:Act->Prop}{n:Nat}{f:Fr}{K:Fr->aK}{Qp:Nat->List Value->aG->Prop}{ws:List Nat}
    (hw:wp P (SY P Γ pX dr o f K) w.heap Qp) (j:St w0 G n f a w) (E:∀d,o.dst=some d->d<n/\d∈ws) (C:uO G ws)
    (D:∀v w',St w0 G n (f.put o.dst v) (a.put o.dst v) w'->wp P (K (f.put o.dst v)) w'.heap Qp->next (a.put o.dst v) w'):qS P dr o a w next:=by
  obtain⟨dst,op,type,pos,after,guard⟩:=o;cases op<;>simp only[SY]at hw<;>try exact hw.elim
  case pick c x y=>
    split at hw
    . rename_i b hb
      cases b
      . simp only[aR,cond_false]at hw
        split at hw
        . rename_i v Y
          refine Gp (v:=v) (λw'=>?_) (D v w (j.put C E (Env.refl w) v) hw);simp[execOp,bV j.fr hb,bV j.fr Y,asBool]
        . exact hw.elim
      . simp only[aR,cond_true]at hw
        split at hw
        . rename_i v Y
          refine Gp (v:=v) (λw'=>?_) (D v w (j.put C E (Env.refl w) v) hw);simp[execOp,bV j.fr hb,bV j.fr Y,asBool]
        . exact hw.elim
    . exact hw.elim
  case load t x=>
    split at hw
    . rename_i p ty H ht
      obtain⟨ad,rfl,y,J,hw⟩:=hw;refine Of (v:=ty.inj y) (λx e=>by rw[<-e];simp[lN]) ?_ (D _ w (j.put C E (Env.refl w) _) hw);simp[execOp,bV j.fr H,Instr.loadAt,nQ,Hz (P:=P) ht J]
    . exact hw.elim
  case store t x y=>
    split at hw
    . rename_i p v H Y
      split at hw
      . rename_i c I a1
        cases J:c
        . simp only[J,bF,cond_false]at hw;exact hw.elim
        simp only[J,bF,cond_true]at hw;obtain⟨ad,rfl,cd,hw⟩:=hw;refine stepR_skip (λ_=>rfl) (w':=wh w (nY w.heap ad I)) ?_ (D undef (wh w (nY w.heap ad I)) (j.put C E (Al _ _) undef) hw);simp[execOp,bV j.fr H,bV j.fr Y,Instr.storeAt,nQ,Ub a1 J cd]
      . exact hw.elim
    . exact hw.elim
  case alloc t=>
    split at hw
    . rename_i z S
      obtain⟨zv,a9,a7⟩:=AX (w:=w) S;refine gH (λ_=>rfl) (v:=.pointer (some ⟨w.heap.size,0,none⟩)) (w':=wh w (w.heap.push (.cells z.toArray t))) ?_ (D _ (wh w (w.heap.push (.cells z.toArray t))) (j.put C E (Al _ _) _) (hw t));simp[execOp,Instr.alloc,a9,PI a7]
    . exact hw.elim
  case box t x=>
    split at hw
    . rename_i v Y
      split at hw
      . rename_i c I a1
        cases J:c
        . simp only[J,bF,cond_false]at hw;exact hw.elim
        simp only[J,bF,cond_true]at hw;obtain⟨i,hi,a0,N⟩:=Cr a1 J;refine gH (λ_=>rfl) (v:=.pointer (some ⟨w.heap.size,0,none⟩)) (w':=wh w (w.heap.push (.cells I.toArray t))) ?_ (D _ (wh w (w.heap.push (.cells I.toArray t))) (j.put C E (Al _ _) _) (hw t));simp[execOp,bV j.fr Y,Instr.box,PI a0]
      . exact hw.elim
    . exact hw.elim
  case buildSlice t m parts=>
    split at hw
    . rename_i e size bytes z I he cc
      cases hb:Nat.ble (m*size) 1000000
      . simp only[hb,cond_false]at hw;exact hw.elim
      simp only[hb,cond_true]at hw;split at hw
      . rename_i c cells b6
        cases J:c
        . simp only[J,bF,cond_false]at hw;exact hw.elim
        simp only[J,bF,cond_true]at hw;obtain⟨i,hu,hi,a6,ct,a8,cf⟩:=sK he;obtain⟨zv,a9,a7⟩:=cf w;have ab:=(Fz (P:=P) (place':=λi=>some (i*size,size)) (λi' off t' ti bp bs=>by
          simp only[gO,oU]at bp;obtain⟨rfl,rfl⟩:=bp;rw[hi]at bs;obtain rfl:=dU bs;rw[a6]) b6 J).2
        have W:(parts.map λp=>(p.1,a.eval p.2)).toList=I:=by simpa using Eb j.fr cc
        have hle:m*size<=1000000:=fZ hb;have cr:¬(16777216<m*size):=by omega
        refine gH (λ_=>rfl) (v:=.slice (some ⟨w.heap.size,0,none⟩) m m) (w':=wh w (w.heap.push (.cells cells.toArray e))) ?_ (D _ (wh w (w.heap.push (.cells cells.toArray e))) (j.put C E (Al _ _) _) (hw e));have F:=Ha z m;rw[a8]at F;have b8:(Array.range (m*size)).map (λi=>z.toArray[i % z.toArray.size]!)=(jP z m).toArray:=by simpa[a8] using F
        by_cases hn:m*size=0
        . have b1:jP z m=[]:=RD.1 (by rw[JE,a8,hn])
          have e0:∀g:Nat->Value,(Array.range (m*size)).map g=(jP z m).toArray:=by
            intro g;rw[b1,hn];exact yG.1 (by simp)
          simp only[execOp,Instr.buildSlice,Sem.run_bind,cG hu,Result.andThen_ok,gT hi,a6,W];have aw:¬(m*size > 2^24):=by omega
          simp only[aw,if_false,hn,if_true,Sem.run_pure,Result.andThen_ok];have b3:∀g:Nat->Value,(Array.range 0).map g=(jP z m).toArray:=by
            intro g;rw[b1];exact yG.1 (by simp)
          simp only[b3,ab];simp[newRow,wh]
        . simp only[execOp,Instr.buildSlice,Sem.run_bind,cG hu,Result.andThen_ok,gT hi,a6,W]
          have aw:¬(m*size > 2^24):=by omega
          simp only[aw,if_false,hn,Sem.run_pure,Result.andThen_ok,Sem.run_bind,a9,a7,b8,ab];simp[newRow,wh]
      . exact hw.elim
    . exact hw.elim
  case makeSlice t l c=>
    split at hw
    . rename_i e size bytes z l' c' he N J
      obtain⟨ba,hw⟩:=hw;refine gH (λ_=>rfl) (v:=.slice (some ⟨w.heap.size,0,none⟩) l'.toNat c'.toNat) (w':=wh w (w.heap.push (.cells (jP z c'.toNat).toArray e))) ?_
        (D _ (wh w (w.heap.push (.cells (jP z c'.toNat).toArray e))) (j.put C E (Al _ _) _) (hw e))
      simp[execOp,bV j.fr N,bV j.fr J,run_makeSlice he ba]
    . exact hw.elim
  case binOp op t x y u=>
    split at hw
    . rename_i k b k' d H hy
      cases a3:zM k k'
      . simp only[a3,cond_false]at hw;exact hw.elim
      simp only[a3,cond_true]at hw;obtain rfl:=DM.1 a3;have key:∀(r:Nat),binOp op t (.float k b) (.float k d)=Op.floatArith op k b d->(∀w:World,(Op.floatArith op k b d).run P w = .ok (.float k r) w)->wp P (K (f.put dst (.float k r))) w.heap Qp ->
          qS P dr {dst,op:=.binOp op t x y u,type,pos,after,guard} a w next:=by
        intro r hb F hw;refine Gp (v:=.float k r) (λw=>?_) (D _ w (j.put C E (Env.refl w) _) hw);have al:(eqGuard op t x y (.float k b) (.float k d)).run P w = .ok () w:=xU (λe=>by cases e) (λ_ _ e=>by cases e);simp only[execOp,bV j.fr H,bV j.fr hy,Sem.run_bind,al,Result.andThen_ok];rw[hb,F];rfl
      cases op<;>first
        |exact hw.elim
        | (obtain⟨r,F,hw⟩:=hw;simp only[vh,y_,xe,xl]at F;exact key r (by simp[binOp]) (λw=>by simp[Op.floatArith,F]) hw)
    . rename_i p q H hy
      cases dr
      case true=>exact hw.elim
      simp only[cond_false]at hw;split at hw
      . rename_i e hu
        split at hw
        . rename_i inf hi
          cases S:Nat.beq inf.size 0
          case true=>simp only[S,cond_true]at hw;exact hw.elim
          simp only[S,cond_false]at hw;have S:inf.size≠0:=λe=>by rw[e]at S;cases S
          have al:(eqGuard op t x y (.pointer p) (.pointer q)).run P w = .ok () w:=xU (λe=>by cases e) (λ_ _ e=>by cases e);cases op<;>first
            |exact hw.elim
            | (obtain⟨b,hb,hw⟩:=dt hw
               have he:(Op.equal t (.pointer p) (.pointer q)).run P w = .ok b w:=Wu hu hi S hb;refine gH (λh=>by cases h) (w':=w) (v:=.bool b) ?_ (D _ w (j.put C E (Env.refl w) _) hw);simp only[execOp,bV j.fr H,bV j.fr hy,Sem.run_bind,al,Result.andThen_ok];simp[binOp,he])
            | (obtain⟨b,hb,hw⟩:=dt hw
               have he:(Op.equal t (.pointer p) (.pointer q)).run P w = .ok b w:=Wu hu hi S hb;refine gH (λh=>by cases h) (w':=w) (v:=.bool (cU b)) ?_ (D _ w (j.put C E (Env.refl w) _) hw);simp only[execOp,bV j.fr H,bV j.fr hy,Sem.run_bind,al,Result.andThen_ok];simp[binOp,he,cU])
        . exact hw.elim
      . exact hw.elim
    . exact hw.elim
  case convert s d x=>
    split at hw
    . rename_i e p m c bt b0 H
      split at hw
      . rename_i b9
        . obtain⟨l,N,hw⟩:=hw
          refine Of (λx e=>by rw[<-e];simp[lN,PQ,bt,b0]) (v:=.string ⟨l.toArray⟩) ?_ (D _ w (j.put C E (Env.refl w) _) hw);exact Cz j.fr bt b0 b9 H N
      . exact hw.elim
    . exact hw.elim
  case call c=>
    obtain⟨callee,args,argTypes⟩:=c;simp only at hw;split at hw
    . split at hw
      . rename_i p m k p' Z k' t t' A X
        split at hw
        . rename_i e size bytes z q he b4
          obtain⟨r,w',F,B,hw⟩:=Vj he b4 type hw;have U:argTypes = #[t,t']:=yG.1 (by simpa using X);refine gH (λ_=>rfl) (v:=.slice r.aD r.len r.cap) (w':=w') ?_ (D _ w' (j.put C E B _) hw);simp[execOp,resolve,invoke,builtin,kZ j.fr A,U,F]
        . exact hw.elim
      . exact hw.elim
    . split at hw
      . rename_i p m k p' Z k' t ts A X
        split at hw
        . rename_i e size bytes z he
          obtain⟨r,w',F,B,hw⟩:=ak he ts type hw;have U:argTypes=(t::ts).toArray:=yG.1 (by simpa using X);refine gH (λ_=>rfl) (v:=.int .i64 (r:Int)) (w':=w') ?_ (D _ w' (j.put C E B _) hw);simp[execOp,resolve,invoke,builtin,kZ j.fr A,U]at F⊢;simp[F]
        . exact hw.elim
      . exact hw.elim
    . split at hw
      . rename_i r A bo
        obtain⟨l,N,hw⟩:=hw;refine gH (λ_=>by simp[lN,bo]) (v:=.int .i64 (l.length:Int)) (w':=w) ?_ (D _ w (j.put C E (Env.refl w) _) hw);have:=jf (P:=P) bo N type;simp[execOp,resolve,invoke,builtin,kZ j.fr A,this]
      . exact hw.elim
    . split at hw
      . rename_i p m k t ts A X
        split at hw
        . rename_i e size bytes z he
          obtain⟨w',F,B,hw⟩:=XS (ts:=ts) he hw type;have U:argTypes=(t::ts).toArray:=yG.1 (by simpa using X);refine gH (λ_=>rfl) (v:=.tuple #[]) (w':=w') ?_ (D _ w' (j.put C E B _) hw);simp[execOp,resolve,invoke,builtin,kZ j.fr A,U]at F⊢;simp[F]
        . exact hw.elim
      . exact hw.elim
    . exact hw.elim
    . rename_i g
      cases T:isAny pX g
      . simp only[T,cond_false]at hw
        split at hw
        . rename_i i first cap M hg A
          split at hw
          . rename_i m tys hm
            obtain⟨R,a2⟩:=hΓ _ _ _ _ hm;have:=a2 w.heap (λI h'=>∃x,I=Ts.inj tys x/\wp P (K (f.put dst (Bv (Ts.inj tys x)))) h' Qp) (cM m (λt I h' L=>L) hw) w rfl;refine Ck (λ_=>rfl) (f:=i) (args:=(first.toList++M++cap.toList).toArray) (w':=w) ?_ (this.mono λe w' L=>?_)
            . have O:=yY (a:=a) j.fr (c:={callee:=.value g,args,argTypes}) rfl hg A type
              simp[execOp,O,Deferred.ofValue,invoke,R]
            . obtain⟨I,rfl,B,x,rfl,hw⟩:=L
              exact⟨_,rfl,D _ w' (j.put C E B _) hw⟩
          . exact hw.elim
        . exact hw.elim
      . simp only[T,cond_true]at hw
        split at hw
        . rename_i v M tys hg A ht
          obtain⟨d,ao,⟨gf,as,a4,V⟩|⟨l,rf,tmps,b2,bd,a4,V⟩⟩:=hw w rfl
          . refine Ck (λ_=>rfl) (f:=gf) (args:=as) (w':=w) ?_ (V.mono λe w' L=>?_)
            . have O:=yY (a:=a) j.fr (c:={callee:=.value g,args,argTypes}) rfl hg A type
              simp[execOp,O,ao,a4]
            . obtain⟨I,rfl,B,x,rfl,hw⟩:=L
              exact⟨_,rfl,D _ w' (j.put C E B _) hw⟩
          . refine Ua (λ_=>rfl) (l:=l) (f:=rf) (tmps:=tmps) (assign:=b2) (body:=bd) (w':=w) ?_ (V.mono λe w' L=>?_)
            . have O:=yY (a:=a) j.fr (c:={callee:=.value g,args,argTypes}) rfl hg A type
              simp[execOp,O,ao,a4]
            . obtain⟨I,rfl,B,x,rfl,hw⟩:=L
              exact⟨_,rfl,D _ w' (j.put C E B _) hw⟩
        . exact hw.elim
    . rename_i r name
      cases T:isAny pX r
      . simp only[T,cond_false]at hw
        split at hw
        . rename_i t v M F A
          split at hw
          . rename_i i bb
            split at hw
            . rename_i m tys hm
              obtain⟨R,a2⟩:=hΓ _ _ _ _ hm;have:=a2 w.heap (λI h'=>∃x,I=Ts.inj tys x/\wp P (K (f.put dst (Bv (Ts.inj tys x)))) h' Qp) (cM m (λt I h' L=>L) hw) w rfl;refine Ck (λ_=>rfl) (f:=i) (args:=(v::M).toArray) (w':=w) ?_ (this.mono λe w' L=>?_)
              . have J:=ON (w:=w) bb v M.toArray R
                simp[execOp,resolve,bV j.fr F,kZ j.fr A,invoke];simpa using J
              . obtain⟨I,rfl,B,x,rfl,hw⟩:=L
                exact⟨_,rfl,D _ w' (j.put C E B _) hw⟩
            . exact hw.elim
          . exact hw.elim
        . exact hw.elim
      . simp only[T,cond_true]at hw
        split at hw
        . rename_i v M tys F A ht
          obtain⟨gf,as,ao,V⟩:=hw w rfl;refine Ck (λ_=>rfl) (f:=gf) (args:=as) (w':=w) ?_ (V.mono λe w' L=>?_)
          . simp[execOp,resolve,bV j.fr F,kZ j.fr A,invoke]
            exact ao
          . obtain⟨I,rfl,B,x,rfl,hw⟩:=L
            exact⟨_,rfl,D _ w' (j.put C E B _) hw⟩
        . exact hw.elim
  case makeMap t r=>
    cases r<;>simp only at hw<;>try exact hw.elim
    refine gH (λ_=>rfl) (v:=.map (some w.heap.size)) (w':=wh w (w.heap.push (lP [] 0))) ?_ (D _ (wh w (w.heap.push (lP [] 0))) (j.put C E (Al _ _) _) hw);simp[execOp,run_makeMap]
  case lookup t x i ok=>
    split at hw
    . rename_i r k H hi
      cases ht:rM P t
      . simp only[ht,cond_false]at hw;exact hw.elim
      simp only[ht,cond_true]at hw;obtain⟨l,N,hw⟩:=hw;refine gH (λ_=>rfl) (w':=w) ?_ (D _ w (j.put C E (Env.refl w) _) hw);simp[execOp,bV j.fr H,bV j.fr hi,Vk ht N]
    . exact hw.elim
  case mapUpdate t m k x=>
    split at hw
    . rename_i r kk v hm hk H
      cases ht:rM P t
      . simp only[ht,cond_false]at hw;exact hw.elim
      simp only[ht,cond_true]at hw;obtain⟨Z,l,c,rfl,N,hw⟩:=hw;refine stepR_skip (λ_=>rfl) (w':=wh w (w.heap.setIfInBounds Z (Je kk v l c))) ?_ (D _ (wh w (w.heap.setIfInBounds Z (Je kk v l c))) (j.put C E (Al _ _) _) hw);simp[execOp,bV j.fr hm,bV j.fr hk,bV j.fr H,Pe ht N]
    . exact hw.elim
  case range t x=>
    split at hw
    . rename_i r H
      cases ht:rM P t
      . simp only[ht,cond_false]at hw;exact hw.elim
      simp only[ht,cond_true]at hw;obtain⟨Z,l,c,rfl,N,hw⟩:=hw;refine gH (λ_=>rfl) (v:=.pointer (some ⟨w.heap.size,0,none⟩)) (w':=wh w (w.heap.push (.mapIter (some Z) c #[] c))) ?_ (D _ (wh w (w.heap.push (.mapIter (some Z) c #[] c))) (j.put C E (Al _ _) _) hw);simp[execOp,bV j.fr H,XU ht N]
    . exact hw.elim
  case entry it=>
    split at hw
    . rename_i p H
      obtain⟨i,m,since,seen,cg,l,c,rfl,h1,h2,e,h3,hw⟩:=hw;refine gH (λ_=>rfl) (w':=w) ?_ (D _ w (j.put C E (Env.refl w) _) hw);simp[execOp,bV j.fr H,XT (P:=P) h1 h2 h3]
    . exact hw.elim
  case next it st=>
    cases st<;>simp only[cond_true,cond_false]at hw<;>try exact hw.elim
    split at hw
    . rename_i p H
      obtain⟨i,m,since,seen,last,l,c,rfl,h1,h2,h3,h4,h5⟩:=hw;rcases aq (P:=P) h1 h2 h3 type with⟨e,he,a5,w',F,B,L⟩|⟨a5,w',F,B,L⟩
      . refine gH (λ_=>rfl) (w':=w') ?_ (D _ w' (j.put C E B _) (by rw[L];exact h4 e he a5))
        simp[execOp,bV j.fr H,F]
      . refine gH (λ_=>rfl) (w':=w') ?_ (D _ w' (j.put C E B _) (by rw[L];exact h5 a5))
        simp[execOp,bV j.fr H,F]
    . exact hw.elim
end
end
end Go.Sw
