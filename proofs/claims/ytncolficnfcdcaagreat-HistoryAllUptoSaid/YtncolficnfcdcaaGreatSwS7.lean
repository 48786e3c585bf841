import Derived.Test.YtncolficnfcdcaaGreatSwS6
set_option linter.unusedVariables false
set_option linter.unusedSimpArgs false
namespace Go.Sw
section
section
variable{P:Program}{dr:Bool}
variable{a:Act}{v:Value}{loose:List (Nat×Nat)}{Qp:Nat->List Value->aG->Prop}{next':Act->World->Prop}{Γ:Ctx}{w0:World}{G:Act->Prop}{ops:Array Oper}{Q:Exit->Act->World->Prop}
abbrev Made:=Nat×Sem Next×Value
def H7(P:Program)(w:World)(js:List Made):Prop:=∀x,x∈js->x.2.1.run P w = .ok (.value x.2.2) w
def AP(loose:List (Nat×Nat))(e:Nat)(js:List Made):List Made:=js.filter λx=>IV loose x.1 e
def Ad(P:Program)(dr:Bool)(ops:Array Oper)(loose:List (Nat×Nat))(R:Act->World->Prop):List Nat->List Made->Act->World->Prop
 |[],_,a,w=>R a w
 | i::rest,acc,a,w=>match ops[i]? with
  |none=>False
  | some o=>if Region.wanted o (yielded ops a.tmps) then
    (if tT P o then qV P dr o a w λa' w'=>H7 P w' (AP loose i acc)/\Ad P dr ops loose R rest acc a' w'
    else if oN P o then ∃v,(execOp a.eval o).run P w = .ok (.value v) w/\Ad P dr ops loose R rest ((i,execOp a.eval o,v)::acc) (a.put o.dst v) w
    else qV P dr o a w λa' w'=>Ad P dr ops loose R rest acc a' w')
   else Ad P dr ops loose R rest acc (a.put o.dst undef) w
theorem sH.same{f:Fr}(h:sH f a){d:Nat}(b:a.tmps[d]?=some v):sH (f.put (some d) v) a:=by
 intro n u hu;simp only[Fr.put,Fr.tR]at hu;by_cases e:d=n
 .subst e;simp only[if_true,gP]at hu;subst hu;exact b
 .simp only[e,if_false]at hu;exact h n u hu
theorem St.same{w0:World}{G:Act->Prop}{n:Nat}{f:Fr}{a:Act}{w:World}(h:St w0 G n f a w){d:Nat}{v:Value}(b:a.tmps[d]?=some v) :
  St w0 G n (f.put (some d) v) a w:=⟨h.fr.same b,h.sz,h.env,h.g⟩
def yl.ok(h:aG):yl->Prop
 |.mem p vs=>∃a,p=some a/\Cells h a vs
 |.bytes x s=>xO h x.aD x.len (s.toList.map λb=>.int .u8 b.toNat)
def Ys(P:Program):List Entry->List Made->Prop
 |[],[]=>True
 |e::es,m::ms=>(e.1=m.1/\∀w:World,e.2.ok w.heap->m.2.1.run P w = .ok (.value m.2.2) w)/\Ys P es ms
 |_,_=>False
theorem Qo{e:Nat}{K:aK}{w:World}:∀{es:List Entry} {ms:List Made},Ys P es ms ->
  wp P (DH (behind loose e es) K) w.heap Qp->H7 P w (AP loose e ms)/\wp P K w.heap Qp:=by
 intro es
 induction es with
 |nil=>
  intro ms h hw;cases ms with
  |nil=>exact⟨λx j=>(lG j).elim,hw⟩
  |cons m ms=>exact h.elim
 |cons x es q=>
  intro ms h hw;cases ms with
  |nil=>exact h.elim
  |cons m ms=>
   obtain⟨⟨k,u⟩,n⟩:=h;simp only[behind]at hw;cases d:IV loose x.1 e
   .simp only[d,cond_false]at hw
    have:=q n hw;rw[k]at d;refine⟨λy f=>this.1 y ?_,this.2⟩;simpa[AP,d] using f
   .have o:x.2.ok w.heap/\wp P (DH (behind loose e es) K) w.heap Qp:=by
     obtain⟨i,c⟩:=x;cases c with
     |mem p A=>
      simp only[d,cond_true,DH]at hw;exact hw
     |bytes y s=>
      simp only[d,cond_true,DH]at hw;obtain⟨l,z,hw⟩:=hw;have hw:wp P (bF (Xv ⟨l.toArray⟩ s) (DH (behind loose e es) K)) w.heap Qp:=hw;cases g:Xv ⟨l.toArray⟩ s
      .rw[g]at hw;simp only[bF,cond_false]at hw;exact hw.elim
      .rw[g]at hw
       refine⟨?_,hw⟩;have r:(⟨l.toArray⟩:ByteArray).toList=s.toList:=by simpa[Xv] using g
       have t:(⟨l.toArray⟩:ByteArray).toList=l:=by rw[ByteArray.toList_eq]
       show xO w.heap y.aD y.len (s.toList.map λb=>.int .u8 b.toNat);rw[<-r,t];exact z
    obtain⟨j,hw⟩:=o;have:=q n hw;rw[k]at d;refine⟨λy f=>?_,this.2⟩;simp only[AP,RM,d,if_true,eH]at f;rcases f with rfl|f
    .exact u w j
    .exact this.1 y f
theorem Kj{w:World}{t:TypeId}{c:Bool}{vs:List Value}{ad:Addr}(b:cellsOf P t v=some (c,vs))(e:Cells w.heap ad vs) :
  (loadVar t ad).run P w = .ok v w:=by
 unfold cellsOf at b;split at b
 .rename_i i hi
  split at b
  .rename_i d
   split at b
   .rename_i cs
    cases hb:Nat.beq cs.toList.length i.size
    .simp only[hb,cond_false]at b;cases b
    .simp only[hb,cond_true,gP,oV]at b
     obtain⟨-, rfl⟩:=b;have:=AS (P:=P) e;rw[fP.1 hb]at this;simp only[loadVar,Sem.run_bind,DA d,Result.andThen_ok,if_true,gT hi,this,Sem.run_pure]
   .cases b
  .rename_i d
   cases hb:Nat.beq i.size 1
   .simp only[hb,cond_false]at b;cases b
   .simp only[hb,cond_true,gP,oV]at b
    obtain⟨-, rfl⟩:=b;have h0:=e.1;simp only[Addr.add,if_true]at h0;simp only[loadVar,Sem.run_bind,DA d,Result.andThen_ok,gW,if_false,N8 h0]
  .cases b
 .cases b
theorem S4{f:Fr}(k:sH f a)(i:Nat)(o:Oper)(v:Value) :
  (Gh P i o f (f.put o.dst v)).1=i/\∀w:World,(Gh P i o f (f.put o.dst v)).2.ok w.heap ->
   (execOp a.eval o).run P w = .ok (.value v) w:=by
 obtain⟨dst,op,type,pos,after,guard⟩:=o;unfold Gh;split
 .rename_i d t x h g
  simp only at h g;subst h g;split
  .rename_i p u A hu
   simp only[Fr.put,Fr.tR,if_true,gP]at hu;subst hu;split
   .rename_i c C j
    refine⟨rfl,λw hw=>?_⟩;obtain⟨ad,rfl,z⟩:=hw;simp[execOp,bW k A,Instr.loadAt,nQ,Kj j z]
   .exact⟨rfl,λw hw=>by obtain⟨ad,e, -⟩:=hw;cases e⟩
  .exact⟨rfl,λw hw=>by obtain⟨ad,e, -⟩:=hw;cases e⟩
 .rename_i d s t x h g
  simp only at h g;subst h g;split
  .rename_i e p n c b m q B hb
   simp only[Fr.put,Fr.tR,if_true,gP]at hb;subst hb;split
   .rename_i r
    refine⟨rfl,λw hw=>?_⟩;have y:b=⟨b.toList.toArray⟩:=by
     rw[ByteArray.toList_eq]
    have:=Cz (w:=w) (dst:=some d) (type:=type) (pos:=pos) (after:=after) (guard:=guard) k m q r B (l:=b.toList) hw;rw[<-y]at this;exact this
   .exact⟨rfl,λw hw=>by obtain⟨ad,e, -⟩:=hw;cases e⟩
  .exact⟨rfl,λw hw=>by obtain⟨ad,e, -⟩:=hw;cases e⟩
 .exact⟨rfl,λw hw=>by obtain⟨ad,e, -⟩:=hw;cases e⟩
theorem D7{o:Oper}{w:World}{next:Act->World->Prop}(h:∀a w,next a w->next' a w)(b:qV P dr o a w next) :
  qV P dr o a w next':=by
 unfold qV at *;split
 .rename_i e;simp only[e]at b;obtain⟨v,c,d⟩:=b;exact⟨v,c,h _ _ d⟩
 .rename_i e;simp only[e]at b;obtain⟨v,c,d⟩:=b;exact⟨v,c,h _ _ d⟩
 .rename_i f g
  split at b
  .rename_i e;exact(f rfl e).elim
  .rename_i e;exact(g rfl e).elim
  .exact Oper.JB h (λ_ _ _ h=>h) b
theorem Ol{qA:List Nat}(m:KI P Γ){o:Oper}{w:World}{next:Act->World->Prop}{n:Nat}{f:Fr}{K:Fr->aK}
 {ws:List Nat}
  (hw:wp P (Vw P Γ qA dr o f K) w.heap Qp) (g:St w0 G n f a w) (k:∀d,o.dst=some d->d<n/\d∈ws) (h:uP G ws)
  (i:∀v e,St w0 G n (f.put o.dst v) (a.put o.dst v) e->wp P (K (f.put o.dst v)) e.heap Qp->next (a.put o.dst v) e):qV P dr o a w next:=by
 unfold Vw at hw;split at hw
 .rename_i c v l
  have j:LV P c/\wp P (K (f.put o.dst v)) w.heap Qp:=by
   cases c with
   |b c=>
    cases c
    .simp only[rq,bF,cond_false]at hw;exact hw.elim
    .exact⟨rfl,hw⟩
   |nil x=>exact hw
  exact Gq (v:=v) (λe=>Jj g.fr l j.1 e) (i v w (g.put h k (Env.refl w) v) j.2)
 .exact SZ m hw g k h i
theorem Ya{qA:List Nat}{o:Oper}{w:World}{f:Fr}{K:Fr->aK}(h:oN P o=true)(i:sH f a)
  (hw:wp P (Vw P Γ qA dr o f K) w.heap Qp):∃v,(execOp a.eval o).run P w = .ok (.value v) w/\wp P (K (f.put o.dst v)) w.heap Qp:=by
 obtain⟨dst,op,type,pos,after,guard⟩:=o;cases op<;>simp only[oN,lN,gW,reduceCtorEq]at h
 case convert s d x=>
  unfold Vw at hw;split at hw
  .rename_i c v u
   have g:LV P c/\wp P (K (f.put dst v)) w.heap Qp:=by
    cases c with
    |b c=>
     cases c
     .simp only[rq,bF,cond_false]at hw;exact hw.elim
     .exact⟨rfl,hw⟩
    |nil x=>exact hw
   exact⟨v,Jj i u g.1 w,g.2⟩
  .simp only[SY]at hw
   split at hw
   .rename_i e p m c k n j
    split at hw
    .rename_i q
     obtain⟨l,r,hw⟩:=hw;exact⟨.string ⟨l.toArray⟩,Cz i k n q j r,hw⟩
    .exact hw.elim
   .exact hw.elim
 case load t x=>
  simp only[Vw,Rn,SY]at hw;split at hw
  .rename_i p ty j ht
   obtain⟨ad,rfl,y,g,hw⟩:=hw;exact⟨ty.inj y,by simp[execOp,bW i j,Instr.loadAt,nQ,Hz (P:=P) ht g],hw⟩
  .exact hw.elim
 case call c=>
  obtain⟨callee,args,z⟩:=c;cases callee with
  |builtin b=>cases b<;>first|(simp at h;done)|(cases hm:mapArg P z.toList<;>simp[hm]at h)
  |_=>simp at h
theorem FU{qA:List Nat}(D:KI P Γ){R:Act->World->Prop}{n:Nat}{K:Fr->aK}
 {ws:List Nat} (L:∀(i:Nat) o d,ops[i]?=some o->o.dst=some d->d<n/\d∈ws) (u:uP G ws)
  (J:∀f a w,St w0 G n f a w->wp P (K f) w.heap Qp->R a w) :
  ∀(l:List Nat) (acc:List Entry) (ms:List Made) (f:Fr) (a:Act) (w:World),Ys P acc ms->St w0 G n f a w->wp P (Dt P Γ qA dr ops.toList loose l acc f K) w.heap Qp->Ad P dr ops loose R l ms a w:=by
 intro l
 induction l with
 |nil=>intro acc ms f a w ha g hw;exact J f a w g hw
 |cons i rest y=>
  intro acc ms f a w ha g hw;simp only[Dt]at hw;simp only[Ad];cases hi:ops[i]? with
  |none=>
   have:ops.toList[i]?=none:=by simpa using hi
   simp only[this]at hw;exact hw
  |some o=>
   have:ops.toList[i]?=some o:=by simpa using hi
   simp only[this]at hw;have m:∀d,o.dst=some d->d<n/\d∈ws:=λd e=>L i o d hi e;have yes:∀f,St w0 G n f a w->wp P (Vw P Γ qA dr o f λA=>bif tT P o then DH (behind loose i acc) (Dt P Γ qA dr ops.toList loose rest acc A K)
      else Dt P Γ qA dr ops.toList loose rest (bif oN P o then Gh P i o f A::acc else acc) A K) w.heap Qp ->
     (if tT P o then qV P dr o a w λz r=>H7 P r (AP loose i ms)/\Ad P dr ops loose R rest ms z r
     else if oN P o then ∃v,(execOp a.eval o).run P w = .ok (.value v) w/\Ad P dr ops loose R rest ((i,execOp a.eval o,v)::ms) (a.put o.dst v) w
     else qV P dr o a w λz r=>Ad P dr ops loose R rest ms z r):=by
    intro f g hw;cases he:tT P o
    .simp only[he,cond_false]at hw
     simp only[gW,if_false];cases B:oN P o
     .simp only[B,cond_false]at hw
      simp only[gW,if_false];exact Ol D hw g m u λv r h t=>y _ _ _ _ _ ha h t
     .simp only[B,cond_true]at hw
      simp only[if_true];obtain⟨v,M,hw⟩:=Ya B g.fr hw;exact⟨v,M,y (Gh P i o f (f.put o.dst v)::acc) ((i,execOp a.eval o,v)::ms) _ _ _ ⟨S4 g.fr i o v,ha⟩ (g.put u m (Env.refl w) v) hw⟩
    .simp only[he,cond_true]at hw
     simp only[if_true];refine Ol D hw g m u λv r h t=>?_;obtain⟨H,I⟩:=Qo ha t;exact⟨H,y _ _ _ _ _ ha h I⟩
   have no:∀f,St w0 G n f a w->wp P (Dt P Γ qA dr ops.toList loose rest acc (Fr.put f o.dst undef) K) w.heap Qp->Ad P dr ops loose R rest ms (a.put o.dst undef) w:=
    λf g hw=>y _ _ _ _ _ ha (g.put u m (Env.refl w) undef) hw
   cases q:o.guard with
   |none=>
    simp only[q]at hw;have c:Region.wanted o (yielded ops a.tmps)=true:=by simp[Region.wanted,q]
    simp only[c,if_true];exact yes f g hw
   |some F=>
    obtain⟨j,want⟩:=F;simp only[q]at hw;cases x:(ops.toList[j]?).bind (·.dst) with
    |none=>
     simp only[x]at hw;have p:(ops[j]?).bind (·.dst)=none:=by simpa using x
     have c:Region.wanted o (yielded ops a.tmps)=false:=by simp[Region.wanted,q,yielded,p]
     simp only[c,gW,if_false];exact no f g hw
    |some d=>
     simp only[x]at hw;have p:(ops[j]?).bind (·.dst)=some d:=by simpa using x
     split at hw
     .rename_i b hb
      have k:a.tmps[d]?=some (.bool b):=g.fr _ _ hb;have c:Region.wanted o (yielded ops a.tmps)=(b == want):=by simp[Region.wanted,q,yielded,p,k]
      have h:=g.same k;cases b
      .simp only[aR,cond_false]at hw
       cases want
       .simp only[cond_false]at hw
        simp only[c,beq_self_eq_true,if_true];exact yes _ h hw
       .simp only[cond_true]at hw
        have:(false == true)=false:=rfl;simp only[c,this,gW,if_false];exact no _ h hw
      .simp only[aR,cond_true]at hw
       cases want
       .simp only[cond_false]at hw
        have:(true == false)=false:=rfl;simp only[c,this,gW,if_false];exact no _ h hw
       .simp only[cond_true]at hw
        simp only[c,beq_self_eq_true,if_true];exact yes _ h hw
     .rename_i v N hb
      cases s:QN v
      .simp only[s,cond_false]at hw;exact hw.elim
      simp only[s,cond_true]at hw;have k:a.tmps[d]?=some v:=g.fr _ _ hb;have C:∃E,v = .tuple E:=by cases v<;>simp[QN]at s<;>exact⟨_,rfl⟩
      obtain⟨E,rfl⟩:=C;have c:Region.wanted o (yielded ops a.tmps)=false:=by simp[Region.wanted,q,yielded,p,k]
      simp only[c,gW,if_false];exact no f g hw
     .exact hw.elim
theorem yF{ro:Option Nat}{o:Oper}{w:World}{next:Act->World->Prop}(d:∀a w,next a w->next' a w)(h:qV P dr o a w next):o.wpIn (LP ro) 0 P a w next' Q:=by
 unfold qV at h;split at h
 .obtain⟨v,b,c⟩:=h;exact Kw d (by unfold Oper.JA;rw[b w];exact c)
 .obtain⟨v,b,c⟩:=h;exact Kw d (by unfold Oper.JA;rw[b];exact c)
 .exact Kw d h
theorem VC{ro:Option Nat}{R:Act->World->Prop}{m:List Nat}(g:∀a w,R a w->wpOpsIn (LP ro) 0 P ops Q m a w) :
  ∀(l:List Nat) (acc:List Made) (a:Act) (w:World),Ad P dr ops loose R l acc a w->wpOpsIn (LP ro) 0 P ops Q (l++m) a w:=by
 intro l
 induction l with
 |nil=>intro acc a w h;exact g _ _ h
 |cons i rest c=>
  intro acc a w h;simp only[Ad]at h;simp only[Ee,wpOpsIn];cases hi:ops[i]? with
  |none=>simp only[hi]at h
  |some o=>
   simp only[hi]at h;cases hw:Region.wanted o (yielded ops a.tmps)
   .simp only[hw,gW,if_false]at h⊢
    exact⟨λ_ _=>trivial,c _ _ _ h⟩
   .simp only[hw,if_true]at h⊢
    cases he:tT P o
    .simp only[he,gW,if_false]at h
     cases f:oN P o
     .simp only[f,gW,if_false]at h
      exact yF (λd e b=>c _ _ _ b) h
     .simp only[f,if_true]at h
      obtain⟨v,j,b⟩:=h;exact Kw (next:=λd e=>wpOpsIn (LP ro) 0 P ops Q (rest++m) d e) (λ_ _ h=>h) (by unfold Oper.JA;rw[j];exact c _ _ _ b)
    .simp only[he,if_true]at h
     exact yF (λd e b=>c _ _ _ b.2) h
theorem Yl{ro:Option Nat}:
  ∀(l:List Nat) (acc:List Made) (a:Act) (w:World),Ad P dr ops loose (Q .normal) l acc a w->wpOpsIn (LP ro) 0 P ops Q l a w:=by
 intro l
 induction l with
 |nil=>intro acc a w h;exact h
 |cons i rest c=>
  intro acc a w h;simp only[Ad]at h;simp only[wpOpsIn];cases hi:ops[i]? with
  |none=>simp only[hi]at h
  |some o=>
   simp only[hi]at h;cases hw:Region.wanted o (yielded ops a.tmps)
   .simp only[hw,gW,if_false]at h⊢
    exact⟨λ_ _=>trivial,c _ _ _ h⟩
   .simp only[hw,if_true]at h⊢
    cases he:tT P o
    .simp only[he,gW,if_false]at h
     cases f:oN P o
     .simp only[f,gW,if_false]at h
      exact yF (λd e b=>c _ _ _ b) h
     .simp only[f,if_true]at h
      obtain⟨v,g,b⟩:=h;exact Kw (next:=λd e=>wpOpsIn (LP ro) 0 P ops Q rest d e) (λ_ _ h=>h) (by unfold Oper.JA;rw[g];exact c _ _ _ b)
    .simp only[he,if_true]at h
     exact yF (λd e b=>c _ _ _ b.2) h
end
end
end Go.Sw
