import Derived.Test.YtncolficnfcdcaaGreatSwS6
set_option linter.unusedVariables false
set_option linter.unusedSimpArgs false
namespace Go.Sw
section
section
variable{P:Program}{dr:Bool}
variable{a:Act}{v:Value}{loose:List (Nat×Nat)}{Qp:Nat->List Value->aG->Prop}{next':Act->World->Prop}{Γ:Ctx}{w0:World}{G:Act->Prop}{ops:Array Oper}{Q:Exit->Act->World->Prop}
abbrev Made:=Nat×Sem Next×Value
def Ib(P:Program)(w:World)(js:List Made):Prop:=∀x,x∈js->x.2.1.run P w = .ok (.value x.2.2) w
def AN(loose:List (Nat×Nat))(e:Nat)(js:List Made):List Made:=js.filter λx=>IY loose x.1 e
def Ab(P:Program)(dr:Bool)(ops:Array Oper)(loose:List (Nat×Nat))(R:Act->World->Prop):List Nat->List Made->Act->World->Prop
 |[],_,a,w=>R a w
 | i::rest,acc,a,w=>match ops[i]? with
  |none=>False
  | some o=>if Region.wanted o (yielded ops a.tmps) then
    (if tR P o then qS P dr o a w λa' w'=>Ib P w' (AN loose i acc)/\Ab P dr ops loose R rest acc a' w'
    else if oM P o then ∃v,(execOp a.eval o).run P w = .ok (.value v) w/\Ab P dr ops loose R rest ((i,execOp a.eval o,v)::acc) (a.put o.dst v) w
    else qS P dr o a w λa' w'=>Ab P dr ops loose R rest acc a' w')
   else Ab P dr ops loose R rest acc (a.put o.dst undef) w
theorem sE.same{f:Fr}(h:sE f a){d:Nat}(b:a.tmps[d]?=some v):sE (f.put (some d) v) a:=by
 intro n u hu;simp only[Fr.put,Fr.tQ]at hu;by_cases e:d=n
 .subst e;simp only[if_true,gO]at hu;subst hu;exact b
 .simp only[e,if_false]at hu;exact h n u hu
theorem St.same{w0:World}{G:Act->Prop}{n:Nat}{f:Fr}{a:Act}{w:World}(h:St w0 G n f a w){d:Nat}{v:Value}(b:a.tmps[d]?=some v) :
  St w0 G n (f.put (some d) v) a w:=⟨h.fr.same b,h.sz,h.env,h.g⟩
def yj.ok(h:aG):yj->Prop
 |.mem p vs=>∃a,p=some a/\Cells h a vs
 |.bytes x s=>xM h x.aD x.len (s.toList.map λb=>.int .u8 b.toNat)
def Yq(P:Program):List Entry->List Made->Prop
 |[],[]=>True
 |e::es,m::ms=>(e.1=m.1/\∀w:World,e.2.ok w.heap->m.2.1.run P w = .ok (.value m.2.2) w)/\Yq P es ms
 |_,_=>False
theorem Qj{e:Nat}{K:aK}{w:World}:∀{es:List Entry} {ms:List Made},Yq P es ms ->
  wp P (DF (behind loose e es) K) w.heap Qp->Ib P w (AN loose e ms)/\wp P K w.heap Qp:=by
 intro es
 induction es with
 |nil=>
  intro ms h hw;cases ms with
  |nil=>exact⟨λx j=>(lG j).elim,hw⟩
  |cons m ms=>exact h.elim
 |cons x es q=>
  intro ms h hw;cases ms with
  |nil=>exact h.elim
  |cons m ms=>
   obtain⟨⟨k,u⟩,n⟩:=h;simp only[behind]at hw;cases d:IY loose x.1 e
   .simp only[d,cond_false]at hw
    have:=q n hw;rw[k]at d;refine⟨λy f=>this.1 y ?_,this.2⟩;simpa[AN,d] using f
   .have o:x.2.ok w.heap/\wp P (DF (behind loose e es) K) w.heap Qp:=by
     obtain⟨i,c⟩:=x;cases c with
     |mem p A=>
      simp only[d,cond_true,DF]at hw;exact hw
     |bytes y s=>
      simp only[d,cond_true,DF]at hw;obtain⟨l,z,hw⟩:=hw;have hw:wp P (bF (Xt ⟨l.toArray⟩ s) (DF (behind loose e es) K)) w.heap Qp:=hw;cases g:Xt ⟨l.toArray⟩ s
      .rw[g]at hw;simp only[bF,cond_false]at hw;exact hw.elim
      .rw[g]at hw
       refine⟨?_,hw⟩;have r:(⟨l.toArray⟩:ByteArray).toList=s.toList:=by simpa[Xt] using g
       have t:(⟨l.toArray⟩:ByteArray).toList=l:=by rw[ByteArray.toList_eq]
       show xM w.heap y.aD y.len (s.toList.map λb=>.int .u8 b.toNat);rw[<-r,t];exact z
    obtain⟨j,hw⟩:=o;have:=q n hw;rw[k]at d;refine⟨λy f=>?_,this.2⟩;simp only[AN,RJ,d,if_true,eH]at f;rcases f with rfl|f
    .exact u w j
    .exact this.1 y f
theorem Kk{w:World}{t:TypeId}{c:Bool}{vs:List Value}{ad:Addr}(b:cellsOf P t v=some (c,vs))(e:Cells w.heap ad vs) :
  (loadVar t ad).run P w = .ok v w:=by
 unfold cellsOf at b;split at b
 .rename_i i hi
  split at b
  .rename_i d
   split at b
   .rename_i cs
    cases hb:Nat.beq cs.toList.length i.size
    .simp only[hb,cond_false]at b;cases b
    .simp only[hb,cond_true,gO,oU]at b
     obtain⟨-, rfl⟩:=b;have:=AQ (P:=P) e;rw[fN.1 hb]at this;simp only[loadVar,Sem.run_bind,Dz d,Result.andThen_ok,if_true,gT hi,this,Sem.run_pure]
   .cases b
  .rename_i d
   cases hb:Nat.beq i.size 1
   .simp only[hb,cond_false]at b;cases b
   .simp only[hb,cond_true,gO,oU]at b
    obtain⟨-, rfl⟩:=b;have h0:=e.1;simp only[Addr.add,if_true]at h0;simp only[loadVar,Sem.run_bind,Dz d,Result.andThen_ok,gW,if_false,N7 h0]
  .cases b
 .cases b
theorem S4{f:Fr}(k:sE f a)(i:Nat)(o:Oper)(v:Value) :
  (Gg P i o f (f.put o.dst v)).1=i/\∀w:World,(Gg P i o f (f.put o.dst v)).2.ok w.heap ->
   (execOp a.eval o).run P w = .ok (.value v) w:=by
 obtain⟨dst,op,type,pos,after,guard⟩:=o;unfold Gg;split
 .rename_i d t x h g
  simp only at h g;subst h g;split
  .rename_i p u A hu
   simp only[Fr.put,Fr.tQ,if_true,gO]at hu;subst hu;split
   .rename_i c C j
    refine⟨rfl,λw hw=>?_⟩;obtain⟨ad,rfl,z⟩:=hw;simp[execOp,bV k A,Instr.loadAt,nQ,Kk j z]
   .exact⟨rfl,λw hw=>by obtain⟨ad,e, -⟩:=hw;cases e⟩
  .exact⟨rfl,λw hw=>by obtain⟨ad,e, -⟩:=hw;cases e⟩
 .rename_i d s t x h g
  simp only at h g;subst h g;split
  .rename_i e p n c b m q B hb
   simp only[Fr.put,Fr.tQ,if_true,gO]at hb;subst hb;split
   .rename_i r
    refine⟨rfl,λw hw=>?_⟩;have y:b=⟨b.toList.toArray⟩:=by
     rw[ByteArray.toList_eq]
    have:=Cz (w:=w) (dst:=some d) (type:=type) (pos:=pos) (after:=after) (guard:=guard) k m q r B (l:=b.toList) hw;rw[<-y]at this;exact this
   .exact⟨rfl,λw hw=>by obtain⟨ad,e, -⟩:=hw;cases e⟩
  .exact⟨rfl,λw hw=>by obtain⟨ad,e, -⟩:=hw;cases e⟩
 .exact⟨rfl,λw hw=>by obtain⟨ad,e, -⟩:=hw;cases e⟩
theorem D5{o:Oper}{w:World}{next:Act->World->Prop}(h:∀a w,next a w->next' a w)(b:qS P dr o a w next) :
  qS P dr o a w next':=by
 unfold qS at *;split
 .rename_i e;simp only[e]at b;obtain⟨v,c,d⟩:=b;exact⟨v,c,h _ _ d⟩
 .rename_i e;simp only[e]at b;obtain⟨v,c,d⟩:=b;exact⟨v,c,h _ _ d⟩
 .rename_i f g
  split at b
  .rename_i e;exact(f rfl e).elim
  .rename_i e;exact(g rfl e).elim
  .exact Oper.JD h (λ_ _ _ h=>h) b
theorem Ol{pX:List Nat}(m:KJ P Γ){o:Oper}{w:World}{next:Act->World->Prop}{n:Nat}{f:Fr}{K:Fr->aK}
 {ws:List Nat}
  (hw:wp P (Vt P Γ pX dr o f K) w.heap Qp) (g:St w0 G n f a w) (k:∀d,o.dst=some d->d<n/\d∈ws) (h:uO G ws)
  (i:∀v e,St w0 G n (f.put o.dst v) (a.put o.dst v) e->wp P (K (f.put o.dst v)) e.heap Qp->next (a.put o.dst v) e):qS P dr o a w next:=by
 unfold Vt at hw;split at hw
 .rename_i c v l
  have j:LV P c/\wp P (K (f.put o.dst v)) w.heap Qp:=by
   cases c with
   |b c=>
    cases c
    .simp only[rk,bF,cond_false]at hw;exact hw.elim
    .exact⟨rfl,hw⟩
   |nil x=>exact hw
  exact Gp (v:=v) (λe=>Jl g.fr l j.1 e) (i v w (g.put h k (Env.refl w) v) j.2)
 .exact SZ m hw g k h i
theorem X7{pX:List Nat}{o:Oper}{w:World}{f:Fr}{K:Fr->aK}(h:oM P o=true)(i:sE f a)
  (hw:wp P (Vt P Γ pX dr o f K) w.heap Qp):∃v,(execOp a.eval o).run P w = .ok (.value v) w/\wp P (K (f.put o.dst v)) w.heap Qp:=by
 obtain⟨dst,op,type,pos,after,guard⟩:=o;cases op<;>simp only[oM,lN,gW,reduceCtorEq]at h
 case convert s d x=>
  unfold Vt at hw;split at hw
  .rename_i c v u
   have g:LV P c/\wp P (K (f.put dst v)) w.heap Qp:=by
    cases c with
    |b c=>
     cases c
     .simp only[rk,bF,cond_false]at hw;exact hw.elim
     .exact⟨rfl,hw⟩
    |nil x=>exact hw
   exact⟨v,Jl i u g.1 w,g.2⟩
  .simp only[SY]at hw
   split at hw
   .rename_i e p m c k n j
    split at hw
    .rename_i q
     obtain⟨l,r,hw⟩:=hw;exact⟨.string ⟨l.toArray⟩,Cz i k n q j r,hw⟩
    .exact hw.elim
   .exact hw.elim
 case load t x=>
  simp only[Vt,Rk,SY]at hw;split at hw
  .rename_i p ty j ht
   obtain⟨ad,rfl,y,g,hw⟩:=hw;exact⟨ty.inj y,by simp[execOp,bV i j,Instr.loadAt,nQ,Hz (P:=P) ht g],hw⟩
  .exact hw.elim
 case call c=>
  obtain⟨callee,args,z⟩:=c;cases callee with
  |builtin b=>cases b<;>first|(simp at h;done)|(cases hm:mapArg P z.toList<;>simp[hm]at h)
  |_=>simp at h
theorem FT{pX:List Nat}(D:KJ P Γ){R:Act->World->Prop}{n:Nat}{K:Fr->aK}
 {ws:List Nat} (L:∀(i:Nat) o d,ops[i]?=some o->o.dst=some d->d<n/\d∈ws) (u:uO G ws)
  (J:∀f a w,St w0 G n f a w->wp P (K f) w.heap Qp->R a w) :
  ∀(l:List Nat) (acc:List Entry) (ms:List Made) (f:Fr) (a:Act) (w:World),Yq P acc ms->St w0 G n f a w->wp P (Dt P Γ pX dr ops.toList loose l acc f K) w.heap Qp->Ab P dr ops loose R l ms a w:=by
 intro l
 induction l with
 |nil=>intro acc ms f a w ha g hw;exact J f a w g hw
 |cons i rest y=>
  intro acc ms f a w ha g hw;simp only[Dt]at hw;simp only[Ab];cases hi:ops[i]? with
  |none=>
   have:ops.toList[i]?=none:=by simpa using hi
   simp only[this]at hw;exact hw
  |some o=>
   have:ops.toList[i]?=some o:=by simpa using hi
   simp only[this]at hw;have m:∀d,o.dst=some d->d<n/\d∈ws:=λd e=>L i o d hi e;have yes:∀f,St w0 G n f a w->wp P (Vt P Γ pX dr o f λA=>bif tR P o then DF (behind loose i acc) (Dt P Γ pX dr ops.toList loose rest acc A K)
      else Dt P Γ pX dr ops.toList loose rest (bif oM P o then Gg P i o f A::acc else acc) A K) w.heap Qp ->
     (if tR P o then qS P dr o a w λz r=>Ib P r (AN loose i ms)/\Ab P dr ops loose R rest ms z r
     else if oM P o then ∃v,(execOp a.eval o).run P w = .ok (.value v) w/\Ab P dr ops loose R rest ((i,execOp a.eval o,v)::ms) (a.put o.dst v) w
     else qS P dr o a w λz r=>Ab P dr ops loose R rest ms z r):=by
    intro f g hw;cases he:tR P o
    .simp only[he,cond_false]at hw
     simp only[gW,if_false];cases B:oM P o
     .simp only[B,cond_false]at hw
      simp only[gW,if_false];exact Ol D hw g m u λv r h t=>y _ _ _ _ _ ha h t
     .simp only[B,cond_true]at hw
      simp only[if_true];obtain⟨v,M,hw⟩:=X7 B g.fr hw;exact⟨v,M,y (Gg P i o f (f.put o.dst v)::acc) ((i,execOp a.eval o,v)::ms) _ _ _ ⟨S4 g.fr i o v,ha⟩ (g.put u m (Env.refl w) v) hw⟩
    .simp only[he,cond_true]at hw
     simp only[if_true];refine Ol D hw g m u λv r h t=>?_;obtain⟨H,I⟩:=Qj ha t;exact⟨H,y _ _ _ _ _ ha h I⟩
   have no:∀f,St w0 G n f a w->wp P (Dt P Γ pX dr ops.toList loose rest acc (Fr.put f o.dst undef) K) w.heap Qp->Ab P dr ops loose R rest ms (a.put o.dst undef) w:=
    λf g hw=>y _ _ _ _ _ ha (g.put u m (Env.refl w) undef) hw
   cases q:o.guard with
   |none=>
    simp only[q]at hw;have c:Region.wanted o (yielded ops a.tmps)=true:=by simp[Region.wanted,q]
    simp only[c,if_true];exact yes f g hw
   |some F=>
    obtain⟨j,want⟩:=F;simp only[q]at hw;cases x:(ops.toList[j]?).bind (·.dst) with
    |none=>
     simp only[x]at hw;have p:(ops[j]?).bind (·.dst)=none:=by simpa using x
     have c:Region.wanted o (yielded ops a.tmps)=false:=by simp[Region.wanted,q,yielded,p]
     simp only[c,gW,if_false];exact no f g hw
    |some d=>
     simp only[x]at hw;have p:(ops[j]?).bind (·.dst)=some d:=by simpa using x
     split at hw
     .rename_i b hb
      have k:a.tmps[d]?=some (.bool b):=g.fr _ _ hb;have c:Region.wanted o (yielded ops a.tmps)=(b == want):=by simp[Region.wanted,q,yielded,p,k]
      have h:=g.same k;cases b
      .simp only[aR,cond_false]at hw
       cases want
       .simp only[cond_false]at hw
        simp only[c,beq_self_eq_true,if_true];exact yes _ h hw
       .simp only[cond_true]at hw
        have:(false == true)=false:=rfl;simp only[c,this,gW,if_false];exact no _ h hw
      .simp only[aR,cond_true]at hw
       cases want
       .simp only[cond_false]at hw
        have:(true == false)=false:=rfl;simp only[c,this,gW,if_false];exact no _ h hw
       .simp only[cond_true]at hw
        simp only[c,beq_self_eq_true,if_true];exact yes _ h hw
     .rename_i v N hb
      cases s:QJ v
      .simp only[s,cond_false]at hw;exact hw.elim
      simp only[s,cond_true]at hw;have k:a.tmps[d]?=some v:=g.fr _ _ hb;have C:∃E,v = .tuple E:=by cases v<;>simp[QJ]at s<;>exact⟨_,rfl⟩
      obtain⟨E,rfl⟩:=C;have c:Region.wanted o (yielded ops a.tmps)=false:=by simp[Region.wanted,q,yielded,p,k]
      simp only[c,gW,if_false];exact no f g hw
     .exact hw.elim
theorem yD{ro:Option Nat}{o:Oper}{w:World}{next:Act->World->Prop}(d:∀a w,next a w->next' a w)(h:qS P dr o a w next):o.wpIn (LP ro) 0 P a w next' Q:=by
 unfold qS at h;split at h
 .obtain⟨v,b,c⟩:=h;exact Kx d (by unfold Oper.JC;rw[b w];exact c)
 .obtain⟨v,b,c⟩:=h;exact Kx d (by unfold Oper.JC;rw[b];exact c)
 .exact Kx d h
theorem VA{ro:Option Nat}{R:Act->World->Prop}{m:List Nat}(g:∀a w,R a w->wpOpsIn (LP ro) 0 P ops Q m a w) :
  ∀(l:List Nat) (acc:List Made) (a:Act) (w:World),Ab P dr ops loose R l acc a w->wpOpsIn (LP ro) 0 P ops Q (l++m) a w:=by
 intro l
 induction l with
 |nil=>intro acc a w h;exact g _ _ h
 |cons i rest c=>
  intro acc a w h;simp only[Ab]at h;simp only[Ed,wpOpsIn];cases hi:ops[i]? with
  |none=>simp only[hi]at h
  |some o=>
   simp only[hi]at h;cases hw:Region.wanted o (yielded ops a.tmps)
   .simp only[hw,gW,if_false]at h⊢
    exact⟨λ_ _=>trivial,c _ _ _ h⟩
   .simp only[hw,if_true]at h⊢
    cases he:tR P o
    .simp only[he,gW,if_false]at h
     cases f:oM P o
     .simp only[f,gW,if_false]at h
      exact yD (λd e b=>c _ _ _ b) h
     .simp only[f,if_true]at h
      obtain⟨v,j,b⟩:=h;exact Kx (next:=λd e=>wpOpsIn (LP ro) 0 P ops Q (rest++m) d e) (λ_ _ h=>h) (by unfold Oper.JC;rw[j];exact c _ _ _ b)
    .simp only[he,if_true]at h
     exact yD (λd e b=>c _ _ _ b.2) h
theorem Yj{ro:Option Nat}:
  ∀(l:List Nat) (acc:List Made) (a:Act) (w:World),Ab P dr ops loose (Q .normal) l acc a w->wpOpsIn (LP ro) 0 P ops Q l a w:=by
 intro l
 induction l with
 |nil=>intro acc a w h;exact h
 |cons i rest c=>
  intro acc a w h;simp only[Ab]at h;simp only[wpOpsIn];cases hi:ops[i]? with
  |none=>simp only[hi]at h
  |some o=>
   simp only[hi]at h;cases hw:Region.wanted o (yielded ops a.tmps)
   .simp only[hw,gW,if_false]at h⊢
    exact⟨λ_ _=>trivial,c _ _ _ h⟩
   .simp only[hw,if_true]at h⊢
    cases he:tR P o
    .simp only[he,gW,if_false]at h
     cases f:oM P o
     .simp only[f,gW,if_false]at h
      exact yD (λd e b=>c _ _ _ b) h
     .simp only[f,if_true]at h
      obtain⟨v,g,b⟩:=h;exact Kx (next:=λd e=>wpOpsIn (LP ro) 0 P ops Q rest d e) (λ_ _ h=>h) (by unfold Oper.JC;rw[g];exact c _ _ _ b)
    .simp only[he,if_true]at h
     exact yD (λd e b=>c _ _ _ b.2) h
end
end
end Go.Sw
