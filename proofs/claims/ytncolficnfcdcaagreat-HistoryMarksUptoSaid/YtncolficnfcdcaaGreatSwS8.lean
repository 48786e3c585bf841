import Derived.Test.YtncolficnfcdcaaGreatSwS7
set_option linter.unusedVariables false
set_option linter.unusedSimpArgs false
namespace Go.Sw
section
variable{l:List Nat}
def Ci(o:Oper):List Nat:=(o.after.toList.filter (Region.binds .any)).map (·.on)
def Yy(xs l:List Nat):List Nat:=xs.foldl (λl x=>bif mem x l then l else x::l) l
def fe(done:List (List Nat))(ps:List Nat):List Nat:=ps.foldl (λacc p=>Yy (done.getD p []) (Yy [p] acc)) []
def J3(ops:List Oper):List (List Nat):=ops.foldl (λdone o=>done++[fe done (Ci o)]) []
def On(P:Program)(ops:Array Oper)(loose:List (Nat×Nat))(x s:Nat):Bool:=
 match ops[x]?,ops[s]? with
 | some ox,some os=>ox.apart ops os && (match lN P ox.op,lN P os.op with
  |.SX, .pure=>true
  |.SX,_=>false
  |.load, .SX=>IY loose x s
  |_,_=>true)
 |_,_=>false
def G4(P:Program)(ops:Array Oper)(i:Nat):Bool:=
 match ops[i]? with
 |some o=>tR P o
 |none=>false
def FM(R:Nat->Nat->Bool):List Nat->Bool
 |[]=>true
 |x::r=>r.all (R x) && FM R r
def EE(o:Oper):Bool:=
 match o.op with
 |.select _ _=>true
 |_=>false
def U2(s:Nat):List Nat->Bool
 |[]=>false
 |x::_=>Nat.beq x s
def Xl(anc:List (List Nat)):Nat->List (List Nat)->Bool
 |0,es=>es.any (·.isEmpty)
 | k+1,es=>match es with
  |[]=>false
  |[]::_=>true
  | (x::e0)::r=>(x::e0).all λs=>(x::e0).any (λy=>mem y (anc.getD s [])) || Xl anc k ((((x::e0)::r).filter (U2 s)).map List.tail)
def Rf(P:Program)(ops:Array Oper)(ls:List (List Nat))(loose:List (Nat×Nat)):Bool:=
 let n:=ops.size
 let anc:=J3 ops.toList
 ops.toList.all (λo=>!EE o && (Ci o).all (λp=>Nat.blt p n)) &&
 (List.range n).all (λs=>match ops[s]? with
  |some o=>!mem s (Ci o) && (anc.getD s []).all λx=>(Ci o).any λp=>Nat.beq p x || mem x (anc.getD p [])
  |none=>false) &&
 ls.all (λL=>L.all (λi=>Nat.blt i n) && (List.range n).all (λi=>mem i L) &&
  FM (λx s=>!Nat.beq x s && (match ops[x]? with
   |some o=>!mem s (Ci o)
   |none=>false) && (mem x (anc.getD s []) || On P ops loose x s || (G4 P ops x && G4 P ops s))) L) &&
 Xl anc n (ls.map λL=>L.filter (G4 P ops))
theorem Rh{R:Nat->Nat->Bool}:FM R l=true↔l.Pairwise λx s=>R x s=true:=by
 induction l with
 |nil=>simp[FM]
 |cons x r b=>simp[FM,yI,b]
theorem FJ{n:Nat}:mem n l=true↔n∈l:=by
 induction l with
 |nil=>simp[mem]
 |cons k r b=>
  simp only[mem,eH];cases hb:Nat.beq k n
  .have:k≠n:=λe=>by rw[fN.2 e]at hb;cases hb
   simp only[cond_false,b];exact⟨λh=>.inr h,λh=>h.resolve_left (λe=>this e.symm)⟩
  .simp only[cond_true,true_iff]
   exact .inl (fN.1 hb).symm
section
variable{P:Program}{ops:Array Oper}{loose:List (Nat×Nat)}{R:Act->World->Prop}
variable{a:Act}{x s i:Nat}{l l' σ:List Nat}{acc:List Made}{v:Value}{dx:Option Tmp}{Q:Exit->Act->World->Prop}{listed:Array Bool}
theorem Oper.Yk{o:Oper}{w:World}{K:Act->World->Prop}(h:o.JC P a w K λ_ _ _=>False):∃g c,K g c:=by
 unfold Oper.JC at h;generalize(execOp a.eval o).run P w=r at *;cases r with
 |ok n c=>
  cases n with
  |value v=>exact⟨_,_,h⟩
  |skip=>exact⟨_,_,h⟩
  |enter f args=>
   obtain⟨e,d,fr,b, -⟩:=h [];cases e with
   |returned v=>exact⟨_,_,b⟩
   |panicked ch=>exact b.elim
   |outgrown=>obtain⟨_,_,b⟩:=b;exact b.elim
  |round l f tmps assign body=>
   obtain⟨e,d,b, -⟩:=h.2 default [] (room_wide _);cases e with
   |returned v=>exact⟨_,_,b⟩
   |panicked ch=>exact b.elim
   |outgrown=>obtain⟨_,_,b⟩:=b;exact b.elim
  |_=>exact h.elim
 |halt x c=>cases x<;>exact h.elim
theorem Uh:∀{l:List Nat} {acc b:List Made} {a:Act} {w:World},(∀x,x∈b->x∈acc)->Ab P true ops loose R l acc a w->Ab P true ops loose R l b a w:=by
 intro l
 induction l with
 |nil=>intro acc b a w d h;exact h
 |cons i rest e=>
  intro acc b a w d h;simp only[Ab]at h⊢;cases hi:ops[i]? with
  |none=>simp only[hi]at h
  |some o=>
   simp only[hi]at h⊢;cases hw:Region.wanted o (yielded ops a.tmps)
   .simp only[hw,gW,if_false]at h⊢
    exact e d h
   .simp only[hw,if_true]at h⊢
    cases he:tR P o
    .simp only[he,gW,if_false]at h⊢
     cases f:oM P o
     .simp only[f,gW,if_false]at h⊢
      exact D5 (λa w h=>e d h) h
     .simp only[f,if_true]at h⊢
      obtain⟨v,g,j⟩:=h;refine⟨v,g,e (λx c=>?_) j⟩;rcases eH.1 c with rfl|c
      .exact eO ..
      .exact eK _ (d x c)
    .simp only[he,if_true]at h⊢
     refine D5 (λa w h=>⟨λx c=>h.1 x ?_,e d h.2⟩) h;simp only[AN,wS]at c⊢;exact⟨d x c.1,c.2⟩
theorem Pj(b:∀acc a w,Ab P true ops loose R l acc a w->Ab P true ops loose R l' acc a w){w:World}
  (h:Ab P true ops loose R (x::l) acc a w):Ab P true ops loose R (x::l') acc a w:=by
 simp only[Ab]at h⊢;cases hi:ops[x]? with
 |none=>simp only[hi]at h
 |some o=>
  simp only[hi]at h⊢;cases hw:Region.wanted o (yielded ops a.tmps)
  .simp only[hw,gW,if_false]at h⊢
   exact b _ _ _ h
  .simp only[hw,if_true]at h⊢
   cases he:tR P o
   .simp only[he,gW,if_false]at h⊢
    cases c:oM P o
    .simp only[c,gW,if_false]at h⊢
     exact D5 (λa w h=>b _ _ _ h) h
    .simp only[c,if_true]at h⊢
     obtain⟨v,d,e⟩:=h;exact⟨v,d,b _ _ _ e⟩
   .simp only[he,if_true]at h⊢
    exact D5 (λa w h=>⟨h.1,b _ _ _ h.2⟩) h
theorem DQ(o:Oper):(lN P o.op = .pure/\tR P o=false/\oM P o=false)\/(lN P o.op = .load/\tR P o=false/\oM P o=true)\/(lN P o.op = .SX/\tR P o=true/\oM P o=false):=by
 unfold tR oM;cases lN P o.op<;>simp
def xC(P:Program)(ops:Array Oper)(o:Oper)(a:Act)(v:Value):Prop:=
 (Region.wanted o (yielded ops a.tmps)=true/\∀w,(execOp a.eval o).run P w = .ok (.value v) w)\/(Region.wanted o (yielded ops a.tmps)=false/\v=undef)
theorem xC.fn{o:Oper}{e:Value}(h:xC P ops o a v)(h':xC P ops o a e):v=e:=by
 rcases h with⟨c,f⟩|⟨c,rfl⟩<;>rcases h' with⟨b,d⟩|⟨b,rfl⟩
 .have:=(f default).symm.trans (d default)
  injection this with this;injection this
 .rw[c]at b;cases b
 .rw[c]at b;cases b
 .rfl
theorem yF{o:Oper}(g:ops[x]?=some o)(c:lN P o.op = .pure){w:World} :
  Ab P true ops loose R (x::l) acc a w↔∃v,xC P ops o a v/\Ab P true ops loose R l acc (a.put o.dst v) w:=by
 have he:tR P o=false:=by simp[tR,c]
 have f:oM P o=false:=by simp[oM,c]
 simp only[Ab,g,he,f,gW,if_false];cases hw:Region.wanted o (yielded ops a.tmps)
 .simp only[gW,if_false]
  constructor
  .intro h;exact⟨undef, .inr ⟨hw,rfl⟩,h⟩
  .rintro⟨v,d,h⟩
   rcases d with⟨b, -⟩|⟨-, rfl⟩
   .rw[hw]at b;cases b
   .exact h
 .simp only[if_true,qS,c]
  constructor
  .rintro⟨v,b,e⟩;exact⟨v, .inl ⟨hw,b⟩,e⟩
  .rintro⟨v,d,h⟩
   rcases d with⟨-, b⟩|⟨b, -⟩
   .exact⟨v,b,h⟩
   .rw[hw]at b;cases b
theorem Dv{o:Oper}(b:ops[x]?=some o){w:World}(hw:Region.wanted o (yielded ops a.tmps)=false) :
  Ab P true ops loose R (x::l) acc a w↔Ab P true ops loose R l acc (a.put o.dst undef) w:=by
 simp only[Ab,b,hw,gW,if_false]
theorem Du{o:Oper}(d:ops[x]?=some o)(b:lN P o.op = .load){w:World}(hw:Region.wanted o (yielded ops a.tmps)=true) :
  Ab P true ops loose R (x::l) acc a w↔∃v,(execOp a.eval o).run P w = .ok (.value v) w/\Ab P true ops loose R l ((x,execOp a.eval o,v)::acc) (a.put o.dst v) w:=by
 have he:tR P o=false:=by simp[tR,b]
 have c:oM P o=true:=by simp[oM,b]
 simp only[Ab,d,he,c,hw,gW,if_false,if_true]
theorem Gy{o:Oper}(e:ops[x]?=some o)(b:lN P o.op = .SX){w:World}(hw:Region.wanted o (yielded ops a.tmps)=true) :
  Ab P true ops loose R (x::l) acc a w↔o.JC P a w (λd c=>Ib P c (AN loose x acc)/\Ab P true ops loose R l acc d c) λ_ _ _=>False:=by
 have he:tR P o=true:=by simp[tR,b]
 simp only[Ab,e,he,hw,if_true,qS,b]
theorem RB{o:Oper}{w:World}{K:Act->World->Prop}(h:o.JC P a w K λ_ _ _=>False) :
  o.JC P a w (λc b=>K c b/\(∃v d,c={a with defers:=d}.put o.dst v)) λ_ _ _=>False:=by
 unfold Oper.JC at *;generalize(execOp a.eval o).run P w=r at *;cases r with
 |ok n b=>
  cases n with
  |value v=>exact⟨h,_,a.defers,rfl⟩
  |skip=>exact⟨h,_,a.defers,rfl⟩
  |enter f args=>
   refine Calls.mono h λe g he=>?_;cases e with
   |returned v=>exact⟨he,v,a.defers,rfl⟩
   |panicked ch=>exact he
   |outgrown=>exact he
  |round l f tmps assign body=>
   refine RoundIn.mono h λe g he=>?_;cases e with
   |returned v=>exact⟨he,v,a.defers,rfl⟩
   |panicked ch=>exact he
   |outgrown=>exact he
  |_=>exact h.elim
 |halt x b=>cases x<;>exact h.elim
theorem VD{o:Oper}(c:EE o=false){w:World}{K:Act->World->Prop}(h1:∀d,dx=some d->d∉o.looksAt ops)(h:∀d,dx=some d->o.dst≠some d) :
  o.JC P (a.put dx v) w K (λ_ _ _=>False)↔o.JC P a w (λg f=>K (g.put dx v) f) λ_ _ _=>False:=by
 unfold Oper.JC;have k:∀cs b,o.op ≠ .select cs b:=by
  intro cs b e;simp[EE,e]at c
 rw[execOp_put (ops:=ops) o k a dx v h1];generalize(execOp a.eval o).run P w=r;have j:∀(b:Act) u,(b.put dx v).put o.dst u=(b.put o.dst u).put dx v:=λb u=>Act.put_comm b v u h;cases r with
 |ok n f=>cases n<;>simp only[Ot,j]
 |halt x f=>cases x<;>simp only[Ot]
theorem pK{o:Oper}(c:EE o=false){x:Option Tmp}{u:Value}(d:List Deferred)(h:∀k,x=some k->k∉o.looksAt ops) :
  execOp (({a with defers:=d}:Act).put x u).eval o=execOp a.eval o/\Region.wanted o (yielded ops (({a with defers:=d}:Act).put x u).tmps)=Region.wanted o (yielded ops a.tmps):=by
 have f:∀cs b,o.op ≠ .select cs b:=by
  intro cs b e;simp[EE,e]at c
 rw[execOp_put (ops:=ops) o f _ x u h,wanted_put o _ x u h];exact⟨rfl,rfl⟩
theorem xC.same{o:Oper}(b:EE o=false){x:Option Tmp}{u v:Value}(d:List Deferred)(h:∀k,x=some k->k∉o.looksAt ops) :
  xC P ops o (({a with defers:=d}:Act).put x u) v↔xC P ops o a v:=by
 obtain⟨c,e⟩:=pK (ops:=ops) (u:=u) (a:=a) b d h;unfold xC;rw[c,e]
theorem dd{os:Oper}(g:ops[s]?=some os)(e:EE os=false){w:World}(h1:∀d,dx=some d->d∉os.looksAt ops)(o:∀d,dx=some d->os.dst≠some d)
 (k:∀j u d n,Ab P true ops loose R l j ((({a with defers:=d}:Act).put os.dst u).put dx v) n->Ab P true ops loose R l' j (({a with defers:=d}:Act).put os.dst u) n)
  (h:Ab P true ops loose R (s::l) acc (a.put dx v) w):Ab P true ops loose R (s::l') acc a w:=by
 have A:execOp (a.put dx v).eval os=execOp a.eval os:=(pK (ops:=ops) (u:=v) (a:=a) e a.defers h1).1;have hw:Region.wanted os (yielded ops (a.put dx v).tmps)=Region.wanted os (yielded ops a.tmps):=(pK (ops:=ops) (u:=v) (a:=a) e a.defers h1).2;have m:∀(b:Act) u,(b.put dx v).put os.dst u=(b.put os.dst u).put dx v:=λb u=>Act.put_comm b v u o;cases c:Region.wanted os (yielded ops a.tmps)
 .rw[c]at hw
  rw[Dv g hw,m]at h;rw[Dv g c];exact k _ undef a.defers _ h
 .rw[c]at hw
  rcases DQ os with⟨f, -, -⟩|⟨f, -, -⟩|⟨f, -, -⟩
  .rw[yF g f]at h⊢
   obtain⟨u,z,h⟩:=h;have p:xC P ops os a u:=(xC.same (a:=a) e a.defers h1).1 z;rw[m]at h;exact⟨u,p,k _ u a.defers _ h⟩
  .rw[Du g f hw]at h
   rw[Du g f c];obtain⟨u,q,h⟩:=h;rw[A]at q h;rw[m]at h;exact⟨u,q,k _ u a.defers _ h⟩
  .rw[Gy g f hw]at h
   rw[Gy g f c];refine Oper.JD (λB n r=>?_) (λ_ _ _ h=>h) (RB ((VD e h1 o).1 h));obtain⟨⟨t,y⟩,u,d,rfl⟩:=r;exact⟨t,k _ u d _ y⟩
theorem dg{f os:Oper}(z:ops[x]?=some f)(n:ops[s]?=some os)(k:EE f=false)(g:EE os=false)(O:On P ops loose x s=true)
 {w:World} (h:Ab P true ops loose R (x::s::l) acc a w):Ab P true ops loose R (s::x::l) acc a w:=by
 simp only[On,z,n,iL]at O;obtain⟨X,p⟩:=O;obtain⟨D,L,G⟩:=Oper.apart_spec X;have W:∀d,os.dst=some d->f.dst≠some d:=λd e e'=>L d e' e;have C:∀v,xC P ops f a v->Ab P true ops loose R (s::l) acc (a.put f.dst v) w->(lN P f.op = .pure\/Region.wanted f (yielded ops a.tmps)=false)->Ab P true ops loose R (s::x::l) acc a w:=by
  intro v q h j;refine dd n g D L (λao u d A t=>?_) h;have I:=(xC.same (P:=P) (ops:=ops) (u:=u) k d G).2 q;rcases j with j|j
  .exact(yF z j).2 ⟨v,I,t⟩
  .have Z:Region.wanted f (yielded ops (({a with defers:=d}:Act).put os.dst u).tmps)=false:=by rw[(pK k d G).2];exact j
   rcases q with⟨e, -⟩|⟨-, rfl⟩
   .rw[j]at e;cases e
   .exact(Dv z Z).2 t
 cases r:Region.wanted f (yielded ops a.tmps)
 .exact C undef (.inr ⟨r,rfl⟩) ((Dv z r).1 h) (.inr r)
 .rcases DQ f with⟨j, -, -⟩|⟨j, -, -⟩|⟨j, -, -⟩
  .obtain⟨v,q,h⟩:=(yF z j).1 h
   exact C v q h (.inl j)
  .obtain⟨v,K,h⟩:=(Du z j r).1 h
   have al:∀u d,execOp (({a with defers:=d}:Act).put os.dst u).eval f=execOp a.eval f:=λu d=>(pK (ops:=ops) k d G).1;have ab:∀u d,Region.wanted f (yielded ops (({a with defers:=d}:Act).put os.dst u).tmps)=true:=λu d=>by rw[(pK (ops:=ops) k d G).2];exact r
   have Y:execOp (a.put f.dst v).eval os=execOp a.eval os:=(pK (ops:=ops) (u:=v) (a:=a) g a.defers D).1;have B:Region.wanted os (yielded ops (a.put f.dst v).tmps)=Region.wanted os (yielded ops a.tmps):=(pK (ops:=ops) (u:=v) (a:=a) g a.defers D).2;have S:∀(b:Act) u,(b.put f.dst v).put os.dst u=(b.put os.dst u).put f.dst v:=λb u=>Act.put_comm b v u L;have tail:∀{E F:List Made} {u:Value} {d:List Deferred} {A:World},(execOp a.eval f).run P A = .ok (.value v) A->(∀y,y∈(x,execOp a.eval f,v)::F->y∈E) ->
     Ab P true ops loose R l E ((({a with defers:=d}:Act).put os.dst u).put f.dst v) A->Ab P true ops loose R (x::l) F (({a with defers:=d}:Act).put os.dst u) A:=by
    intro E F u d A K T t;rw[Du z j (ab u d),al];exact⟨v,K,Uh T t⟩
   cases m:Region.wanted os (yielded ops a.tmps)
   .rw[m]at B
    rw[Dv n B,S]at h;rw[Dv n m];exact tail (d:=a.defers) K (λy o=>o) h
   .rw[m]at B
    rcases DQ os with⟨c, -, -⟩|⟨c, -, -⟩|⟨c, -, -⟩
    .rw[yF n c]at h⊢
     obtain⟨u,q,h⟩:=h;have I:xC P ops os a u:=(xC.same (a:=a) g a.defers D).1 q;rw[S]at h;exact⟨u,I,tail (d:=a.defers) K (λy o=>o) h⟩
    .rw[Du n c B]at h
     rw[Du n c m];obtain⟨u,N,h⟩:=h;rw[Y]at N h;rw[S]at h;refine⟨u,N,tail (d:=a.defers) K (λy o=>?_) h⟩;simp only[eH]at o⊢;rcases o with h|h|h
     .exact .inr (.inl h)
     .exact .inl h
     .exact .inr (.inr h)
    .rw[Gy n c B]at h
     rw[Gy n c m];refine Oper.JD (λV A t=>?_) (λ_ _ _ h=>h) (RB ((VD g D L).1 h));obtain⟨⟨M,H⟩,u,d,rfl⟩:=t;have hl:IY loose x s=true:=by simpa[j,c] using p
     refine⟨λy o=>M y ?_,tail (M (x,execOp a.eval f,v) ?_) (λy o=>o) H⟩
     .simp only[AN,wS,eH]at o⊢
      exact⟨.inr o.1,o.2⟩
     .simp[AN,hl]
  .have c:lN P os.op = .pure:=by
    rcases DQ os with⟨c, -, -⟩|⟨c, -, -⟩|⟨c, -, -⟩
    .exact c
    .simp[j,c]at p
    .simp[j,c]at p
   have h:=(Gy z j r).1 h;have h:=RB h;obtain⟨V,A,⟨-, t⟩,u0,d0,rfl⟩:=Oper.Yk h;obtain⟨u,q, -⟩:=(yF n c).1 t;have q:xC P ops os a u:=(xC.same g d0 D).1 q;refine(yF n c).2 ⟨u,q,?_⟩;have U:Region.wanted f (yielded ops (a.put os.dst u).tmps)=true:=by rw[(pK (ops:=ops) (a:=a) k a.defers G).2];exact r
   refine(Gy z j U).2 ((VD k G W).2 (Oper.JD (λV A t=>?_) (λ_ _ _ h=>h) h));obtain⟨⟨M,H⟩,u1,d1,rfl⟩:=t;obtain⟨u2,J,H⟩:=(yF n c).1 H;have J:xC P ops os a u2:=(xC.same g d1 D).1 J;obtain rfl:=J.fn q;exact⟨M,H⟩
theorem Vz(b:∀(i:Nat) o,ops[i]?=some o->EE o=false){os:Oper}(f:ops[s]?=some os) :
  ∀{A B:List Nat},(∀x,x∈A->On P ops loose x s=true)->∀{acc:List Made} {a:Act} {w:World},Ab P true ops loose R (A++s::B) acc a w->Ab P true ops loose R (s::(A++B)) acc a w:=by
 intro A
 induction A with
 |nil=>intro B c acc a w h;exact h
 |cons x A j=>
  intro B c acc a w h;have e:Ab P true ops loose R (x::s::(A++B)) acc a w:=Pj (λacc a w h=>j (λy g=>c y (eK _ g)) h) h;cases d:ops[x]? with
  |none=>simp only[Ab,d]at e
  |some k=>exact dg d f (b x k d) (b s os f) (c x (eO ..)) e
theorem Yi{ro:Option Nat}(p:∀(i:Nat) o,ops[i]?=some o->EE o=false):
  ∀{σ L:List Nat},(∀i,i∈L->∃o,ops[i]?=some o)->σ.Perm L->σ.Nodup->(∀x s,[x,s].Sublist L->[s,x].Sublist σ->On P ops loose x s=true) ->
   ∀{a:Act} {w:World},Ab P true ops loose (Q .normal) L [] a w->wpOpsIn (LP ro) 0 P ops Q σ a w:=by
 intro σ
 induction σ with
 |nil=>
  intro L _ d _ _ a w h;obtain rfl:=RK d.symm;exact h
 |cons s σ H=>
  intro L hex d u k a w h;have j:s∈L:=d.subset (eO ..);obtain⟨A,B,rfl⟩:=List.append_of_mem j;have g:σ.Perm (A++B):=(RL s).1 (d.trans List.perm_middle);have E:∀x,x∈A->On P ops loose x s=true:=by
   intro x e;refine k x s ?_ ?_
   .have C:[x].Sublist A:=JF.2 e
    have D:[s].Sublist (s::B):=JF.2 (eO ..);exact C.append D
   .have:x∈σ:=g.symm.subset (oV _ e)
    exact RM s (JF.2 this)
  cases c:ops[s]? with
  |none=>
   obtain⟨o,F⟩:=hex s j;rw[F]at c;cases c
  |some os=>
   have hb:=Vz p c E h;have q:σ.Nodup:=(CF.1 u).2;have b:∀{a:Act} {w:World},Ab P true ops loose (Q .normal) (A++B) [] a w->wpOpsIn (LP ro) 0 P ops Q σ a w:=by
    intro a w h;refine H (λi hi=>hex i (by
     rcases dH.1 hi with h|h
     .exact oV _ h
     .exact qI _ (eK _ h))) g q (λx t z y=>k x t ?_ ?_) h
    .refine z.trans ?_
     exact List.Sublist.append (List.Sublist.refl A) (Mf s B)
    .exact y.trans (Mf s σ)
   simp only[wpOpsIn,c];simp only[Ab,c]at hb;cases hw:Region.wanted os (yielded ops a.tmps)
   .simp only[hw,gW,if_false]at hb⊢
    exact⟨λ_ _=>trivial,b hb⟩
   .simp only[hw,if_true]at hb⊢
    cases he:tR P os
    .simp only[he,gW,if_false]at hb
     cases f:oM P os
     .simp only[f,gW,if_false]at hb
      exact yD (λm r n=>b n) hb
     .simp only[f,if_true]at hb
      obtain⟨v,G,hb⟩:=hb;exact Kx (next:=λm r=>wpOpsIn (LP ro) 0 P ops Q σ m r) (λ_ _ h=>h) (by unfold Oper.JC;rw[G];exact b (Uh (λx e=>(lG e).elim) hb))
    .simp only[he,if_true]at hb
     exact yD (λm r n=>b n.2) hb
theorem Gv(j:σ.Nodup)(h:[x,s].Sublist σ):σ.idxOf x<σ.idxOf s:=by
 induction σ with
 |nil=>cases h
 |cons k σ p=>
  obtain⟨d,f⟩:=CF.1 j;cases h with
  |cons _ h=>
   have o:x∈σ:=h.subset (eO ..);have g:s∈σ:=h.subset (eK _ (eO ..));have n:k≠x:=λe=>d (e ▸ o);have c:k≠s:=λe=>d (e ▸ g);have m:(k == x)=false:=beq_eq_false_iff_ne.2 n;have b:(k == s)=false:=beq_eq_false_iff_ne.2 c;rw[RN,RN,m,b];have:=p f h;simp only[cond_false];omega
  |cons_cons _ h=>
   have g:s∈σ:=h.subset (eO ..);have c:x≠s:=λe=>d (e ▸ g);have b:(x == s)=false:=beq_eq_false_iff_ne.2 c;rw[List.idxOf_cons_self,RN,b];simp only[cond_false];omega
theorem Yb(d:σ.Nodup){p:Nat}(h:[x,p].Sublist σ)(h':[p,s].Sublist σ):[x,s].Sublist σ:=by
 induction σ with
 |nil=>cases h
 |cons k σ e=>
  obtain⟨c,b⟩:=CF.1 d;cases h with
  |cons _ h=>
   cases h' with
   |cons _ h'=>exact(e b h h').trans (Mf ..)
   |cons_cons _ h'=>exact absurd (h.subset (eK _ (eO ..))) c
  |cons_cons _ h=>
   cases h' with
   |cons _ h'=>exact RM x (JF.2 (h'.subset (eK _ (eO ..))))
   |cons_cons _ h'=>exact absurd (h.subset (eO ..)) c
theorem UR{m:List (List Nat)}:∀{k:Nat} {es:List (List Nat)} {τ:List Nat},Xl m k es=true->(∀e,e∈es->e.Perm τ)->τ.Nodup ->
  (∀s x,s∈τ->x∈τ->mem x (m.getD s [])=true->[x,s].Sublist τ)->τ∈es:=by
 intro k
 induction k with
 |zero=>
  intro es τ h b g hb;simp only[Xl,JG]at h;obtain⟨e,he,o⟩:=h;obtain rfl:=List.isEmpty_iff.1 o;obtain rfl:=RK (b _ he).symm;exact he
 |succ k F=>
  intro es τ h b g hb
  match es,h,b with
  |[]::r,h,b=>
   obtain rfl:=RK (b [] (eO ..)).symm;exact eO ..
  | (y::e0)::r,h,b=>
   have c:=b (y::e0) (eO ..)
   match τ,c,g,hb,b with
   |[],c,_,_,_=>exact absurd c.eq_nil (by simp)
   |s::τ,c,g,hb,b=>
    simp only[Xl,F1,KE,JG]at h;have D:s∈y::e0:=c.symm.subset (eO ..);obtain⟨C,p⟩:=CF.1 g;rcases h s D with⟨z,E,A⟩|h
    .exfalso
     have B:z∈s::τ:=c.subset E;have:=Gv g (hb s z (eO ..) B A);rw[List.idxOf_cons_self]at this;omega
    .have:=F (τ:=τ) h (λe he=>by
      obtain⟨n,j,rfl⟩:=dA.1 he;obtain⟨f,d⟩:=wS.1 j
      match n,d with
      |u::q,d=>
       simp only[U2]at d;obtain rfl:=fN.1 d;exact(RL u).1 (b _ f)) p (λt x ht w hm=>by
      have f:=hb t x (eK _ ht) (eK _ w) hm;cases f with
      |cons _ f=>exact f
      |cons_cons _ f=>exact absurd w C)
     obtain⟨n,j,het⟩:=dA.1 this;obtain⟨f,d⟩:=wS.1 j
     match n,d,het with
     |u::q,d,het=>
      simp only[U2]at d;obtain rfl:=fN.1 d;simp only[List.tail_cons]at het;subst het;exact f
def wO(ops:Array Oper)(s:Nat):List Nat:=
 match ops[s]? with
 |some o=>Ci o
 |none=>[]
theorem PR:i∈Region.ready .any ops listed↔i<ops.size/\listed.getD i true=false/\∀p,p∈wO ops i->listed.getD p false=true:=by
 unfold Region.ready wO;simp only[wS,JH,iL,CG];constructor
 .rintro⟨d,f,b⟩
  refine⟨d,f,λp g=>?_⟩;cases c:ops[i]? with
  |none=>simp[c]at b
  |some o=>
   simp only[c]at g;simp only[c,JI,Option.getD_some,RF,KE,CG]at b;simp only[Ci,dA,wS]at g;obtain⟨e,⟨he,hb⟩,rfl⟩:=g;have:=b e (by simpa using he);rcases this with h|h
   .rw[hb]at h;cases h
   .exact h
 .rintro⟨d,f,b⟩
  refine⟨d,f,?_⟩;have c:ops[i]?=some ops[i]:=RH d;simp only[c]at b;simp only[c,JI,Option.getD_some,RF,KE,CG];intro e he;cases hb:Region.binds .any e
  .exact .inl rfl
  .refine .inr (b _ ?_)
   simp only[Ci,dA,wS];exact⟨e,⟨by simpa using he,hb⟩,rfl⟩
theorem Jt{j:Nat}{d:Bool}(hi:i<listed.size):(listed.setIfInBounds i true).getD j d=if i=j then true else listed.getD j d:=by
 by_cases e:i=j
 .subst e;simp[hi]
 .simp[yH e,e]
theorem ZJ{L:List Nat}(E:∀i,i<ops.size->i∈L)(F:∀i,i∈L->i<ops.size)(A:∀(i p:Nat),p∈wO ops i->p<ops.size)
  (K:L.Pairwise λx s=>x≠s/\s∉wO ops x) (q:∀i,i∈L->i∉wO ops i) :
  ∀(fuel t:Nat) (listed:Array Bool),listed.size=ops.size->((List.range ops.size).filter λi=>!listed.getD i true).length<=fuel ->
   (Region.linearise.go .any ops fuel t listed []).Nodup/\(∀i,i∈Region.linearise.go .any ops fuel t listed []↔i<ops.size/\listed.getD i true=false) /\
   (∀s p,s∈Region.linearise.go .any ops fuel t listed []->p∈wO ops s->listed.getD p false=true\/[p,s].Sublist (Region.linearise.go .any ops fuel t listed [])):=by
 intro fuel
 induction fuel with
 |zero=>
  intro t listed r hlen;have z:=RD.1 (Nat.le_zero.1 hlen);simp only[Region.linearise.go,List.reverse_nil];refine⟨KF,λi=>⟨λh=>(lG h).elim,λ⟨d,f⟩=>?_⟩,λs p h=>(lG h).elim⟩;have:i∈(List.range ops.size).filter λi=>!listed.getD i true:=wS.2 ⟨JH.2 d,by rw[f];rfl⟩;rw[z]at this;cases this
 |succ fuel X=>
  intro t listed r hlen;simp only[Region.linearise.go];change (match (Region.ready .any ops listed)[t % (Region.ready .any ops listed).length]? with
   |some i=>Region.linearise.go .any ops fuel (t / (Region.ready .any ops listed).length) (listed.setIfInBounds i true) [i]
   |none=>[].reverse).Nodup/\(∀i,i∈(match (Region.ready .any ops listed)[t % (Region.ready .any ops listed).length]? with
   |some i=>Region.linearise.go .any ops fuel (t / (Region.ready .any ops listed).length) (listed.setIfInBounds i true) [i]
   |none=>[].reverse)↔_)/\(∀s p,s∈(match (Region.ready .any ops listed)[t % (Region.ready .any ops listed).length]? with
   |some i=>Region.linearise.go .any ops fuel (t / (Region.ready .any ops listed).length) (listed.setIfInBounds i true) [i]
   |none=>[].reverse)->_->_\/[p,s].Sublist (match (Region.ready .any ops listed)[t % (Region.ready .any ops listed).length]? with
   |some i=>Region.linearise.go .any ops fuel (t / (Region.ready .any ops listed).length) (listed.setIfInBounds i true) [i]
   |none=>[].reverse))
  cases hi:(Region.ready .any ops listed)[t % (Region.ready .any ops listed).length]? with
  |none=>
   simp only[List.reverse_nil];have B:Region.ready .any ops listed=[]:=by
    cases B:Region.ready .any ops listed with
    |nil=>rfl
    |cons x xs=>
     rw[B]at hi;have k:t % (x::xs).length<(x::xs).length:=Nat.mod_lt _ (by simp);rw[cL k]at hi;cases hi
   refine⟨KF,λi=>⟨λh=>(lG h).elim,λ⟨d,f⟩=>?_⟩,λs p h=>(lG h).elim⟩;exfalso;have I:L.filter (λi=>!listed.getD i true)≠[]:=λe=>by
    have:i∈L.filter (λi=>!listed.getD i true):=wS.2 ⟨E i d,by rw[f];rfl⟩;rw[e]at this;cases this
   obtain⟨x,M,w⟩:=List.exists_cons_of_ne_nil I;have O:x∈L.filter (λi=>!listed.getD i true):=by rw[w];exact eO ..
   obtain⟨u,S⟩:=wS.1 O;have m:=K.filter (λi=>!listed.getD i true);rw[w]at m;have N:x∈Region.ready .any ops listed:=by
    refine PR.2 ⟨F x u,by simpa using S,λp g=>?_⟩;have J:=A x p g;cases H:listed.getD p false
    .exfalso
     have k:listed.getD p true=false:=by
      have:p<listed.size:=by omega
      simp[this]at H⊢;exact H
     have c:p∈L.filter (λi=>!listed.getD i true):=wS.2 ⟨E p J,by rw[k];rfl⟩;rw[w]at c;rcases eH.1 c with rfl|c
     .exact q p u g
     .exact((yI.1 m).1 p c).2 g
    .rfl
   rw[B]at N;cases N
  |some i=>
   simp only[];have y:=eM hi;obtain⟨d,f,W⟩:=PR.1 y;have b:i<listed.size:=by omega
   rw[linearise_go_acc,List.reverse_singleton,List.singleton_append];have n:((List.range ops.size).filter λj=>!(listed.setIfInBounds i true).getD j true).length<=fuel:=by
    have C:((List.range ops.size).filter λj=>!(listed.setIfInBounds i true).getD j true)=((List.range ops.size).filter λj=>!listed.getD j true).erase i:=by
     rw[List.Nodup.erase_eq_filter (List.nodup_range.filter _),List.filter_filter];apply List.filter_congr;intro j _;rw[Jt b];by_cases e:i=j
     .subst e;simp
     .have:(j != i)=true:=by simpa using λh=>e h.symm
      simp[e,this]
    have G:i∈(List.range ops.size).filter λj=>!listed.getD j true:=wS.2 ⟨JH.2 d,by rw[f];rfl⟩;rw[C,List.length_erase_of_mem G];omega
   obtain⟨U,D,V⟩:=X (t / (Region.ready .any ops listed).length) (listed.setIfInBounds i true) (by simpa using r) n;refine⟨CF.2 ⟨λh=>?_,U⟩,λj=>?_,λs p o g=>?_⟩
   .have:=(D i).1 h
    rw[Jt b]at this;simp at this
   .rw[eH,D j,Jt b]
    by_cases e:i=j
    .subst e;simp[d,f]
    .have T:j≠i:=λh=>e h.symm
     simp[e,T]
   .rcases eH.1 o with rfl|o
    .exact .inl (W p g)
    .rcases V s p o g with h|h
     .rw[Jt b]at h
      by_cases e:i=p
      .subst e
       exact .inr (RM i (JF.2 o))
      .simp only[e,if_false]at h
       exact .inl h
     .exact .inr (h.trans (Mf ..))
theorem Rm{ro:Option Nat}(hm:P.follows .mixedOrders=true){id:Nat}{ls:List (List Nat)}(G:Rf P ops ls loose=true)
 {w:World} (h:∀L,L∈ls->Ab P true ops loose (Q .normal) L [] a w.drew):(Code.region id ops true).wpIn (LP ro) 0 P Q a w:=by
 refine wpIn_region_draw λt=>?_;simp only[Region.schedule,hm,Bool.true_or,if_true,Region.linearise];simp only[Rf,iL,F1]at G;obtain⟨⟨⟨c1,c2⟩,c3⟩,S⟩:=G;have K:∀(i:Nat) o,ops[i]?=some o->EE o=false:=by
  intro i o u;have:=(c1 o (eM (by simpa using u:ops.toList[i]?=some o))).1;simpa using this
 have D:∀(i p:Nat),p∈wO ops i->p<ops.size:=by
  intro i p c;unfold wO at c;cases u:ops[i]? with
  |none=>simp[u]at c
  |some o=>
   simp only[u]at c;exact fZ ((c1 o (eM (by simpa using u:ops.toList[i]?=some o))).2 p c)
 have q:∀s,s<ops.size->s∉wO ops s/\∀x,x∈(J3 ops.toList).getD s []->∃p,p∈wO ops s/\(p=x\/x∈(J3 ops.toList).getD p []):=by
  intro s b;have:=c2 s (JH.2 b);unfold wO;split at this
  .rename_i o u
   simp only[iL,CG,F1,JG,KE]at this;refine⟨λr=>by rw[FJ.2 r]at this;exact absurd this.1 (by simp),λx j=>?_⟩;obtain⟨p,c,m⟩:=this.2 x j;refine⟨p,c,?_⟩;rcases m with h|h
   .exact .inl (fN.1 h)
   .exact .inr (FJ.1 h)
  .cases this
 have d:∀L,L∈ls->(∀i,i∈L->i<ops.size)/\(∀i,i<ops.size->i∈L)/\L.Pairwise λx s=>(x≠s/\s∉wO ops x)/\(mem x ((J3 ops.toList).getD s [])=true\/On P ops loose x s=true\/(G4 P ops x=true/\G4 P ops s=true)):=by
  intro L g;obtain⟨⟨e1,e2⟩,e3⟩:=c3 L g;refine⟨λi hi=>fZ (e1 i hi),λi hi=>FJ.1 (e2 i (JH.2 hi)),(Rh.1 e3).imp λ{x s} n=>?_⟩;simp only[iL,KE,CG]at n;obtain⟨⟨f1,f2⟩,f3⟩:=n;have Z:x≠s:=λe=>by rw[fN.2 e]at f1;cases f1
  refine⟨⟨Z,?_⟩,?_⟩
  .unfold wO
   split at f2
   .rename_i o u
    simp only[CG]at f2;exact λr=>by rw[FJ.2 r]at f2;cases f2
   .cases f2
  .rcases f3 with(f3|f3)|f3
   .exact .inl f3
   .exact .inr (.inl f3)
   .exact .inr (.inr f3)
 obtain⟨E,W⟩:∃E,E∈ls:=by
  cases ls with
  |nil=>cases hn:ops.size<;>simp[hn,Xl]at S
  |cons L ls=>exact⟨L,eO ..⟩
 obtain⟨o1,o2,o3⟩:=d E W;obtain⟨f,T,U⟩:=ZJ (ops:=ops) (L:=E) o2 o1 D (o3.imp λh=>h.1) (λi hi=>(q i (o1 i hi)).1) ops.size t (Array.replicate ops.size false) (by simp) (by
  have:=List.length_filter_le (λi=>!(Array.replicate ops.size false).getD i true) (List.range ops.size);simpa using this)
 generalize Region.linearise.go .any ops ops.size t (Array.replicate ops.size false) []=σ at f T U⊢;have N:∀i,i∈σ↔i<ops.size:=λi=>by
  rw[T i];constructor
  .exact λh=>h.1
  .exact λh=>⟨h,by simp[h]⟩
 have A:∀s p,s∈σ->p∈wO ops s->[p,s].Sublist σ:=by
  intro s p b c;rcases U s p b c with h|h
  .have:=D s p c
   simp[this]at h
  .exact h
 have C:∀(k s x:Nat),σ.idxOf s<=k->s∈σ->x∈(J3 ops.toList).getD s []->[x,s].Sublist σ:=by
  intro k
  induction k with
  |zero=>
   intro s x hk b j;obtain⟨p,c, -⟩:=(q s ((N s).1 b)).2 x j;have:=Gv f (A s p b c);omega
  |succ k ih=>
   intro s x hk b j;obtain⟨p,c,m⟩:=(q s ((N s).1 b)).2 x j;have B:=A s p b c;rcases m with rfl|m
   .exact B
   .have Y:=Gv f B
    have ab:p∈σ:=B.subset (eO ..);have a0:=ih p x (by omega) ab m;exact Yb f a0 B
 have y:∀s x,s∈σ->mem x ((J3 ops.toList).getD s [])=true->[x,s].Sublist σ:=λs x b j=>C _ s x (bM _) b (FJ.1 j);have z:∀L,L∈ls->L.Perm σ:=by
  intro L g;obtain⟨F,p2,O⟩:=d L g;refine(RO (O.imp λh=>h.1.1) f).2 λi=>?_;rw[N i];exact⟨F i,p2 i⟩
 have I:σ.filter (G4 P ops)∈ls.map λL=>L.filter (G4 P ops):=by
  refine UR S (λe he=>?_) (f.filter _) (λs x b j hm=>?_)
  .obtain⟨L,g,rfl⟩:=dA.1 he
   exact(z L g).filter _
  .obtain⟨al,ao⟩:=wS.1 b
   obtain⟨a1,aw⟩:=wS.1 j;have:=(y s x al hm).filter (G4 P ops);simpa[RJ,aw,ao] using this
 obtain⟨L,g,X⟩:=dA.1 I;obtain⟨F,p2,O⟩:=d L g;refine Yi K (λi hi=>⟨ops[i]'(F i hi),RH (F i hi)⟩) (z L g).symm f (λx s n H=>?_) (h L g);have M:=O.sublist n;have J:=(yI.1 M).1 s (eO ..);have b:s∈σ:=H.subset (eO ..);have Y:=Gv f H;rcases J.2 with h|h|⟨h1,h2⟩
 .have:=Gv f (y s x b h)
  omega
 .exact h
 .exfalso
  have V:[x,s].Sublist (L.filter (G4 P ops)):=by
   have:=n.filter (G4 P ops);simpa[RJ,h1,h2] using this
  rw[X]at V;have:=Gv f (V.trans List.filter_sublist);omega
end
end
end Go.Sw
