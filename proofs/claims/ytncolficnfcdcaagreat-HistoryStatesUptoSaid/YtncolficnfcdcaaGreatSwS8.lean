import Derived.Test.YtncolficnfcdcaaGreatSwS7
set_option linter.unusedVariables false
set_option linter.unusedSimpArgs false
namespace Go.Sw
section
variable{l:List Nat}
def B2(o:Oper):List Nat:=(o.after.toList.filter (Region.binds .any)).map (·.on)
def XH(xs l:List Nat):List Nat:=xs.foldl (λl x=>bif mem x l then l else x::l) l
def ai(done:List (List Nat))(ps:List Nat):List Nat:=ps.foldl (λacc p=>XH (done.getD p []) (XH [p] acc)) []
def JA(ops:List Oper):List (List Nat):=ops.foldl (λdone o=>done++[ai done (B2 o)]) []
def NN(P:Program)(ops:Array Oper)(loose:List (Nat×Nat))(x s:Nat):Bool:=
 match ops[x]?,ops[s]? with
 | some ox,some os=>ox.apart ops os && (match kY P ox.op,kY P os.op with
  |.Sa, .pure=>true
  |.Sa,_=>false
  |.load, .Sa=>Iy loose x s
  |_,_=>true)
 |_,_=>false
def GG(P:Program)(ops:Array Oper)(i:Nat):Bool:=
 match ops[i]? with
 |some o=>sZ P o
 |none=>false
def Fs(R:Nat->Nat->Bool):List Nat->Bool
 |[]=>true
 |x::r=>r.all (R x) && Fs R r
def Ef(o:Oper):Bool:=
 match o.op with
 |.select _ _=>true
 |_=>false
def Um(s:Nat):List Nat->Bool
 |[]=>false
 |x::_=>Nat.beq x s
def Wx(anc:List (List Nat)):Nat->List (List Nat)->Bool
 |0,es=>es.any (·.isEmpty)
 | k+1,es=>match es with
  |[]=>false
  |[]::_=>true
  | (x::e0)::r=>(x::e0).all λs=>(x::e0).any (λy=>mem y (anc.getD s [])) || Wx anc k ((((x::e0)::r).filter (Um s)).map List.tail)
def QH(P:Program)(ops:Array Oper)(ls:List (List Nat))(loose:List (Nat×Nat)):Bool:=
 let n:=ops.size
 let anc:=JA ops.toList
 ops.toList.all (λo=>!Ef o && (B2 o).all (λp=>Nat.blt p n)) &&
 (List.range n).all (λs=>match ops[s]? with
  |some o=>!mem s (B2 o) && (anc.getD s []).all λx=>(B2 o).any λp=>Nat.beq p x || mem x (anc.getD p [])
  |none=>false) &&
 ls.all (λL=>L.all (λi=>Nat.blt i n) && (List.range n).all (λi=>mem i L) &&
  Fs (λx s=>!Nat.beq x s && (match ops[x]? with
   |some o=>!mem s (B2 o)
   |none=>false) && (mem x (anc.getD s []) || NN P ops loose x s || (GG P ops x && GG P ops s))) L) &&
 Wx anc n (ls.map λL=>L.filter (GG P ops))
theorem QJ{R:Nat->Nat->Bool}:Fs R l=true↔l.Pairwise λx s=>R x s=true:=by
 induction l with
 |nil=>simp[Fs]
 |cons x r b=>simp[Fs,Bh,b]
theorem Fm{n:Nat}:mem n l=true↔n∈l:=by
 induction l with
 |nil=>simp[mem]
 |cons k r b=>
  simp only[mem,eJ];cases hb:Nat.beq k n
  .have:k≠n:=λe=>by rw[fH.2 e]at hb;cases hb
   simp only[cond_false,b];exact⟨λh=>.inr h,λh=>h.resolve_left (λe=>this e.symm)⟩
  .simp only[cond_true,true_iff]
   exact .inl (fH.1 hb).symm
section
variable{P:Program}{ops:Array Oper}{loose:List (Nat×Nat)}{R:Act->World->Prop}
variable{a:Act}{x s i:Nat}{l l' σ:List Nat}{acc:List Made}{v:Value}{dx:Option Tmp}{Q:Exit->Act->World->Prop}{listed:Array Bool}
theorem Oper.Xt{o:Oper}{w:World}{K:Act->World->Prop}(h:o.Jc P a w K λ_ _ _=>False):∃g c,K g c:=by
 unfold Oper.Jc at h;generalize(execOp a.eval o).run P w=r at *;cases r with
 |ok n c=>
  cases n with
  |value v=>exact⟨_,_,h⟩
  |skip=>exact⟨_,_,h⟩
  |enter f args=>
   obtain⟨e,d,fr,b, -⟩:=h [];cases e with
   |returned v=>exact⟨_,_,b⟩
   |panicked ch=>exact b.elim
   |outgrown=>obtain⟨_,_,b⟩:=b;exact b.elim
  |round l f tmps assign body=>
   obtain⟨e,d,b, -⟩:=h.2 default [] (room_wide _);cases e with
   |returned v=>exact⟨_,_,b⟩
   |panicked ch=>exact b.elim
   |outgrown=>obtain⟨_,_,b⟩:=b;exact b.elim
  |_=>exact h.elim
 |halt x c=>cases x<;>exact h.elim
theorem Tv:∀{l:List Nat} {acc b:List Made} {a:Act} {w:World},(∀x,x∈b->x∈acc)->zJ P true ops loose R l acc a w->zJ P true ops loose R l b a w:=by
 intro l
 induction l with
 |nil=>intro acc b a w d h;exact h
 |cons i rest e=>
  intro acc b a w d h;simp only[zJ]at h⊢;cases hi:ops[i]? with
  |none=>simp only[hi]at h
  |some o=>
   simp only[hi]at h⊢;cases hw:Region.wanted o (yielded ops a.tmps)
   .simp only[hw,gE,if_false]at h⊢
    exact e d h
   .simp only[hw,if_true]at h⊢
    cases he:sZ P o
    .simp only[he,gE,if_false]at h⊢
     cases f:oG P o
     .simp only[f,gE,if_false]at h⊢
      exact DH (λa w h=>e d h) h
     .simp only[f,if_true]at h⊢
      obtain⟨v,g,j⟩:=h;refine⟨v,g,e (λx c=>?_) j⟩;rcases eJ.1 c with rfl|c
      .exact cX ..
      .exact dZ _ (d x c)
    .simp only[he,if_true]at h⊢
     refine DH (λa w h=>⟨λx c=>h.1 x ?_,e d h.2⟩) h;simp only[Au,wG]at c⊢;exact⟨d x c.1,c.2⟩
theorem OI(b:∀acc a w,zJ P true ops loose R l acc a w->zJ P true ops loose R l' acc a w){w:World}
  (h:zJ P true ops loose R (x::l) acc a w):zJ P true ops loose R (x::l') acc a w:=by
 simp only[zJ]at h⊢;cases hi:ops[x]? with
 |none=>simp only[hi]at h
 |some o=>
  simp only[hi]at h⊢;cases hw:Region.wanted o (yielded ops a.tmps)
  .simp only[hw,gE,if_false]at h⊢
   exact b _ _ _ h
  .simp only[hw,if_true]at h⊢
   cases he:sZ P o
   .simp only[he,gE,if_false]at h⊢
    cases c:oG P o
    .simp only[c,gE,if_false]at h⊢
     exact DH (λa w h=>b _ _ _ h) h
    .simp only[c,if_true]at h⊢
     obtain⟨v,d,e⟩:=h;exact⟨v,d,b _ _ _ e⟩
   .simp only[he,if_true]at h⊢
    exact DH (λa w h=>⟨h.1,b _ _ _ h.2⟩) h
theorem Dw(o:Oper):(kY P o.op = .pure/\sZ P o=false/\oG P o=false)\/(kY P o.op = .load/\sZ P o=false/\oG P o=true)\/(kY P o.op = .Sa/\sZ P o=true/\oG P o=false):=by
 unfold sZ oG;cases kY P o.op<;>simp
def wM(P:Program)(ops:Array Oper)(o:Oper)(a:Act)(v:Value):Prop:=
 (Region.wanted o (yielded ops a.tmps)=true/\∀w,(execOp a.eval o).run P w = .ok (.value v) w)\/(Region.wanted o (yielded ops a.tmps)=false/\v=undef)
theorem wM.fn{o:Oper}{e:Value}(h:wM P ops o a v)(h':wM P ops o a e):v=e:=by
 rcases h with⟨c,f⟩|⟨c,rfl⟩<;>rcases h' with⟨b,d⟩|⟨b,rfl⟩
 .have:=(f default).symm.trans (d default)
  injection this with this;injection this
 .rw[c]at b;cases b
 .rw[c]at b;cases b
 .rfl
theorem xQ{o:Oper}(g:ops[x]?=some o)(c:kY P o.op = .pure){w:World} :
  zJ P true ops loose R (x::l) acc a w↔∃v,wM P ops o a v/\zJ P true ops loose R l acc (a.put o.dst v) w:=by
 have he:sZ P o=false:=by simp[sZ,c]
 have f:oG P o=false:=by simp[oG,c]
 simp only[zJ,g,he,f,gE,if_false];cases hw:Region.wanted o (yielded ops a.tmps)
 .simp only[gE,if_false]
  constructor
  .intro h;exact⟨undef, .inr ⟨hw,rfl⟩,h⟩
  .rintro⟨v,d,h⟩
   rcases d with⟨b, -⟩|⟨-, rfl⟩
   .rw[hw]at b;cases b
   .exact h
 .simp only[if_true,qJ,c]
  constructor
  .rintro⟨v,b,e⟩;exact⟨v, .inl ⟨hw,b⟩,e⟩
  .rintro⟨v,d,h⟩
   rcases d with⟨-, b⟩|⟨b, -⟩
   .exact⟨v,b,h⟩
   .rw[hw]at b;cases b
theorem C8{o:Oper}(b:ops[x]?=some o){w:World}(hw:Region.wanted o (yielded ops a.tmps)=false) :
  zJ P true ops loose R (x::l) acc a w↔zJ P true ops loose R l acc (a.put o.dst undef) w:=by
 simp only[zJ,b,hw,gE,if_false]
theorem C7{o:Oper}(d:ops[x]?=some o)(b:kY P o.op = .load){w:World}(hw:Region.wanted o (yielded ops a.tmps)=true) :
  zJ P true ops loose R (x::l) acc a w↔∃v,(execOp a.eval o).run P w = .ok (.value v) w/\zJ P true ops loose R l ((x,execOp a.eval o,v)::acc) (a.put o.dst v) w:=by
 have he:sZ P o=false:=by simp[sZ,b]
 have c:oG P o=true:=by simp[oG,b]
 simp only[zJ,d,he,c,hw,gE,if_false,if_true]
theorem Gg{o:Oper}(e:ops[x]?=some o)(b:kY P o.op = .Sa){w:World}(hw:Region.wanted o (yielded ops a.tmps)=true) :
  zJ P true ops loose R (x::l) acc a w↔o.Jc P a w (λd c=>HN P c (Au loose x acc)/\zJ P true ops loose R l acc d c) λ_ _ _=>False:=by
 have he:sZ P o=true:=by simp[sZ,b]
 simp only[zJ,e,he,hw,if_true,qJ,b]
theorem Q2{o:Oper}{w:World}{K:Act->World->Prop}(h:o.Jc P a w K λ_ _ _=>False) :
  o.Jc P a w (λc b=>K c b/\(∃v d,c={a with defers:=d}.put o.dst v)) λ_ _ _=>False:=by
 unfold Oper.Jc at *;generalize(execOp a.eval o).run P w=r at *;cases r with
 |ok n b=>
  cases n with
  |value v=>exact⟨h,_,a.defers,rfl⟩
  |skip=>exact⟨h,_,a.defers,rfl⟩
  |enter f args=>
   refine Calls.mono h λe g he=>?_;cases e with
   |returned v=>exact⟨he,v,a.defers,rfl⟩
   |panicked ch=>exact he
   |outgrown=>exact he
  |round l f tmps assign body=>
   refine RoundIn.mono h λe g he=>?_;cases e with
   |returned v=>exact⟨he,v,a.defers,rfl⟩
   |panicked ch=>exact he
   |outgrown=>exact he
  |_=>exact h.elim
 |halt x b=>cases x<;>exact h.elim
theorem UY{o:Oper}(c:Ef o=false){w:World}{K:Act->World->Prop}(h1:∀d,dx=some d->d∉o.looksAt ops)(h:∀d,dx=some d->o.dst≠some d) :
  o.Jc P (a.put dx v) w K (λ_ _ _=>False)↔o.Jc P a w (λg f=>K (g.put dx v) f) λ_ _ _=>False:=by
 unfold Oper.Jc;have k:∀cs b,o.op ≠ .select cs b:=by
  intro cs b e;simp[Ef,e]at c
 rw[execOp_put (ops:=ops) o k a dx v h1];generalize(execOp a.eval o).run P w=r;have j:∀(b:Act) u,(b.put dx v).put o.dst u=(b.put o.dst u).put dx v:=λb u=>Act.put_comm b v u h;cases r with
 |ok n f=>cases n<;>simp only[NQ,j]
 |halt x f=>cases x<;>simp only[NQ]
theorem pC{o:Oper}(c:Ef o=false){x:Option Tmp}{u:Value}(d:List Deferred)(h:∀k,x=some k->k∉o.looksAt ops) :
  execOp (({a with defers:=d}:Act).put x u).eval o=execOp a.eval o/\Region.wanted o (yielded ops (({a with defers:=d}:Act).put x u).tmps)=Region.wanted o (yielded ops a.tmps):=by
 have f:∀cs b,o.op ≠ .select cs b:=by
  intro cs b e;simp[Ef,e]at c
 rw[execOp_put (ops:=ops) o f _ x u h,wanted_put o _ x u h];exact⟨rfl,rfl⟩
theorem wM.same{o:Oper}(b:Ef o=false){x:Option Tmp}{u v:Value}(d:List Deferred)(h:∀k,x=some k->k∉o.looksAt ops) :
  wM P ops o (({a with defers:=d}:Act).put x u) v↔wM P ops o a v:=by
 obtain⟨c,e⟩:=pC (ops:=ops) (u:=u) (a:=a) b d h;unfold wM;rw[c,e]
theorem ZR{os:Oper}(g:ops[s]?=some os)(e:Ef os=false){w:World}(h1:∀d,dx=some d->d∉os.looksAt ops)(o:∀d,dx=some d->os.dst≠some d)
 (k:∀j u d n,zJ P true ops loose R l j ((({a with defers:=d}:Act).put os.dst u).put dx v) n->zJ P true ops loose R l' j (({a with defers:=d}:Act).put os.dst u) n)
  (h:zJ P true ops loose R (s::l) acc (a.put dx v) w):zJ P true ops loose R (s::l') acc a w:=by
 have A:execOp (a.put dx v).eval os=execOp a.eval os:=(pC (ops:=ops) (u:=v) (a:=a) e a.defers h1).1;have hw:Region.wanted os (yielded ops (a.put dx v).tmps)=Region.wanted os (yielded ops a.tmps):=(pC (ops:=ops) (u:=v) (a:=a) e a.defers h1).2;have m:∀(b:Act) u,(b.put dx v).put os.dst u=(b.put os.dst u).put dx v:=λb u=>Act.put_comm b v u o;cases c:Region.wanted os (yielded ops a.tmps)
 .rw[c]at hw
  rw[C8 g hw,m]at h;rw[C8 g c];exact k _ undef a.defers _ h
 .rw[c]at hw
  rcases Dw os with⟨f, -, -⟩|⟨f, -, -⟩|⟨f, -, -⟩
  .rw[xQ g f]at h⊢
   obtain⟨u,z,h⟩:=h;have p:wM P ops os a u:=(wM.same (a:=a) e a.defers h1).1 z;rw[m]at h;exact⟨u,p,k _ u a.defers _ h⟩
  .rw[C7 g f hw]at h
   rw[C7 g f c];obtain⟨u,q,h⟩:=h;rw[A]at q h;rw[m]at h;exact⟨u,q,k _ u a.defers _ h⟩
  .rw[Gg g f hw]at h
   rw[Gg g f c];refine Oper.Jd (λB n r=>?_) (λ_ _ _ h=>h) (Q2 ((UY e h1 o).1 h));obtain⟨⟨t,y⟩,u,d,rfl⟩:=r;exact⟨t,k _ u d _ y⟩
theorem ZS{f os:Oper}(z:ops[x]?=some f)(n:ops[s]?=some os)(k:Ef f=false)(g:Ef os=false)(O:NN P ops loose x s=true)
 {w:World} (h:zJ P true ops loose R (x::s::l) acc a w):zJ P true ops loose R (s::x::l) acc a w:=by
 simp only[NN,z,n,hP]at O;obtain⟨X,p⟩:=O;obtain⟨D,L,G⟩:=Oper.apart_spec X;have W:∀d,os.dst=some d->f.dst≠some d:=λd e e'=>L d e' e;have C:∀v,wM P ops f a v->zJ P true ops loose R (s::l) acc (a.put f.dst v) w->(kY P f.op = .pure\/Region.wanted f (yielded ops a.tmps)=false)->zJ P true ops loose R (s::x::l) acc a w:=by
  intro v q h j;refine ZR n g D L (λao u d A t=>?_) h;have I:=(wM.same (P:=P) (ops:=ops) (u:=u) k d G).2 q;rcases j with j|j
  .exact(xQ z j).2 ⟨v,I,t⟩
  .have Z:Region.wanted f (yielded ops (({a with defers:=d}:Act).put os.dst u).tmps)=false:=by rw[(pC k d G).2];exact j
   rcases q with⟨e, -⟩|⟨-, rfl⟩
   .rw[j]at e;cases e
   .exact(C8 z Z).2 t
 cases r:Region.wanted f (yielded ops a.tmps)
 .exact C undef (.inr ⟨r,rfl⟩) ((C8 z r).1 h) (.inr r)
 .rcases Dw f with⟨j, -, -⟩|⟨j, -, -⟩|⟨j, -, -⟩
  .obtain⟨v,q,h⟩:=(xQ z j).1 h
   exact C v q h (.inl j)
  .obtain⟨v,K,h⟩:=(C7 z j r).1 h
   have al:∀u d,execOp (({a with defers:=d}:Act).put os.dst u).eval f=execOp a.eval f:=λu d=>(pC (ops:=ops) k d G).1;have ab:∀u d,Region.wanted f (yielded ops (({a with defers:=d}:Act).put os.dst u).tmps)=true:=λu d=>by rw[(pC (ops:=ops) k d G).2];exact r
   have Y:execOp (a.put f.dst v).eval os=execOp a.eval os:=(pC (ops:=ops) (u:=v) (a:=a) g a.defers D).1;have B:Region.wanted os (yielded ops (a.put f.dst v).tmps)=Region.wanted os (yielded ops a.tmps):=(pC (ops:=ops) (u:=v) (a:=a) g a.defers D).2;have S:∀(b:Act) u,(b.put f.dst v).put os.dst u=(b.put os.dst u).put f.dst v:=λb u=>Act.put_comm b v u L;have tail:∀{E F:List Made} {u:Value} {d:List Deferred} {A:World},(execOp a.eval f).run P A = .ok (.value v) A->(∀y,y∈(x,execOp a.eval f,v)::F->y∈E) ->
     zJ P true ops loose R l E ((({a with defers:=d}:Act).put os.dst u).put f.dst v) A->zJ P true ops loose R (x::l) F (({a with defers:=d}:Act).put os.dst u) A:=by
    intro E F u d A K T t;rw[C7 z j (ab u d),al];exact⟨v,K,Tv T t⟩
   cases m:Region.wanted os (yielded ops a.tmps)
   .rw[m]at B
    rw[C8 n B,S]at h;rw[C8 n m];exact tail (d:=a.defers) K (λy o=>o) h
   .rw[m]at B
    rcases Dw os with⟨c, -, -⟩|⟨c, -, -⟩|⟨c, -, -⟩
    .rw[xQ n c]at h⊢
     obtain⟨u,q,h⟩:=h;have I:wM P ops os a u:=(wM.same (a:=a) g a.defers D).1 q;rw[S]at h;exact⟨u,I,tail (d:=a.defers) K (λy o=>o) h⟩
    .rw[C7 n c B]at h
     rw[C7 n c m];obtain⟨u,N,h⟩:=h;rw[Y]at N h;rw[S]at h;refine⟨u,N,tail (d:=a.defers) K (λy o=>?_) h⟩;simp only[eJ]at o⊢;rcases o with h|h|h
     .exact .inr (.inl h)
     .exact .inl h
     .exact .inr (.inr h)
    .rw[Gg n c B]at h
     rw[Gg n c m];refine Oper.Jd (λV A t=>?_) (λ_ _ _ h=>h) (Q2 ((UY g D L).1 h));obtain⟨⟨M,H⟩,u,d,rfl⟩:=t;have hl:Iy loose x s=true:=by simpa[j,c] using p
     refine⟨λy o=>M y ?_,tail (M (x,execOp a.eval f,v) ?_) (λy o=>o) H⟩
     .simp only[Au,wG,eJ]at o⊢
      exact⟨.inr o.1,o.2⟩
     .simp[Au,hl]
  .have c:kY P os.op = .pure:=by
    rcases Dw os with⟨c, -, -⟩|⟨c, -, -⟩|⟨c, -, -⟩
    .exact c
    .simp[j,c]at p
    .simp[j,c]at p
   have h:=(Gg z j r).1 h;have h:=Q2 h;obtain⟨V,A,⟨-, t⟩,u0,d0,rfl⟩:=Oper.Xt h;obtain⟨u,q, -⟩:=(xQ n c).1 t;have q:wM P ops os a u:=(wM.same g d0 D).1 q;refine(xQ n c).2 ⟨u,q,?_⟩;have U:Region.wanted f (yielded ops (a.put os.dst u).tmps)=true:=by rw[(pC (ops:=ops) (a:=a) k a.defers G).2];exact r
   refine(Gg z j U).2 ((UY k G W).2 (Oper.Jd (λV A t=>?_) (λ_ _ _ h=>h) h));obtain⟨⟨M,H⟩,u1,d1,rfl⟩:=t;obtain⟨u2,J,H⟩:=(xQ n c).1 H;have J:wM P ops os a u2:=(wM.same g d1 D).1 J;obtain rfl:=J.fn q;exact⟨M,H⟩
theorem UU(b:∀(i:Nat) o,ops[i]?=some o->Ef o=false){os:Oper}(f:ops[s]?=some os) :
  ∀{A B:List Nat},(∀x,x∈A->NN P ops loose x s=true)->∀{acc:List Made} {a:Act} {w:World},zJ P true ops loose R (A++s::B) acc a w->zJ P true ops loose R (s::(A++B)) acc a w:=by
 intro A
 induction A with
 |nil=>intro B c acc a w h;exact h
 |cons x A j=>
  intro B c acc a w h;have e:zJ P true ops loose R (x::s::(A++B)) acc a w:=OI (λacc a w h=>j (λy g=>c y (dZ _ g)) h) h;cases d:ops[x]? with
  |none=>simp only[zJ,d]at e
  |some k=>exact ZS d f (b x k d) (b s os f) (c x (cX ..)) e
theorem Xr{ro:Option Nat}(p:∀(i:Nat) o,ops[i]?=some o->Ef o=false):
  ∀{σ L:List Nat},(∀i,i∈L->∃o,ops[i]?=some o)->σ.Perm L->σ.Nodup->(∀x s,[x,s].Sublist L->[s,x].Sublist σ->NN P ops loose x s=true) ->
   ∀{a:Act} {w:World},zJ P true ops loose (Q .normal) L [] a w->wpOpsIn (Lm ro) 0 P ops Q σ a w:=by
 intro σ
 induction σ with
 |nil=>
  intro L _ d _ _ a w h;obtain rfl:=Q9 d.symm;exact h
 |cons s σ H=>
  intro L hex d u k a w h;have j:s∈L:=d.subset (cX ..);obtain⟨A,B,rfl⟩:=List.append_of_mem j;have g:σ.Perm (A++B):=(List.perm_cons s).1 (d.trans List.perm_middle);have E:∀x,x∈A->NN P ops loose x s=true:=by
   intro x e;refine k x s ?_ ?_
   .have C:[x].Sublist A:=Jf.2 e
    have D:[s].Sublist (s::B):=Jf.2 (cX ..);exact C.append D
   .have:x∈σ:=g.symm.subset (oM _ e)
    exact Ra s (Jf.2 this)
  cases c:ops[s]? with
  |none=>
   obtain⟨o,F⟩:=hex s j;rw[F]at c;cases c
  |some os=>
   have hb:=UU p c E h;have q:σ.Nodup:=(Cl.1 u).2;have b:∀{a:Act} {w:World},zJ P true ops loose (Q .normal) (A++B) [] a w->wpOpsIn (Lm ro) 0 P ops Q σ a w:=by
    intro a w h;refine H (λi hi=>hex i (by
     rcases dD.1 hi with h|h
     .exact oM _ h
     .exact pZ _ (dZ _ h))) g q (λx t z y=>k x t ?_ ?_) h
    .refine z.trans ?_
     exact List.Sublist.append (List.Sublist.refl A) (LK s B)
    .exact y.trans (LK s σ)
   simp only[wpOpsIn,c];simp only[zJ,c]at hb;cases hw:Region.wanted os (yielded ops a.tmps)
   .simp only[hw,gE,if_false]at hb⊢
    exact⟨λ_ _=>trivial,b hb⟩
   .simp only[hw,if_true]at hb⊢
    cases he:sZ P os
    .simp only[he,gE,if_false]at hb
     cases f:oG P os
     .simp only[f,gE,if_false]at hb
      exact xO (λm r n=>b n) hb
     .simp only[f,if_true]at hb
      obtain⟨v,G,hb⟩:=hb;exact J5 (next:=λm r=>wpOpsIn (Lm ro) 0 P ops Q σ m r) (λ_ _ h=>h) (by unfold Oper.Jc;rw[G];exact b (Tv (λx e=>(lU e).elim) hb))
    .simp only[he,if_true]at hb
     exact xO (λm r n=>b n.2) hb
theorem Ge(j:σ.Nodup)(h:[x,s].Sublist σ):σ.idxOf x<σ.idxOf s:=by
 induction σ with
 |nil=>cases h
 |cons k σ p=>
  obtain⟨d,f⟩:=Cl.1 j;cases h with
  |cons _ h=>
   have o:x∈σ:=h.subset (cX ..);have g:s∈σ:=h.subset (dZ _ (cX ..));have n:k≠x:=λe=>d (e ▸ o);have c:k≠s:=λe=>d (e ▸ g);have m:(k == x)=false:=beq_eq_false_iff_ne.2 n;have b:(k == s)=false:=beq_eq_false_iff_ne.2 c;rw[Rb,Rb,m,b];have:=p f h;simp only[cond_false];omega
  |cons_cons _ h=>
   have g:s∈σ:=h.subset (cX ..);have c:x≠s:=λe=>d (e ▸ g);have b:(x == s)=false:=beq_eq_false_iff_ne.2 c;rw[List.idxOf_cons_self,Rb,b];simp only[cond_false];omega
theorem Xk(d:σ.Nodup){p:Nat}(h:[x,p].Sublist σ)(h':[p,s].Sublist σ):[x,s].Sublist σ:=by
 induction σ with
 |nil=>cases h
 |cons k σ e=>
  obtain⟨c,b⟩:=Cl.1 d;cases h with
  |cons _ h=>
   cases h' with
   |cons _ h'=>exact(e b h h').trans (LK ..)
   |cons_cons _ h'=>exact absurd (h.subset (dZ _ (cX ..))) c
  |cons_cons _ h=>
   cases h' with
   |cons _ h'=>exact Ra x (Jf.2 (h'.subset (dZ _ (cX ..))))
   |cons_cons _ h'=>exact absurd (h.subset (cX ..)) c
theorem Uc{m:List (List Nat)}:∀{k:Nat} {es:List (List Nat)} {τ:List Nat},Wx m k es=true->(∀e,e∈es->e.Perm τ)->τ.Nodup ->
  (∀s x,s∈τ->x∈τ->mem x (m.getD s [])=true->[x,s].Sublist τ)->τ∈es:=by
 intro k
 induction k with
 |zero=>
  intro es τ h b g hb;simp only[Wx,Jg]at h;obtain⟨e,he,o⟩:=h;obtain rfl:=List.isEmpty_iff.1 o;obtain rfl:=Q9 (b _ he).symm;exact he
 |succ k F=>
  intro es τ h b g hb
  match es,h,b with
  |[]::r,h,b=>
   obtain rfl:=Q9 (b [] (cX ..)).symm;exact cX ..
  | (y::e0)::r,h,b=>
   have c:=b (y::e0) (cX ..)
   match τ,c,g,hb,b with
   |[],c,_,_,_=>exact absurd c.eq_nil (by simp)
   |s::τ,c,g,hb,b=>
    simp only[Wx,FF,Jh,Jg]at h;have D:s∈y::e0:=c.symm.subset (cX ..);obtain⟨C,p⟩:=Cl.1 g;rcases h s D with⟨z,E,A⟩|h
    .exfalso
     have B:z∈s::τ:=c.subset E;have:=Ge g (hb s z (cX ..) B A);rw[List.idxOf_cons_self]at this;omega
    .have:=F (τ:=τ) h (λe he=>by
      obtain⟨n,j,rfl⟩:=dC.1 he;obtain⟨f,d⟩:=wG.1 j
      match n,d with
      |u::q,d=>
       simp only[Um]at d;obtain rfl:=fH.1 d;exact(List.perm_cons u).1 (b _ f)) p (λt x ht w hm=>by
      have f:=hb t x (dZ _ ht) (dZ _ w) hm;cases f with
      |cons _ f=>exact f
      |cons_cons _ f=>exact absurd w C)
     obtain⟨n,j,het⟩:=dC.1 this;obtain⟨f,d⟩:=wG.1 j
     match n,d,het with
     |u::q,d,het=>
      simp only[Um]at d;obtain rfl:=fH.1 d;simp only[List.tail_cons]at het;subst het;exact f
def wA(ops:Array Oper)(s:Nat):List Nat:=
 match ops[s]? with
 |some o=>B2 o
 |none=>[]
theorem Pe:i∈Region.ready .any ops listed↔i<ops.size/\listed.getD i true=false/\∀p,p∈wA ops i->listed.getD p false=true:=by
 unfold Region.ready wA;simp only[wG,Ji,hP,Cn];constructor
 .rintro⟨d,f,b⟩
  refine⟨d,f,λp g=>?_⟩;cases c:ops[i]? with
  |none=>simp[c]at b
  |some o=>
   simp only[c]at g;simp only[c,Jj,Option.getD_some,Q5,Jh,Cn]at b;simp only[B2,dC,wG]at g;obtain⟨e,⟨he,hb⟩,rfl⟩:=g;have:=b e (by simpa using he);rcases this with h|h
   .rw[hb]at h;cases h
   .exact h
 .rintro⟨d,f,b⟩
  refine⟨d,f,?_⟩;have c:ops[i]?=some ops[i]:=Q7 d;simp only[c]at b;simp only[c,Jj,Option.getD_some,Q5,Jh,Cn];intro e he;cases hb:Region.binds .any e
  .exact .inl rfl
  .refine .inr (b _ ?_)
   simp only[B2,dC,wG];exact⟨e,⟨by simpa using he,hb⟩,rfl⟩
theorem I3{j:Nat}{d:Bool}(hi:i<listed.size):(listed.setIfInBounds i true).getD j d=if i=j then true else listed.getD j d:=by
 by_cases e:i=j
 .subst e;simp[hi]
 .simp[zY e,e]
theorem YR{L:List Nat}(E:∀i,i<ops.size->i∈L)(F:∀i,i∈L->i<ops.size)(A:∀(i p:Nat),p∈wA ops i->p<ops.size)
  (K:L.Pairwise λx s=>x≠s/\s∉wA ops x) (q:∀i,i∈L->i∉wA ops i) :
  ∀(fuel t:Nat) (listed:Array Bool),listed.size=ops.size->((List.range ops.size).filter λi=>!listed.getD i true).length<=fuel ->
   (Region.linearise.go .any ops fuel t listed []).Nodup/\(∀i,i∈Region.linearise.go .any ops fuel t listed []↔i<ops.size/\listed.getD i true=false) /\
   (∀s p,s∈Region.linearise.go .any ops fuel t listed []->p∈wA ops s->listed.getD p false=true\/[p,s].Sublist (Region.linearise.go .any ops fuel t listed [])):=by
 intro fuel
 induction fuel with
 |zero=>
  intro t listed r hlen;have z:=Q4.1 (Nat.le_zero.1 hlen);simp only[Region.linearise.go,List.reverse_nil];refine⟨Jk,λi=>⟨λh=>(lU h).elim,λ⟨d,f⟩=>?_⟩,λs p h=>(lU h).elim⟩;have:i∈(List.range ops.size).filter λi=>!listed.getD i true:=wG.2 ⟨Ji.2 d,by rw[f];rfl⟩;rw[z]at this;cases this
 |succ fuel X=>
  intro t listed r hlen;simp only[Region.linearise.go];change (match (Region.ready .any ops listed)[t % (Region.ready .any ops listed).length]? with
   |some i=>Region.linearise.go .any ops fuel (t / (Region.ready .any ops listed).length) (listed.setIfInBounds i true) [i]
   |none=>[].reverse).Nodup/\(∀i,i∈(match (Region.ready .any ops listed)[t % (Region.ready .any ops listed).length]? with
   |some i=>Region.linearise.go .any ops fuel (t / (Region.ready .any ops listed).length) (listed.setIfInBounds i true) [i]
   |none=>[].reverse)↔_)/\(∀s p,s∈(match (Region.ready .any ops listed)[t % (Region.ready .any ops listed).length]? with
   |some i=>Region.linearise.go .any ops fuel (t / (Region.ready .any ops listed).length) (listed.setIfInBounds i true) [i]
   |none=>[].reverse)->_->_\/[p,s].Sublist (match (Region.ready .any ops listed)[t % (Region.ready .any ops listed).length]? with
   |some i=>Region.linearise.go .any ops fuel (t / (Region.ready .any ops listed).length) (listed.setIfInBounds i true) [i]
   |none=>[].reverse))
  cases hi:(Region.ready .any ops listed)[t % (Region.ready .any ops listed).length]? with
  |none=>
   simp only[List.reverse_nil];have B:Region.ready .any ops listed=[]:=by
    cases B:Region.ready .any ops listed with
    |nil=>rfl
    |cons x xs=>
     rw[B]at hi;have k:t % (x::xs).length<(x::xs).length:=Nat.mod_lt _ (by simp);rw[cM k]at hi;cases hi
   refine⟨Jk,λi=>⟨λh=>(lU h).elim,λ⟨d,f⟩=>?_⟩,λs p h=>(lU h).elim⟩;exfalso;have I:L.filter (λi=>!listed.getD i true)≠[]:=λe=>by
    have:i∈L.filter (λi=>!listed.getD i true):=wG.2 ⟨E i d,by rw[f];rfl⟩;rw[e]at this;cases this
   obtain⟨x,M,w⟩:=List.exists_cons_of_ne_nil I;have O:x∈L.filter (λi=>!listed.getD i true):=by rw[w];exact cX ..
   obtain⟨u,S⟩:=wG.1 O;have m:=K.filter (λi=>!listed.getD i true);rw[w]at m;have N:x∈Region.ready .any ops listed:=by
    refine Pe.2 ⟨F x u,by simpa using S,λp g=>?_⟩;have J:=A x p g;cases H:listed.getD p false
    .exfalso
     have k:listed.getD p true=false:=by
      have:p<listed.size:=by omega
      simp[this]at H⊢;exact H
     have c:p∈L.filter (λi=>!listed.getD i true):=wG.2 ⟨E p J,by rw[k];rfl⟩;rw[w]at c;rcases eJ.1 c with rfl|c
     .exact q p u g
     .exact((Bh.1 m).1 p c).2 g
    .rfl
   rw[B]at N;cases N
  |some i=>
   simp only[];have y:=eL hi;obtain⟨d,f,W⟩:=Pe.1 y;have b:i<listed.size:=by omega
   rw[linearise_go_acc,List.reverse_singleton,List.singleton_append];have n:((List.range ops.size).filter λj=>!(listed.setIfInBounds i true).getD j true).length<=fuel:=by
    have C:((List.range ops.size).filter λj=>!(listed.setIfInBounds i true).getD j true)=((List.range ops.size).filter λj=>!listed.getD j true).erase i:=by
     rw[List.Nodup.erase_eq_filter (List.nodup_range.filter _),List.filter_filter];apply List.filter_congr;intro j _;rw[I3 b];by_cases e:i=j
     .subst e;simp
     .have:(j != i)=true:=by simpa using λh=>e h.symm
      simp[e,this]
    have G:i∈(List.range ops.size).filter λj=>!listed.getD j true:=wG.2 ⟨Ji.2 d,by rw[f];rfl⟩;rw[C,List.length_erase_of_mem G];omega
   obtain⟨U,D,V⟩:=X (t / (Region.ready .any ops listed).length) (listed.setIfInBounds i true) (by simpa using r) n;refine⟨Cl.2 ⟨λh=>?_,U⟩,λj=>?_,λs p o g=>?_⟩
   .have:=(D i).1 h
    rw[I3 b]at this;simp at this
   .rw[eJ,D j,I3 b]
    by_cases e:i=j
    .subst e;simp[d,f]
    .have T:j≠i:=λh=>e h.symm
     simp[e,T]
   .rcases eJ.1 o with rfl|o
    .exact .inl (W p g)
    .rcases V s p o g with h|h
     .rw[I3 b]at h
      by_cases e:i=p
      .subst e
       exact .inr (Ra i (Jf.2 o))
      .simp only[e,if_false]at h
       exact .inl h
     .exact .inr (h.trans (LK ..))
theorem QO{ro:Option Nat}(hm:P.follows .mixedOrders=true){id:Nat}{ls:List (List Nat)}(G:QH P ops ls loose=true)
 {w:World} (h:∀L,L∈ls->zJ P true ops loose (Q .normal) L [] a w.drew):(Code.region id ops true).wpIn (Lm ro) 0 P Q a w:=by
 refine wpIn_region_draw λt=>?_;simp only[Region.schedule,hm,Bool.true_or,if_true,Region.linearise];simp only[QH,hP,FF]at G;obtain⟨⟨⟨c1,c2⟩,c3⟩,S⟩:=G;have K:∀(i:Nat) o,ops[i]?=some o->Ef o=false:=by
  intro i o u;have:=(c1 o (eL (by simpa using u:ops.toList[i]?=some o))).1;simpa using this
 have D:∀(i p:Nat),p∈wA ops i->p<ops.size:=by
  intro i p c;unfold wA at c;cases u:ops[i]? with
  |none=>simp[u]at c
  |some o=>
   simp only[u]at c;exact fO ((c1 o (eL (by simpa using u:ops.toList[i]?=some o))).2 p c)
 have q:∀s,s<ops.size->s∉wA ops s/\∀x,x∈(JA ops.toList).getD s []->∃p,p∈wA ops s/\(p=x\/x∈(JA ops.toList).getD p []):=by
  intro s b;have:=c2 s (Ji.2 b);unfold wA;split at this
  .rename_i o u
   simp only[hP,Cn,FF,Jg,Jh]at this;refine⟨λr=>by rw[Fm.2 r]at this;exact absurd this.1 (by simp),λx j=>?_⟩;obtain⟨p,c,m⟩:=this.2 x j;refine⟨p,c,?_⟩;rcases m with h|h
   .exact .inl (fH.1 h)
   .exact .inr (Fm.1 h)
  .cases this
 have d:∀L,L∈ls->(∀i,i∈L->i<ops.size)/\(∀i,i<ops.size->i∈L)/\L.Pairwise λx s=>(x≠s/\s∉wA ops x)/\(mem x ((JA ops.toList).getD s [])=true\/NN P ops loose x s=true\/(GG P ops x=true/\GG P ops s=true)):=by
  intro L g;obtain⟨⟨e1,e2⟩,e3⟩:=c3 L g;refine⟨λi hi=>fO (e1 i hi),λi hi=>Fm.1 (e2 i (Ji.2 hi)),(QJ.1 e3).imp λ{x s} n=>?_⟩;simp only[hP,Jh,Cn]at n;obtain⟨⟨f1,f2⟩,f3⟩:=n;have Z:x≠s:=λe=>by rw[fH.2 e]at f1;cases f1
  refine⟨⟨Z,?_⟩,?_⟩
  .unfold wA
   split at f2
   .rename_i o u
    simp only[Cn]at f2;exact λr=>by rw[Fm.2 r]at f2;cases f2
   .cases f2
  .rcases f3 with(f3|f3)|f3
   .exact .inl f3
   .exact .inr (.inl f3)
   .exact .inr (.inr f3)
 obtain⟨E,W⟩:∃E,E∈ls:=by
  cases ls with
  |nil=>cases hn:ops.size<;>simp[hn,Wx]at S
  |cons L ls=>exact⟨L,cX ..⟩
 obtain⟨o1,o2,o3⟩:=d E W;obtain⟨f,T,U⟩:=YR (ops:=ops) (L:=E) o2 o1 D (o3.imp λh=>h.1) (λi hi=>(q i (o1 i hi)).1) ops.size t (Array.replicate ops.size false) (by simp) (by
  have:=List.length_filter_le (λi=>!(Array.replicate ops.size false).getD i true) (List.range ops.size);simpa using this)
 generalize Region.linearise.go .any ops ops.size t (Array.replicate ops.size false) []=σ at f T U⊢;have N:∀i,i∈σ↔i<ops.size:=λi=>by
  rw[T i];constructor
  .exact λh=>h.1
  .exact λh=>⟨h,by simp[h]⟩
 have A:∀s p,s∈σ->p∈wA ops s->[p,s].Sublist σ:=by
  intro s p b c;rcases U s p b c with h|h
  .have:=D s p c
   simp[this]at h
  .exact h
 have C:∀(k s x:Nat),σ.idxOf s<=k->s∈σ->x∈(JA ops.toList).getD s []->[x,s].Sublist σ:=by
  intro k
  induction k with
  |zero=>
   intro s x hk b j;obtain⟨p,c, -⟩:=(q s ((N s).1 b)).2 x j;have:=Ge f (A s p b c);omega
  |succ k ih=>
   intro s x hk b j;obtain⟨p,c,m⟩:=(q s ((N s).1 b)).2 x j;have B:=A s p b c;rcases m with rfl|m
   .exact B
   .have Y:=Ge f B
    have ab:p∈σ:=B.subset (cX ..);have a0:=ih p x (by omega) ab m;exact Xk f a0 B
 have y:∀s x,s∈σ->mem x ((JA ops.toList).getD s [])=true->[x,s].Sublist σ:=λs x b j=>C _ s x (bL _) b (Fm.1 j);have z:∀L,L∈ls->L.Perm σ:=by
  intro L g;obtain⟨F,p2,O⟩:=d L g;refine(V1 (O.imp λh=>h.1.1) f).2 λi=>?_;rw[N i];exact⟨F i,p2 i⟩
 have I:σ.filter (GG P ops)∈ls.map λL=>L.filter (GG P ops):=by
  refine Uc S (λe he=>?_) (f.filter _) (λs x b j hm=>?_)
  .obtain⟨L,g,rfl⟩:=dC.1 he
   exact(z L g).filter _
  .obtain⟨al,ao⟩:=wG.1 b
   obtain⟨a1,aw⟩:=wG.1 j;have:=(y s x al hm).filter (GG P ops);simpa[Q8,aw,ao] using this
 obtain⟨L,g,X⟩:=dC.1 I;obtain⟨F,p2,O⟩:=d L g;refine Xr K (λi hi=>⟨ops[i]'(F i hi),Q7 (F i hi)⟩) (z L g).symm f (λx s n H=>?_) (h L g);have M:=O.sublist n;have J:=(Bh.1 M).1 s (cX ..);have b:s∈σ:=H.subset (cX ..);have Y:=Ge f H;rcases J.2 with h|h|⟨h1,h2⟩
 .have:=Ge f (y s x b h)
  omega
 .exact h
 .exfalso
  have V:[x,s].Sublist (L.filter (GG P ops)):=by
   have:=n.filter (GG P ops);simpa[Q8,h1,h2] using this
  rw[X]at V;have:=Ge f (V.trans List.filter_sublist);omega
end
end
end Go.Sw
