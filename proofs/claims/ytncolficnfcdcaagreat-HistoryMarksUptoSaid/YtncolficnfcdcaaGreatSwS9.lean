import Derived.Test.YtncolficnfcdcaaGreatSwS8
set_option linter.unusedVariables false
set_option linter.unusedSimpArgs false
namespace Go.Sw
section
variable{P:Program}{a:Act}{G:Act->Prop}
theorem B.AS{b:B}{v:Value}{x:b.den}(h:b.OC v=some x):v=b.inj x:=by
 cases b<;>cases v<;>simp only[B.OC,reduceCtorEq]at h
 case int.int k d n=>
  cases c:yV k d
  .simp[c]at h
  .simp only[c,cond_true]at h
   obtain rfl:=Cc.1 c;exact congrArg (Value.int k) (dU h)
 case Yp.float k d n=>
  cases c:zM k d
  .simp[c]at h
  .simp only[c,cond_true]at h
   obtain rfl:=DM.1 c;exact congrArg (Value.float k) (dU h)
 all_goals (obtain rfl:=dU h;rfl)
theorem Bs.AS:∀{bs:List B} {vs:List Value} {x:Bs.den bs},Bs.OC bs vs=some x->vs=Bs.inj bs x:=by
 intro bs
 induction bs with
 |nil=>
  intro vs x h;cases vs with
  |nil=>rfl
  |cons v vs=>simp[Bs.OC]at h
 |cons b bs f=>
  intro vs x h;cases vs with
  |nil=>simp[Bs.OC]at h
  |cons v vs=>
   simp only[Bs.OC]at h;split at h
   .rename_i y g c d
    obtain rfl:=dU h;rw[B.AS c,f d];rfl
   .cases h
theorem Ty.AS{t:Ty}{v:Value}{x:t.den}(h:t.OC v=some x):v=t.inj x:=by
 cases t with
 |one b=>exact B.AS h
 |agg c=>
  have d:∃cs,v = .agg cs:=by
   cases v<;>first|exact⟨_,rfl⟩|cases h
  obtain⟨cs,rfl⟩:=d;have e:cs.toList=Bs.inj c x:=Bs.AS h;show Value.agg cs=Value.agg (Bs.inj c x).toArray;exact congrArg Value.agg (yG.1 (by rw[e]))
theorem Ts.AS:∀{ts:List Ty} {vs:List Value} {x:Ts.den ts},Ts.OC ts vs=some x->vs=Ts.inj ts x:=by
 intro ts
 induction ts with
 |nil=>
  intro vs x h;cases vs with
  |nil=>rfl
  |cons v vs=>simp[Ts.OC]at h
 |cons t ts d=>
  intro vs x h;cases vs with
  |nil=>simp[Ts.OC]at h
  |cons v vs=>
   simp only[Ts.OC]at h;split at h
   .rename_i y f b c
    obtain rfl:=dU h;rw[Ty.AS b,d c];rfl
   .cases h
def Vu:Ex->Exit
 |.Dh=>.normal
 |.ex id=>.exit id
 |.ret=>.ret
def qo(ks ws:List Nat):Bool:=ks.all λk=>!mem k ws
def Pt(o:Option (Ad×List Nat))(ws:List Nat):Bool:=
 match o with
 |some (_,aP)=>qo aP ws
 |none=>true
theorem Aa{ws:List Nat}:∀{f:Fr} {n:Nat} {v:Value},(Fr.AW f ws).get n=some v->f.get n=some v/\n∉ws
 |[],n,v,h=>by simp[Fr.AW,Fr.get]at h
 | (k,u)::f,n,v,h=>by
  simp only[Fr.AW]at h;rw[Fr.tQ];cases hm:mem k ws
  .simp only[hm,cond_false]at h
   rw[Fr.tQ]at h;by_cases e:k=n
   .subst e
    simp only[if_true]at h⊢;exact⟨h,λd=>by
     have:∀{n:Nat} {l:List Nat},n∈l->mem n l=true:=by
      intro n l
      induction l with
      |nil=>intro h;cases h
      |cons k r b=>
       intro h;simp only[mem];cases hb:Nat.beq k n
       .simp only[cond_false]
        rcases eH.1 h with rfl|h
        .rw[fN.2 rfl]at hb;cases hb
        .exact b h
       .rfl
     rw[this d]at hm;cases hm⟩
   .simp only[e,if_false]at h⊢
    exact Aa h
  .simp only[hm,cond_true]at h
   by_cases e:k=n
   .subst e
    exfalso;have c:=(Aa h).2;have:∀{n:Nat} {l:List Nat},mem n l=true->n∈l:=by
     intro n l
     induction l with
     |nil=>intro h;cases h
     |cons k r b=>
      intro h;simp only[mem]at h;cases hb:Nat.beq k n
      .simp only[hb,cond_false]at h;exact eK _ (b h)
      .rw[fN.1 hb];exact eO ..
    exact c (this hm)
   .simp only[e,if_false]
    exact Aa h
def HE:List Nat->Bool
 |[]=>true
 |n::r=>!mem n r && HE r
def fg:List Nat->List Nat->Bool
 |[],[]=>true
 |a::r,b::s=>Nat.beq a b && fg r s
 |_,_=>false
def LM(P:Program)(An:Um)(n:Nat):Code->Bool
 | .region id ops draw=>Pt (An.yh id) (MZ ops.toList) && ((MZ ops.toList).all (λd=>Nat.blt d n) && (bif draw then (match An.order id with
   |some (ls,loose)=>Rf P ops ls loose
   |none=>false) else true))
 | .seq a b=>Pt ((wI b).bind An.join) (writes a) && ((match (wI b).bind An.join with
   |some _=>!eU a
   |none=>true) && (LM P An n a && LM P An n b))
 |.cond _ a b=>LM P An n a && LM P An n b
 |.block _ b=>LM P An n b
 |.loop b=>Pt ((Wk b).bind An.loop) (writes b) && (!eU b && LM P An n b)
 | .rangeFunc _ ps a b=>HE ps.toList && (ps.toList.all (λd=>Nat.blt d n) && ((match ps.toList with
   |[]=>false
   | p::_=>match An.zg p with
    |some (po,_)=>fg (po.map (·.1)) ps.toList
    |none=>false) && (!eU a && (!eU b && (LM P An n a && LM P An n b)))))
 |_=>true
theorem dq{ro:Option Nat}{Q:Exit->Act->World->Prop}{w:World}{c:Code}{σ:Type}(I:σ->Act->World->Prop)(μ:σ->World->Nat)(s:σ)(D:I s a w)
  (round:∀s a w,I s a w->c.wpIn (LP ro) 0 P (Exit.then (λj g=>∃v,I v j g/\μ v g<μ s w) Q) a w):(Code.loop c).wpIn (LP ro) 0 P Q a w:=by
 intro b k cs u hb p;have key:∀n s a w,μ s w=n->I s a w ->
   ∃e j g,Q e j g/\ArrivesIn (Machine.fenced P (LP ro)) P (lone (b.atR a (.code c :: .inLoop c::k)) cs w) b k cs e j g:=by
  intro n
  induction n using Nat.strongRecOn with
  |_ n E=>
   intro s a w C B;obtain⟨e,m,i,f,d⟩:=round s a w B b (.inLoop c::k) cs u hb p;cases e with
   |normal=>
    obtain⟨y,q,r⟩:=f;obtain⟨A,z,F,t,o⟩:=E (μ y i) (C ▸ r) y m i rfl q;exact⟨A,z,F,t, .of_steps (StepsIn.trans d (.one (fenced_calm hb p rfl) stepR_inLoop)) o⟩
   |exit id=>exact⟨_,m,i,f, .pass (x:=.inLoop c) rfl (λ_ _=>.inl (by simp)) d⟩
   |goto l=>exact⟨_,m,i,f, .pass (x:=.inLoop c) rfl (λ_ _=>.inl (by simp)) d⟩
   |ret=>exact⟨_,m,i,f, .pass (x:=.inLoop c) rfl (λ_ _=>.inl (by simp)) d⟩
   |panic ch=>exact⟨_,m,i,f, .pass (x:=.inLoop c) rfl (λ_ _=>.inl (by simp)) d⟩
   |outgrown=>exact⟨_,m,i,f, .pass (x:=.inLoop c) rfl (λ_ _=>.inl (by simp)) d⟩
 obtain⟨e,j,g,f,d⟩:=key _ s a w rfl D;exact⟨e,j,g,f, .of_steps (.one (fenced_calm hb p rfl) stepR_loop) d⟩
def Q8(D:Nat):Deferred:={target:=.collected D,args:=#[]}
abbrev Lt:=Nat->List Value->aG->Prop
def x6(D:Nat)(Q:Lt):Lt:=λt vs h=>h[D]?=some (.deferred (some []))/\Q t vs (h.setIfInBounds D (.deferred none))
structure j5(P:Program)(d:Deferred)(i:FuncId)(args:List Value):Prop where
 tar:∃fv cap,d.target = .fn fv cap
 inv:∀w:World,(invoke d.target d.args).run P w = .ok (.enter i args.toArray) w
def v7(P:Program)(i:FuncId)(args:List Value)(Q:Lt):Lt:=λt vs h=>yJ P i args h λh'=>Q t vs h'
inductive Marks(P:Program)(D:Prop)(df:List Deferred)(Q:Lt):List Deferred->Lt->Prop
 |refl:Marks P D df Q df Q
 |push {df':List Deferred} {Q':Lt} (B:Nat) (m:Marks P D df Q df' Q'):Marks P D df Q (Q8 B::df') (x6 B Q')
 |call {df':List Deferred} {Q':Lt} {d:Deferred} {i:FuncId} {args:List Value} (hD:D) (hd:j5 P d i args) (m:Marks P D df Q df' Q'):Marks P D df Q (d::df') (v7 P i args Q')
theorem Marks.trans{D:Prop}{df d b:List Deferred}{Q g c:Lt}(m:Marks P D df Q d g)(n:Marks P D d g b c):Marks P D df Q b c:=by
 induction n with
 |refl=>exact m
 |push B _ f=>exact .push B f
 |call i j _ f=>exact .call i j f
def oL:Code->Bool
 | .region _ ops draw=>match Is ops.toList draw with
  |some _=>true
  |none=>false
 |.seq a b=>oL a || oL b
 |.cond _ a b=>oL a || oL b
 |.block _ b=>oL b
 |.loop b=>oL b
 |.rangeFunc _ _ a b=>oL a || oL b
 |_=>false
theorem TB:∀{l:List Oper} {o:Oper},NN l=some o->0<l.length/\l[l.length-1]?=some o:=by
 intro l
 induction l with
 |nil=>intro o h;cases h
 |cons x l c=>
  intro o h;cases l with
  |nil=>simp only[NN,gO]at h;subst h;simp
  |cons y l=>
   simp only[NN]at h;obtain⟨d,b⟩:=c h;refine⟨by simp,?_⟩;simpa using b
theorem Qo{ops:List Oper}{draw:Bool}{o:Oper}{c:Call}(h:Is ops draw=some (o,c)):draw=false/\0<ops.length/\ops[ops.length-1]?=some o/\o.op = .defer c:=by
 unfold Is at h;cases draw with
 |true=>cases h
 |false=>
  simp only[cond_false]at h;split at h
  .rename_i j g
   split at h
   .rename_i i f
    simp only[gO,oU]at h;obtain⟨rfl,rfl⟩:=h;obtain⟨b,d⟩:=TB g;exact⟨rfl,b,d,f⟩
   .cases h
  .cases h
theorem mem_iff{n:Nat}{l:List Nat}:mem n l=true↔n∈l:=by
 induction l with
 |nil=>simp[mem]
 |cons k r b=>
  simp only[mem,eH];cases hb:Nat.beq k n
  .have:k≠n:=λe=>by rw[fN.2 e]at hb;cases hb
   simp only[cond_false,b];exact⟨λh=>.inr h,λh=>h.resolve_left (λe=>this e.symm)⟩
  .simp only[cond_true,true_iff]
   exact .inl (fN.1 hb).symm
theorem TK{f:Fr}:∀{ks:List Nat} {n:Nat} {v:Value},(f.only ks).get n=some v->f.get n=some v/\n∈ks:=by
 intro ks
 induction ks with
 |nil=>intro n v h;simp[Fr.only,Fr.get]at h
 |cons k ks b=>
  intro n v h;simp only[Fr.only]at h;split at h
  .rename_i u hu
   rw[Fr.tQ]at h;by_cases e:k=n
   .subst e
    simp only[if_true]at h;rw[<-h];exact⟨hu,eO ..⟩
   .simp only[e,if_false]at h
    exact⟨(b h).1,eK _ (b h).2⟩
  .exact⟨(b h).1,eK _ (b h).2⟩
theorem NW{f:Fr}:∀{ks:List Nat} {K:Fr->aK},Fr.NV f ks K=K (f.only ks):=by
 intro ks
 induction ks with
 |nil=>intro K;rfl
 |cons k ks b=>
  intro K;simp only[Fr.NV,Fr.only];split
  .exact b
  .exact b
theorem sE.only{f:Fr}{a:Act}(h:sE f a)(ks:List Nat):sE (f.only ks) a:=λn v b=>h n v (TK b).1
theorem Ht(f:Fr){ks ws:List Nat}(g:qo ks ws=true):uO (sE (f.only ks)) ws:=by
 intro a d v b h n u hu;have i:=(TK hu).2;have c:d≠n:=λe=>by
  have:=F1.1 g n i;rw[mem_iff.2 (e ▸ b)]at this;cases this
 simp[Act.put,yH c,h n u hu]
theorem uO.and{b:Act->Prop}{ws:List Nat}(h:uO G ws)(h':uO b ws):uO (λa=>G a/\b a) ws:=
 λa d v c f=>⟨h a d v c f.1,h' a d v c f.2⟩
theorem uO.sub{ws b:List Nat}(h:uO G ws)(g:∀d,d∈b->d∈ws):uO G b:=λa d v c f=>h a d v (g d c) f
theorem DX{aD f:Fr}(hb:sE aD a)(j:sE f a):∀{outs:Ad} {x:Ts.den (AV outs)},QC f outs=some (Ts.inj (AV outs) x)->sE (GN aD outs x) a:=by
 intro outs
 induction outs with
 |nil=>intro x h;exact hb
 |cons p outs m=>
  intro x h;obtain⟨k,t⟩:=p;simp only[QC]at h;split at h
  .rename_i v vs g i
   have e:=dU h;have c:v=t.inj x.1:=(KD e).1;have d:vs=Ts.inj (AV outs) x.2:=(KD e).2;subst c d;have l:sE (GN aD outs x.2) a:=m i;intro n u hu;have b:Fr.get ((k,t.inj x.1)::GN aD outs x.2) n=some u:=hu;rw[Fr.tQ]at b;by_cases e:k=n
   .subst e
    simp only[if_true,gO]at b;rw[<-b];exact j _ _ g
   .simp only[e,if_false]at b
    exact l n u b
  .cases h
def Z5(An:Um)(Dh:Option Ad):Ex->Option Ad
 |.Dh=>Dh
 |.ret=>some An.res
 |.ex id=>some (An.MN id)
theorem Ku{e e':Ex}(h:xH e=xH e'):e=e':=by
 cases e<;>cases e'<;>simp[xH]at h<;>first|rfl|(subst h;rfl)|omega
section
variable{P:Program}{An:Um}
variable{e:Ex}{h:aG}{Qp:Nat->List Value->aG->Prop}{vs:List Value}{Γ:Ctx}{G:Act->Prop}{a:Act}
theorem J6{outs:Ad}{f:Fr}(hw:wp P (encode An outs e f) h Qp) :
  ∃o vs,Z5 An (some outs) e=some o/\QC f o=some vs/\Qp (xH e) vs h:=by
 cases e<;>simp only[encode]at hw<;>(split at hw<;>first|exact hw.elim|skip)
 all_goals
  rename_i vs b;exact⟨_,vs,rfl,b,hw⟩
theorem Gf{Dh:Option Ad}{aD:Fr}{K:Ex->Fr->aK}:∀{es:List Nat},
  wp P (decode An Dh aD K es (xH e) vs) h Qp->∃o x,Z5 An Dh e=some o/\vs=Ts.inj (AV o) x/\wp P (K e (GN aD o x)) h Qp:=by
 intro es
 induction es with
 |nil=>
  intro hw;simp only[decode]at hw;split at hw
  .rename_i outs
   cases hb:Nat.beq (xH e) 0
   .simp only[aR,jL,hb,cond_false]at hw;exact hw.elim
   .simp only[aR,jL,hb,cond_true]at hw
    have:e = .Dh:=Ku (fN.1 hb);subst this;obtain⟨x,b,hw⟩:=hw;exact⟨outs,x,rfl,b,hw⟩
  .exact hw.elim
 |cons k es c=>
  intro hw;cases k with
  |zero=>
   simp only[decode]at hw;cases hb:Nat.beq (xH e) 1
   .simp only[aR,jL,hb,cond_false]at hw;exact c hw
   .simp only[aR,jL,hb,cond_true]at hw
    have:e = .ret:=Ku (fN.1 hb);subst this;obtain⟨x,b,hw⟩:=hw;exact⟨An.res,x,rfl,b,hw⟩
  |succ id=>
   simp only[decode]at hw;cases hb:Nat.beq (xH e) (id+2)
   .simp only[aR,jL,hb,cond_false]at hw;exact c hw
   .simp only[aR,jL,hb,cond_true]at hw
    have:e = .ex id:=Ku (fN.1 hb);subst this;obtain⟨x,b,hw⟩:=hw;exact⟨An.MN id,x,rfl,b,hw⟩
theorem Vs{pX:List Nat}{ops:List Oper}{loose:List (Nat×Nat)}{f:Fr}{K:Fr->aK}:∀{ls:List (List Nat)},
  wp P (Vr P Γ pX ops loose f K ls) h Qp->∀L,L∈ls->wp P (Dt P Γ pX true ops loose L [] f K) h Qp:=by
 intro ls
 induction ls with
 |nil=>intro _ L b;cases b
 |cons l ls g=>
  intro hw L b;cases ls with
  |nil=>obtain rfl:=dE.1 b;exact hw
  |cons m ls=>
   obtain⟨c,d⟩:=hw;rcases eH.1 b with rfl|b
   .exact c
   .exact g d L b
theorem FV{ro:Option Nat}(t:KJ P Γ)(hm:P.follows .mixedOrders=true){n:Nat}{id:Nat}{ops:Array Oper}{draw:Bool}(k:LM P An n (.region id ops draw)=true){w0:World} 
  {f:Fr} {K:Fr->aK} {Q:Exit->Act->World->Prop} {w:World} (p:uO G (MZ ops.toList))
  (j:St w0 G n f a w) (hw:wp P (FU P Γ An id ops.toList draw f K) w.heap Qp)
  (q:∀f a w,St w0 G n f a w->wp P (K f) w.heap Qp->Q .normal a w):(Code.region id ops draw).wpIn (LP ro) 0 P Q a w:=by
 simp only[LM,iL]at k;obtain⟨-, v,l⟩:=k;have b:∀(i:Nat) o d,ops[i]?=some o->o.dst=some d->d<n/\d∈MZ ops.toList:=by
  intro i o d hi r;have c:d∈MZ ops.toList:=List.mem_filterMap.2 ⟨o,by
   have:ops.toList[i]?=some o:=by simpa using hi
   exact eM this,r⟩
  exact⟨fZ (F1.1 v d c),c⟩
 cases draw
 .simp only[FU,cond_false]at hw
  refine wpIn_region (Yj (dr:=false) (loose:=[]) _ [] a w ?_);have:=FT (P:=P) (dr:=false) t (R:=Q .normal) b p q (List.range ops.toList.length) [] [] f a w trivial j hw;simpa using this
 .simp only[FU,cond_true]at hw l
  have s:St w0 G n f a w.drew:=⟨j.fr,j.sz,j.env.trans (Za w),j.g⟩;split at hw
  .rename_i ls loose m
   simp only[m]at l;refine Rm hm l λL u=>?_;exact FT (P:=P) (dr:=true) t (R:=Q .normal) b p q L [] [] f a w.drew trivial s (Vs hw L u)
  .exact hw.elim
theorem ZF{ws:List Nat}(h:uO G ws)(df:List Deferred):uO (λa=>G a/\a.defers=df) ws:=
 λa d v c b=>⟨h a d v c b.1,b.2⟩
def vd(G:Act->Prop):Prop:=∀a d,G a->G {a with defers:=d}
theorem XM{p:Nat}{r:List Nat}(h:HE (p::r)=true):p∉r/\HE r=true:=by
 simp only[HE,iL,CG]at h;exact⟨λhm=>by rw[mem_iff.2 hm]at h;exact absurd h.1 (by simp),h.2⟩
theorem VO:∀{l m:List Nat},fg l m=true->l=m
 |[],[],_=>rfl
 |a::r,b::s,h=>by
  simp only[fg,iL]at h;rw[fN.1 h.1,VO h.2]
theorem U0(l:List (Nat×Value)):∀t:Array Value,(l.foldl (λt (x:Nat×Value)=>t.setIfInBounds x.1 x.2) t).size=t.size:=by
 induction l with
 |nil=>intro t;rfl
 |cons x l b=>intro t;rw[CD,b];simp
theorem K8(l:List (Nat×Value)){k:Nat}:∀t:Array Value,(∀x,x∈l->x.1≠k)->(l.foldl (λt (x:Nat×Value)=>t.setIfInBounds x.1 x.2) t)[k]?=t[k]? := by
 induction l with
 |nil=>intro t _;rfl
 |cons x l c=>
  intro t h;rw[CD,c _ λy b=>h y (eK _ b),yH (h x (eO ..))]
theorem XQ{f:Fr}:∀(c:Ad) (x:Ts.den (AV c)) (t:Array Value),HE (c.map (·.1))=true->(∀p,p∈c->p.1<t.size)->(∀n v,f.get n=some v->t[n]?=some v) ->
  ∀n v,(GN f c x).get n=some v->(((c.map (·.1)).zip (Ts.inj (AV c) x)).foldl (λt (x:Nat×Value)=>t.setIfInBounds x.1 x.2) t)[n]?=some v:=by
 intro c
 induction c with
 |nil=>intro x t _ _ h n v o;exact h n v o
 |cons p c F=>
  intro x t D w h n v o;obtain⟨k,ty⟩:=p;obtain⟨s,q⟩:=XM (p:=k) (r:=c.map (·.1)) (show HE (k::c.map (·.1))=true from D);have d:Fr.get ((k,ty.inj x.1)::GN f c x.2) n=some v:=o;rw[Fr.tQ]at d;show((List.zip (c.map (·.1)) (Ts.inj (AV c) x.2)).foldl _ (t.setIfInBounds k (ty.inj x.1)))[n]?=some v;by_cases e:k=n
  .subst e
   simp only[if_true,gO]at d;subst d;rw[K8]
   .have:=w (k,ty) (eO ..)
    dsimp only at this;simp[this]
   .intro y g he
    refine s ?_;rw[<-he];exact(RP (a:=y.1) (b:=y.2) g).1
  .simp only[e,if_false]at d
   have j:∀m u,(GN f c x.2).get m=some u->m≠k->((List.zip (c.map (·.1)) (Ts.inj (AV c) x.2)).foldl (λt (x:Nat×Value)=>t.setIfInBounds x.1 x.2) (t.setIfInBounds k (ty.inj x.1)))[m]?=some u:=by
    intro m u hu hm;have B:=F x.2 t q (λp E=>w p (eK _ E)) h m u hu;have key:∀(l:List (Nat×Value)) (t:Array Value),k∉l.map (·.1)->(l.foldl (λt (x:Nat×Value)=>t.setIfInBounds x.1 x.2) (t.setIfInBounds k (ty.inj x.1)))[m]?=(l.foldl (λt (x:Nat×Value)=>t.setIfInBounds x.1 x.2) t)[m]? := by
     intro l
     induction l with
     |nil=>intro t _;rw[List.foldl_nil,List.foldl_nil,yH (Ne.symm hm)]
     |cons y l z=>
      intro t g;simp only[fS,eH,not_or]at g;rw[CD,CD];have C:(t.setIfInBounds k (ty.inj x.1)).setIfInBounds y.1 y.2=(t.setIfInBounds y.1 y.2).setIfInBounds k (ty.inj x.1):=Array.setIfInBounds_comm _ _ g.1;rw[C];exact z _ g.2
    rw[key _ _ (λi=>?_)]
    .exact B
    .obtain⟨y,g,he⟩:=dA.1 i
     refine s ?_;rw[<-he];exact(RP (a:=y.1) (b:=y.2) g).1
   exact j n v d (λA=>e A.symm)
theorem XH{K:Ex->aK}{Qp:Lt}:∀{es:List Nat} {j:Nat},wp P (leaves K es j) h Qp->∃e,j=xH e/\wp P (K e) h Qp:=by
 intro es
 induction es with
 |nil=>
  intro j hw;simp only[leaves]at hw;cases hb:Nat.beq j 0
  .simp only[aR,jL,hb,cond_false]at hw;exact hw.elim
  .simp only[aR,jL,hb,cond_true]at hw;exact⟨.Dh,fN.1 hb,hw⟩
 |cons k es b=>
  intro j hw;cases k with
  |zero=>
   simp only[leaves]at hw;cases hb:Nat.beq j 1
   .simp only[aR,jL,hb,cond_false]at hw;exact b hw
   .simp only[aR,jL,hb,cond_true]at hw;exact⟨.ret,fN.1 hb,hw⟩
  |succ id=>
   simp only[leaves]at hw;cases hb:Nat.beq j (id+2)
   .simp only[aR,jL,hb,cond_false]at hw;exact b hw
   .simp only[aR,jL,hb,cond_true]at hw;exact⟨.ex id,fN.1 hb,hw⟩
theorem ZE(e:Ex):Bm (xH e)=match e with|.Dh=>none|.ret=>some .ret|.ex id=>some (.exit id):=by cases e<;>rfl
theorem TL(w:World)(l:Nat)(o:Obj):(w.putObj l o).heap=w.heap.setIfInBounds l o:=rfl
theorem DY(w:World)(l:Nat)(o:Obj):Env w (w.putObj l o):=⟨rfl,rfl,rfl⟩
theorem P0{D:Prop}(hΓ:KJ P Γ)(hm:P.follows .mixedOrders=true){n:Nat}:∀(c:Code),LM P An n c=true->∀{w0:World} {ro:Option Nat} {df:List Deferred} {G:Act->Prop} {f:Fr} {K:Ex->Fr->aK}
  {Qp:Lt} {Q:Exit->Act->World->Prop} {a:Act} {w:World},uO G (writes c)->vd G->(eU c=true->ro=none)->(oL c=true->D)->St w0 (λa=>G a/\a.defers=df) n f a w->wp P (Sn P Γ An c f K) w.heap Qp ->
  (∀e f a w C B,Marks P D df Qp C B->(eU c=false->C=df/\B=Qp)->St w0 (λa=>G a/\a.defers=C) n f a w->wp P (K e f) w.heap B->Q (Vu e) a w)->c.wpIn (LP ro) 0 P Q a w:=by
 intro c
 induction c with
 |skip=>intro z w0 ro df G f K Qp Q a w E F J H l hw A;exact wpIn_skip (A _ _ _ _ _ _ .refl (λ_=>⟨rfl,rfl⟩) l hw)
 |region id ops draw=>
  intro z w0 ro df G f K Qp Q a w E F J H l hw A;have E:=ZF E df;simp only[Sn]at hw;split at hw
  .rename_i o c bd
   have hr:eU (.region id ops draw)=true:=by simp[eU,bd]
   have e6:D:=H (by simp[oL,bd]);obtain rfl:=J hr;obtain⟨rfl,g9,b6,gv⟩:=Qo bd;have bo:∀(i:Nat) o d,ops[i]?=some o->o.dst=some d->d<n/\d∈MZ ops.toList:=by
    simp only[LM,iL]at z;intro i o d hi gg;have bs:d∈MZ ops.toList:=List.mem_filterMap.2 ⟨o,by
     have:ops.toList[i]?=some o:=by simpa using hi
     exact eM this,gg⟩
    exact⟨fZ (F1.1 z.2.1 d bs),bs⟩
   have a3:ops[ops.toList.length-1]?=some o:=by simpa using b6
   refine wpIn_region ?_;have bt:List.range ops.size=List.range (ops.toList.length-1)++[ops.toList.length-1]:=by
    have:ops.size=(ops.toList.length-1)+1:=by rw[<-RQ];omega
    rw[this,Mg]
   rw[bt];refine VA (dr:=false) (loose:=[]) (R:=λa w=>wpOpsIn (LP none) 0 P ops Q [ops.toList.length-1] a w) (λ_ _ h=>h) _ [] a w ?_;refine FT (P:=P) (dr:=false) hΓ bo E (λf' O S q L=>?_) (List.range (ops.toList.length-1)) [] [] f a w trivial l hw;simp only[wpOpsIn,a3];split at L
   .rename_i g fj c8
    split at L
    .rename_i i first cap ao hg b2
     split at L
     .rename_i y hy
      obtain⟨m,tys⟩:=y;obtain⟨aw, -⟩:=hΓ _ _ _ _ hy;have g6:Region.wanted o (yielded ops O.tmps)=true:=by simp[Region.wanted,fj]
      simp only[g6,if_true];refine⟨λ_ _=>trivial,?_⟩
      let d:Deferred:={target:=.fn (.func i) cap,args:=first++ao.toArray}
      have er:(o.semAt (LP none).round O.eval).run P S = .ok (.defer d) S:=by
       have V:(resolve O.eval c o.type).run P S = .ok d S:=by
        rw[yY (a:=O) q.fr c8 hg b2 o.type];rfl
       show(execOp O.eval o).run P S=_;unfold execOp;simp only[gv,Sem.run_bind,V,Result.andThen_ok,Sem.run_pure]
      rw[er];rw[Oper.uponIn_defer];have c9:j5 P d i (first.toList++ao++cap.toList):=⟨⟨_,_,rfl⟩,λw=>by
       have:=aw (first++ao.toArray++cap) w;simp only[d,invoke,this]
       congr 2
       apply yG.1;simp⟩
      have bb:St w0 (λa=>G a/\a.defers=d::df) n f' {O with defers:=d::O.defers} S:=⟨q.fr,q.sz,q.env,F _ _ q.g.1,by rw[<-q.g.2]⟩;have b8:∀k,o.dst=some k->k<n/\k∈MZ ops.toList:=λk X=>bo _ o k a3 X;have ba:uO (λa=>G a/\a.defers=d::df) (MZ ops.toList):=λa k v X hg=>⟨(E {a with defers:=df} k v X ⟨F _ _ hg.1,rfl⟩).1 |> λh=>by
       have:=F _ (d::df) h;simpa[Act.put,hg.2] using this,hg.2⟩
      exact A .Dh _ _ _ _ _ (.call e6 c9 .refl) (λh=>by rw[hr]at h;cases h) (bb.put ba b8 (Env.refl _) undef) L
     .exact L.elim
    .exact L.elim
   .exact L.elim
  split at hw
  .exact FV hΓ hm z E l hw λf a w l hw=>A .Dh f a w _ _ .refl (λ_=>⟨rfl,rfl⟩) l hw
  .rename_i outs aP ho
   rw[NW]at hw;have ab:qo aP (MZ ops.toList)=true:=by
    have M:=z;simp only[LM,iL,ho,Pt]at M;exact M.1
   have a0:=E.and (Ht f ab);refine FV (G:=λa=>(G a/\a.defers=df)/\sE (f.only aP) a) hΓ hm z a0 ⟨l.fr,l.sz,l.env,l.g,l.fr.only _⟩ hw λf' O S q L=>?_;obtain⟨o,vs,V,M,h3⟩:=J6 L;obtain⟨o',x,h4,rfl,h5⟩:=Gf (e:=.Dh) h3;obtain rfl:o=o':=dU (V.symm.trans h4);exact A .Dh _ _ _ _ _ .refl (λ_=>⟨rfl,rfl⟩) ⟨DX q.g.2 q.fr M,q.sz,q.env,q.g.1⟩ h5
 |seq c d a9 b1=>
  intro z w0 ro df G f K Qp Q a w E F J H l hw A;simp only[LM,iL]at z;obtain⟨ab,a8,z⟩:=z;have cf:uO G (writes c):=E.sub λd W=>oV _ W;have ba:uO G (writes d):=E.sub λd W=>qI _ W;have cr:eU c=true->ro=none:=λh=>J (by simp[eU,h]);have e5:eU d=true->ro=none:=λh=>J (by simp[eU,h]);have cd:oL c=true->D:=λh=>H (by simp[oL,h]);have e3:oL d=true->D:=λh=>H (by simp[oL,h]);refine wpIn_seq ?_;have cg:∀e f a w C B,Marks P D df Qp C B->(eU c=false->C=df/\B=Qp)->St w0 (λa=>G a/\a.defers=C) n f a w ->
    wp P ((λe f'=>match e with|.Dh=>Sn P Γ An d f' K|e=>K e f':Ex->Fr->aK) e f) w.heap B->Exit.then (d.wpIn (LP ro) 0 P Q) Q (Vu e) a w:=by
   intro e f a w C B a7 a4 l hw;cases e with
   |Dh=>exact b1 z.2 ba F e5 e3 l hw λe f a w e2 e1 fm ft l hw=>A e f a w e2 e1 (a7.trans fm) (λh=>by
     simp only[eU,CE]at h;obtain⟨r1,r2⟩:=a4 h.1;obtain⟨r3,r4⟩:=ft h.2;exact⟨r3.trans r1,r4.trans r2⟩) l hw
   |ex id=>exact A (.ex id) f a w C B a7 (λh=>by simp only[eU,CE]at h;exact a4 h.1) l hw
   |ret=>exact A .ret f a w C B a7 (λh=>by simp only[eU,CE]at h;exact a4 h.1) l hw
  simp only[Sn]at hw;split at hw
  .exact a9 z.1 cf F cr cd l hw cg
  .rename_i outs aP ho
   rw[NW]at hw;simp only[ho,Pt]at ab;simp only[ho,CG]at a8;have a0:=cf.and (Ht f ab);refine a9 z.1 (G:=λa=>G a/\sE (f.only aP) a) a0 (λa d h=>⟨F a d h.1,h.2⟩) cr cd ⟨l.fr,l.sz,l.env,⟨l.g.1,l.fr.only _⟩,l.g.2⟩ hw λe f' O S C B a7 a4 q L=>?_;obtain⟨rfl,rfl⟩:=a4 a8;obtain⟨o,vs,V,M,h3⟩:=J6 L;obtain⟨o',x,h4,rfl,h5⟩:=Gf h3;obtain rfl:o=o':=dU (V.symm.trans h4);exact cg e _ _ _ _ _ .refl (λ_=>⟨rfl,rfl⟩) ⟨DX q.g.1.2 q.fr M,q.sz,q.env,q.g.1.1,q.g.2⟩ h5
 |cond x c d a9 b1=>
  intro z w0 ro df G f K Qp Q a w E F J H l hw A;simp only[LM,iL]at z;simp only[Sn]at hw;split at hw
  .rename_i t ht
   have he:=bV l.fr ht;cases t
   .simp only[aR,cond_false]at hw
    exact wpIn_cond_false he (b1 z.2 (E.sub λd W=>qI _ W) F (λh=>J (by simp[eU,h])) (λh=>H (by simp[oL,h])) l hw λe f a w C B Y U=>A e f a w C B Y (λh=>U (by simp only[eU,CE]at h;exact h.2)))
   .simp only[aR,cond_true]at hw
    exact wpIn_cond_true he (a9 z.1 (E.sub λd W=>oV _ W) F (λh=>J (by simp[eU,h])) (λh=>H (by simp[oL,h])) l hw λe f a w C B Y U=>A e f a w C B Y (λh=>U (by simp only[eU,CE]at h;exact h.1)))
  .exact hw.elim
 |block id c ih=>
  intro z w0 ro df G f K Qp Q a w E F J H l hw A;refine wpIn_block (ih z E F J H l hw λe f a w C B Y U l hw=>?_);cases e with
  |Dh=>exact A .Dh f a w _ _ Y U l hw
  |ret=>exact A .ret f a w _ _ Y U l hw
  |ex j=>
   simp only at hw;simp only[Vu,Exit.inBlock];by_cases e:j=id
   .subst e
    simp only[fN.2 rfl,cond_true]at hw;simp only[if_true];exact A .Dh f a w _ _ Y U l hw
   .simp only[Wo e,cond_false]at hw
    simp only[e,if_false];exact A (.ex j) f a w _ _ Y U l hw
 |loop c ih=>
  intro z w0 ro df G f K Qp Q a w E F J H l hw A;simp only[Sn]at hw;split at hw
  .exact hw.elim
  .rename_i outs aP ho
   split at hw
   .exact hw.elim
   .rename_i vs b0
    split at hw
    .exact hw.elim
    rename_i s0 g0;obtain rfl:=Ts.AS g0;rw[NW]at hw;obtain⟨I,μ,h0,hr⟩:=hw;simp only[LM,iL,ho,Pt,CG]at z;obtain⟨ab,a8,z⟩:=z;have a0:=E.and (Ht f ab);refine dq (I:=λs a w=>I s w.heap/\St w0 (λa=>(G a/\sE (f.only aP) a)/\a.defers=df) n (GN (f.only aP) outs s) a w) (μ:=λs w=>μ s w.heap) s0
     ⟨h0,DX (l.fr.only _) l.fr b0,l.sz,l.env,⟨l.g.1,l.fr.only _⟩,l.g.2⟩ λs a w hi=>?_
    refine ih z a0 (λa d h=>⟨F a d h.1,h.2⟩) J H hi.2 (hr s w.heap hi.1) λe f' O S C B Y U q L=>?_;obtain⟨rfl,rfl⟩:=U a8;obtain⟨o,vs,V,M,h3⟩:=J6 L;cases e with
    |Dh=>
     obtain⟨s',rfl,hI,hμ⟩:=h3.1 rfl;obtain rfl:=dU V;exact⟨s',⟨hI,DX q.g.1.2 q.fr M,q.sz,q.env,q.g⟩,hμ⟩
    |ret=>
     obtain⟨o',x,h4,rfl,h5⟩:=Gf (e:=.ret) (h3.2 (by simp[xH]));obtain rfl:o=o':=dU (V.symm.trans h4);exact A .ret _ _ _ _ _ .refl (λ_=>⟨rfl,rfl⟩) ⟨DX q.g.1.2 q.fr M,q.sz,q.env,q.g.1.1,q.g.2⟩ h5
    |ex id=>
     obtain⟨o',x,h4,rfl,h5⟩:=Gf (e:=.ex id) (h3.2 (by simp[xH]));obtain rfl:o=o':=dU (V.symm.trans h4);exact A (.ex id) _ _ _ _ _ .refl (λ_=>⟨rfl,rfl⟩) ⟨DX q.g.1.2 q.fr M,q.sz,q.env,q.g.1.1,q.g.2⟩ h5
 |exit id=>intro z w0 ro df G f K Qp Q a w E F J H l hw A;exact wpIn_exit (A (.ex id) _ _ _ _ _ .refl (λ_=>⟨rfl,rfl⟩) l hw)
 |ret=>intro z w0 ro df G f K Qp Q a w E F J H l hw A;exact wpIn_ret (A .ret _ _ _ _ _ .refl (λ_=>⟨rfl,rfl⟩) l hw)
 |rangeFunc g ps Z b g7 g8=>
  intro z w0 ro df G f K Qp Q a w E F J H l hw A;obtain rfl:=J rfl;simp only[Sn]at hw;split at hw
  .exact hw.elim
  rename_i p0 pr c6;split at hw
  .rename_i fv N outs e9 ej
   simp only[LM,iL,c6,ej,CG]at z;obtain⟨c5,ct,T,cx,c4,eg,eh⟩:=z;have T:=VO T;rw[<-c6]at T c5 ct;refine wpIn_rangeFunc λfn _=>?_;have dx:a.eval g=fv:=bV l.fr e9
   let r:Loop:={state:=.ready,pending:=none,fn,tmps:=a.tmps,params:=ps,assign:=Z,body:=b,defers:=w.heap.size}
   let w1:World:=(w.alloc (.deferred (some []))).alloc (.loop r)
   have bp:=run_enterLoop_outer (P:=P) (w:=w) fn a.tmps ps Z b;have g3:w1.heap=(w.heap.push (.deferred (some []))).push (.loop r):=rfl;refine Exists.elim (hw r rfl rfl (λx M R gw c7=>?round) w1 g3) λd W=>?main
   case main=>
    obtain⟨gf,as,gm,hinv,aw⟩:=W;refine⟨w.heap.size+1,[Q8 w.heap.size],w1,d,w1,gf,as,w1,bp,?_,λ_ _=>trivial,hinv,(λh=>by cases h),KP (Calls.mono aw λe w3 he=>?_)⟩
    .simp only[resolve,dx,Mh]
     simp[Act.eval];exact gm
    obtain⟨vs,rfl,ds,j,ei,X⟩:=he;have ec:(zU r j).state ≠ .busy:=by
     unfold zU;dsimp only;split<;>simp
    have de:=run_endLoop (P:=P) ei ec;refine⟨(zU r j).pending,_,de,?_⟩;obtain⟨e,rfl,fl⟩:=XH X;have bb:St w0 (λO=>G O/\O.defers=Q8 w.heap.size::df) n f {a with defers:=[Q8 w.heap.size]++a.defers} (w3.putObj (w.heap.size+1) (.loop {zU r (xH e)with state:=.exhausted})):=
     ⟨l.fr,l.sz,((l.env.trans (show Env w w1 from⟨rfl,rfl,rfl⟩)).trans ds).trans (DY _ _ _),F _ _ l.g.1,by rw[<-l.g.2];rfl⟩
    have hq:=A e f _ _ _ _ (.push w.heap.size .refl) (λh=>by simp[eU]at h) bb fl;have hj:(zU r (xH e)).pending=Bm (xH e):=rfl;rw[hj,ZE];cases e with
    |Dh=>exact hq
    |ret=>exact wpIn_ret hq
    |ex id=>exact wpIn_exit hq
   case round=>
    intro w2 g4;subst g4;refine⟨{target:=.fn (.yield (w.heap.size+1)) #[],args:=#[]++(Ts.inj (AV N) x).toArray},rfl, .inr ⟨w.heap.size+1,r.fn,_,r.assign,r.body,run_yield gw ?_,?_⟩⟩
    .have:(Ts.inj (AV N) x).length=N.length:=by
      have:∀{ts:List Ty} (x:Ts.den ts),(Ts.inj ts x).length=ts.length:=by
       intro ts
       induction ts with
       |nil=>intro x;rfl
       |cons t ts ih=>intro x;simp[Ts.inj,ih]
      rw[this];simp[AV]
     have M:ps.size=N.length:=by rw[<-RQ,<-T,cE]
     simp[this,M,r]
    refine roundIn_of_wpIn trivial ?_;rw[m7];have g2:(r.params.zip (#[]++(Ts.inj (AV N) x).toArray)).foldl (λtmps (t,a)=>tmps.setIfInBounds t a) r.tmps=((N.map (·.1)).zip (Ts.inj (AV N) x)).foldl (λt (x:Nat×Value)=>t.setIfInBounds x.1 x.2) a.tmps:=by
     rw[T,<-Array.foldl_toList];simp[r]
    rw[g2];have ey:=U0 ((N.map (·.1)).zip (Ts.inj (AV N) x)) a.tmps;have e8:sE (GN f N x) {tmps:=((N.map (·.1)).zip (Ts.inj (AV N) x)).foldl (λt (x:Nat×Value)=>t.setIfInBounds x.1 x.2) a.tmps,defers:=[]}:=by
     refine XQ N x a.tmps (by rw[T];exact c5) (λp hp=>?_) l.fr;have:p.1∈ps.toList:=by rw[<-T];exact rT hp
     have:=F1.1 ct _ this;have:=fZ this;rw[l.sz];omega
    have b3:uO (sE (Fr.AW f (ps.toList++writes Z))) (writes Z):=λa d v W hf k u X=>by
     have fy:d≠k:=λe=>(Aa X).2 (qI _ (e ▸ W));simp[Act.put,yH fy,hf k u X]
    have e7:sE (Fr.AW f (ps.toList++writes Z)) {tmps:=((N.map (·.1)).zip (Ts.inj (AV N) x)).foldl (λt (x:Nat×Value)=>t.setIfInBounds x.1 x.2) a.tmps,defers:=[]}:=λk u X=>by
     obtain⟨V,M⟩:=Aa X;show(List.foldl _ _ _)[k]?=some u;rw[K8]
     .exact l.fr k u V
     .intro y hy he
      refine M (oV _ ?_);rw[<-he,<-T];exact(RP (a:=y.1) (b:=y.2) hy).1
    refine g7 eg (w0:=w2) (ro:=some (w.heap.size+1)) (df:=[]) (G:=sE (Fr.AW f (ps.toList++writes Z))) b3 (λ_ _ h=>h) (λh=>by rw[cx]at h;cases h) (λh=>H (by simp[oL,h])) ⟨e8,by rw[ey];exact l.sz,Env.refl _,e7,rfl⟩ c7 λe f1 a1 w3 C B Y U a5 al=>?_;obtain⟨rfl,rfl⟩:=U cx;cases e with
    |ret=>exact al.elim
    |ex id=>exact al.elim
    |Dh=>
     simp only at al;split at al
     .rename_i vs b0
      obtain⟨-, y,rfl,b9,b4⟩:=al;refine⟨_,run_beginRound b9 rfl,?_⟩;refine g8 eh (w0:=w2) (ro:=some (w.heap.size+1)) (df:=[]) (G:=λ_=>True) (λ_ _ _ _ h=>h) (λ_ _ h=>h) (λh=>by rw[c4]at h;cases h) (λh=>H (by simp[oL,h])) ⟨DX a5.g.1 a5.fr b0,a5.sz,a5.env.trans (DY _ _ _),trivial,a5.g.2⟩ b4 λe f2 a2 w4 C B m2 n2 g1 g5=>?_;obtain⟨rfl,rfl⟩:=n2 c4;obtain⟨cc,e4⟩:=g5;have a6:∀jump:Option Code,jump=Bm (xH e)->∃v S,(Instr.endRound (w.heap.size+1) jump).run P w4 = .ok v S/\∃vs,Ending.returned v = .returned (Bv vs)/\Env w2 S/\R vs S.heap:=by
       rintro jump rfl;refine⟨_,_,run_endRound _ cc,[.bool (Bm (xH e)).isNone],rfl,g1.env.trans (DY _ _ _),?_⟩;rw[TL];exact e4
      cases e with
      |Dh=>exact a6 none rfl
      |ret=>exact a6 (some .ret) rfl
      |ex id=>exact a6 (some (.exit id)) rfl
     .exact al.elim
  .exact hw.elim
 |scope=>intro z w0 ro df G f K Qp Q a w E F J H l hw A;exact hw.elim
 |label=>intro z w0 ro df G f K Qp Q a w E F J H l hw A;exact hw.elim
 |goto=>intro z w0 ro df G f K Qp Q a w E F J H l hw A;exact hw.elim
 |refuse=>intro z w0 ro df G f K Qp Q a w E F J H l hw A;exact hw.elim
theorem Np:∀{vs:List Value} {k n:Nat} {v:Value},(No k vs).get n=some v->k<=n/\vs[n-k]?=some v:=by
 intro vs
 induction vs with
 |nil=>intro k n v h;simp[No,Fr.get]at h
 |cons u vs c=>
  intro k n v h;simp only[No,Fr.tQ]at h;by_cases e:k=n
  .subst e
   simp only[if_true,gO]at h;simp[h]
  .simp only[e,if_false]at h
   obtain⟨d,b⟩:=c h;refine⟨by omega,?_⟩;have:n-k=(n-(k+1))+1:=by omega
   rw[this];simpa using b
def HM(tmps:Array Value):ResultVar->Sem Value
 |.tmp t=>pure (tmps.getD t undef)
 |.cell x t=>do loadVar t (<-asAddr (tmps.getD x undef))
theorem Hc{f:Fr}{w:World}(g:sE f a):∀{rs:List ResultVar} {K:List Value->aK} {Qp:Nat->List Value->aG->Prop},wp P (yZ P f rs K) w.heap Qp ->
  ∃vs,(rs.mapM (HM a.tmps)).run P w = .ok vs w/\wp P (K vs) w.heap Qp/\vs.length=rs.length:=by
 intro rs
 induction rs with
 |nil=>intro K Qp h;exact⟨[],by simp,h,rfl⟩
 |cons r rs k=>
  intro K Qp h;cases r with
  |tmp t=>
   simp only[yZ]at h;split at h
   .rename_i v m
    obtain⟨vs,b,c,d⟩:=k h;refine⟨v::vs,?_,c,by simp[d]⟩;have i:a.tmps.getD t undef=v:=by simp[g _ _ m]
    simp only[Mc,Sem.run_bind,HM,Sem.run_pure,Result.andThen_ok,i];simp only[b,Result.andThen_ok]
   .exact h.elim
  |cell x t=>
   simp only[yZ]at h;split at h
   .rename_i p ty n ht
    obtain⟨ad,rfl,y,l,h⟩:=h;obtain⟨vs,b,c,d⟩:=k h;refine⟨ty.inj y::vs,?_,c,by simp[d]⟩;have j:a.tmps.getD x undef = .pointer (some ad):=by simp[g _ _ n]
    simp only[Mc,Sem.run_bind,HM,j,asAddr,Sem.run_pure,Result.andThen_ok,Hz (P:=P) ht l];simp only[b,Result.andThen_ok]
   .exact h.elim
theorem HN{fn:Func}{w:World}(h:(fn.results.toList.mapM (HM a.tmps)).run P w = .ok vs w) :
  (results fn a.tmps).run P w = .ok (Bv vs) w:=by
 change (do let vs <-fn.results.mapM (HM a.tmps);pure (if h:vs.size=1 then vs[0] else .tuple vs):Sem Value).run P w=_;rw[WK];simp only[Sem.run_bind,Sem.run_map,h,Result.andThen_ok]
 match vs with
 |[]=>rfl
 |[v]=>rfl
 |u::v::r=>rfl
def Jy:List ResultVar->Bool
 |[]=>true
 |.tmp _::r=>Jy r
 |_=>false
theorem Uf{f:Fr}(g:sE f a):∀{rs:List ResultVar} {K:List Value->aK} {Qp:Lt} {h:aG},Jy rs=true->wp P (yZ P f rs K) h Qp ->
  ∃vs,(∀w:World,(rs.mapM (HM a.tmps)).run P w = .ok vs w)/\wp P (K vs) h Qp:=by
 intro rs
 induction rs with
 |nil=>intro K Qp h _ hw;exact⟨[],λw=>by simp,hw⟩
 |cons r rs j=>
  intro K Qp h ht hw;cases r with
  |tmp t=>
   simp only[yZ]at hw;split at hw
   .rename_i v i
    obtain⟨vs,c,d⟩:=j ht hw;refine⟨v::vs,λw=>?_,d⟩;have b:a.tmps.getD t undef=v:=by simp[g _ _ i]
    simp only[Mc,Sem.run_bind,HM,Sem.run_pure,Result.andThen_ok,b];simp only[c,Result.andThen_ok]
   .exact hw.elim
  |cell x t=>cases ht
theorem Zr(T:KJ P Γ)(hm:P.follows .mixedOrders=true){i:FuncId}{fn:Func}{c:Code}(N:P.funcs[i]?=some fn)(hb:fn.body=some c){n:Nat}(O:fn.ntmps=n)(H:LM P An n c=true)
  (p:(!eU c || Jy fn.results.toList)=true)
  {args:List Value} (ha:Nat.ble args.length n=true) {Q:List Value->aG->Prop} (hw:wp P (Om P Γ An fn args) h (λtag vs M=>tag=0/\Q vs M)):Uo P i args h Q:=by
 intro w J;subst J;refine(callsIn_wide (n:=0)).1 (callsIn_of_wp_marks (F:=Fence.wide) N hb trivial ?_);rw[<-Sp];simp only[Om,hb]at hw;have hle:args.length<=n:=fZ ha;have I:(args.toArray++Array.replicate (fn.ntmps-args.toArray.size) undef).size=n:=by simp[O];omega
 refine P0 (D:=True) (w0:=w) (df:=[]) (G:=λ_=>True) T hm c H (λ_ _ _ _ h=>h) (λ_ _ h=>h) (λ_=>rfl) (λ_=>trivial) ⟨?_,I,Env.refl w,trivial,rfl⟩ hw λe f a q V s U K o l=>?_
 .intro k v S
  obtain⟨h0,d⟩:=Np S;have u:k<args.length:=(cR.1 d).1;simp only[Mi]at d;have b:args[k]=v:=by rw[cL u]at d;exact dU d
  simp[Array.getElem?_append,u,b]
 .have key:wp P (yZ P f fn.results.toList λvs=>.ret 0 vs) q.heap s->LeavesInM (LP none) 0 P fn a.tmps (λe x=>∃vs,e = .returned (Bv vs)/\Env w x/\Q vs x.heap) a.defers .returning q:=by
   intro z;rw[o.g.2];cases t:eU c
   .obtain⟨rfl,rfl⟩:=K t
    obtain⟨vs,d,b, -⟩:=Hc o.fr z;exact⟨Bv vs,HN d,vs,rfl,o.env,b.2⟩
   .rw[t]at p
    obtain⟨vs,d,b⟩:=Uf o.fr (by simpa using p) z;have b:s 0 vs q.heap:=b;have j:=o.env;clear o l z K;generalize q=r at *
    induction U generalizing r with
    |refl=>exact⟨Bv vs,HN (d r),vs,rfl,j,b.2⟩
    |push D m A=>
     refine⟨by simp, .inl ⟨D,_,rfl,run_takeDeferred b.1,?_⟩⟩;apply A
     all_goals first|exact b.2|exact j.trans (DY _ _ _)
    |call W C m A=>
     obtain⟨L,cap,y⟩:=C.tar;refine⟨by simp, .inr ⟨(λh=>by cases h),L,cap,_,_,y,C.inv r,λ_ _=>trivial,?_⟩⟩;have B:=b .returning r rfl;refine CallsDIn.mono B λe X Y ⟨hu,v,he,E,R⟩=>?_;subst hu;subst he;apply A
     all_goals first|exact R|exact j.trans E
  cases e with
  |Dh=>exact key l
  |ret=>exact key l
  |ex id=>exact l.elim
end
end
end Go.Sw
