import Derived.Test.YtncolficnfcdcaaGreatSwS8
set_option linter.unusedVariables false
set_option linter.unusedSimpArgs false
namespace Go.Sw
section
variable{P:Program}{a:Act}{G:Act->Prop}
theorem B.Az{b:B}{v:Value}{x:b.den}(h:b.NY v=some x):v=b.inj x:=by
 cases b<;>cases v<;>simp only[B.NY,reduceCtorEq]at h
 case int.int k d n=>
  cases c:yF k d
  .simp[c]at h
  .simp only[c,cond_true]at h
   obtain rfl:=BV.1 c;exact congrArg (Value.int k) (dW h)
 case Xy.float k d n=>
  cases c:yX k d
  .simp[c]at h
  .simp only[c,cond_true]at h
   obtain rfl:=Dt.1 c;exact congrArg (Value.float k) (dW h)
 all_goals (obtain rfl:=dW h;rfl)
theorem Bs.Az:∀{bs:List B} {vs:List Value} {x:Bs.den bs},Bs.NY bs vs=some x->vs=Bs.inj bs x:=by
 intro bs
 induction bs with
 |nil=>
  intro vs x h;cases vs with
  |nil=>rfl
  |cons v vs=>simp[Bs.NY]at h
 |cons b bs f=>
  intro vs x h;cases vs with
  |nil=>simp[Bs.NY]at h
  |cons v vs=>
   simp only[Bs.NY]at h;split at h
   .rename_i y g c d
    obtain rfl:=dW h;rw[B.Az c,f d];rfl
   .cases h
theorem Ty.Az{t:Ty}{v:Value}{x:t.den}(h:t.NY v=some x):v=t.inj x:=by
 cases t with
 |one b=>exact B.Az h
 |agg c=>
  have d:∃cs,v = .agg cs:=by
   cases v<;>first|exact⟨_,rfl⟩|cases h
  obtain⟨cs,rfl⟩:=d;have e:cs.toList=Bs.inj c x:=Bs.Az h;show Value.agg cs=Value.agg (Bs.inj c x).toArray;exact congrArg Value.agg (xR.1 (by rw[e]))
theorem Ts.Az:∀{ts:List Ty} {vs:List Value} {x:Ts.den ts},Ts.NY ts vs=some x->vs=Ts.inj ts x:=by
 intro ts
 induction ts with
 |nil=>
  intro vs x h;cases vs with
  |nil=>rfl
  |cons v vs=>simp[Ts.NY]at h
 |cons t ts d=>
  intro vs x h;cases vs with
  |nil=>simp[Ts.NY]at h
  |cons v vs=>
   simp only[Ts.NY]at h;split at h
   .rename_i y f b c
    obtain rfl:=dW h;rw[Ty.Az b,d c];rfl
   .cases h
def UP:Ex->Exit
 |.CV=>.normal
 |.ex id=>.exit id
 |.ret=>.ret
def j8(ks ws:List Nat):Bool:=ks.all λk=>!mem k ws
def OS(o:Option (zM×List Nat))(ws:List Nat):Bool:=
 match o with
 |some (_,aP)=>j8 aP ws
 |none=>true
theorem zI{ws:List Nat}:∀{f:Fr} {n:Nat} {v:Value},(Fr.AE f ws).get n=some v->f.get n=some v/\n∉ws
 |[],n,v,h=>by simp[Fr.AE,Fr.get]at h
 | (k,u)::f,n,v,h=>by
  simp only[Fr.AE]at h;rw[Fr.sY];cases hm:mem k ws
  .simp only[hm,cond_false]at h
   rw[Fr.sY]at h;by_cases e:k=n
   .subst e
    simp only[if_true]at h⊢;exact⟨h,λd=>by
     have:∀{n:Nat} {l:List Nat},n∈l->mem n l=true:=by
      intro n l
      induction l with
      |nil=>intro h;cases h
      |cons k r b=>
       intro h;simp only[mem];cases hb:Nat.beq k n
       .simp only[cond_false]
        rcases eJ.1 h with rfl|h
        .rw[fH.2 rfl]at hb;cases hb
        .exact b h
       .rfl
     rw[this d]at hm;cases hm⟩
   .simp only[e,if_false]at h⊢
    exact zI h
  .simp only[hm,cond_true]at h
   by_cases e:k=n
   .subst e
    exfalso;have c:=(zI h).2;have:∀{n:Nat} {l:List Nat},mem n l=true->n∈l:=by
     intro n l
     induction l with
     |nil=>intro h;cases h
     |cons k r b=>
      intro h;simp only[mem]at h;cases hb:Nat.beq k n
      .simp only[hb,cond_false]at h;exact dZ _ (b h)
      .rw[fH.1 hb];exact cX ..
    exact c (this hm)
   .simp only[e,if_false]
    exact zI h
def Hh:List Nat->Bool
 |[]=>true
 |n::r=>!mem n r && Hh r
def aj:List Nat->List Nat->Bool
 |[],[]=>true
 |a::r,b::s=>Nat.beq a b && aj r s
 |_,_=>false
def Lj(P:Program)(An:TB)(n:Nat):Code->Bool
 | .region id ops draw=>OS (An.uo id) (Mw ops.toList) && ((Mw ops.toList).all (λd=>Nat.blt d n) && (bif draw then (match An.order id with
   |some (ls,loose)=>QH P ops ls loose
   |none=>false) else true))
 | .seq a b=>OS ((vT b).bind An.join) (writes a) && ((match (vT b).bind An.join with
   |some _=>!eP a
   |none=>true) && (Lj P An n a && Lj P An n b))
 |.cond _ a b=>Lj P An n a && Lj P An n b
 |.block _ b=>Lj P An n b
 |.loop b=>OS ((VC b).bind An.loop) (writes b) && (!eP b && Lj P An n b)
 | .rangeFunc _ ps a b=>Hh ps.toList && (ps.toList.all (λd=>Nat.blt d n) && ((match ps.toList with
   |[]=>false
   | p::_=>match An.vw p with
    |some (po,_)=>aj (po.map (·.1)) ps.toList
    |none=>false) && (!eP a && (!eP b && (Lj P An n a && Lj P An n b)))))
 |_=>true
theorem ZU{ro:Option Nat}{Q:Exit->Act->World->Prop}{w:World}{c:Code}{σ:Type}(I:σ->Act->World->Prop)(μ:σ->World->Nat)(s:σ)(D:I s a w)
  (round:∀s a w,I s a w->c.wpIn (Lm ro) 0 P (Exit.then (λj g=>∃v,I v j g/\μ v g<μ s w) Q) a w):(Code.loop c).wpIn (Lm ro) 0 P Q a w:=by
 intro b k cs u hb p;have key:∀n s a w,μ s w=n->I s a w ->
   ∃e j g,Q e j g/\ArrivesIn (Machine.fenced P (Lm ro)) P (lone (b.atR a (.code c :: .inLoop c::k)) cs w) b k cs e j g:=by
  intro n
  induction n using Nat.strongRecOn with
  |_ n E=>
   intro s a w C B;obtain⟨e,m,i,f,d⟩:=round s a w B b (.inLoop c::k) cs u hb p;cases e with
   |normal=>
    obtain⟨y,q,r⟩:=f;obtain⟨A,z,F,t,o⟩:=E (μ y i) (C ▸ r) y m i rfl q;exact⟨A,z,F,t, .of_steps (StepsIn.trans d (.one (fenced_calm hb p rfl) stepR_inLoop)) o⟩
   |exit id=>exact⟨_,m,i,f, .pass (x:=.inLoop c) rfl (λ_ _=>.inl (by simp)) d⟩
   |goto l=>exact⟨_,m,i,f, .pass (x:=.inLoop c) rfl (λ_ _=>.inl (by simp)) d⟩
   |ret=>exact⟨_,m,i,f, .pass (x:=.inLoop c) rfl (λ_ _=>.inl (by simp)) d⟩
   |panic ch=>exact⟨_,m,i,f, .pass (x:=.inLoop c) rfl (λ_ _=>.inl (by simp)) d⟩
   |outgrown=>exact⟨_,m,i,f, .pass (x:=.inLoop c) rfl (λ_ _=>.inl (by simp)) d⟩
 obtain⟨e,j,g,f,d⟩:=key _ s a w rfl D;exact⟨e,j,g,f, .of_steps (.one (fenced_calm hb p rfl) stepR_loop) d⟩
def QB(D:Nat):Deferred:={target:=.collected D,args:=#[]}
abbrev KY:=Nat->List Value->aE->Prop
def u_(D:Nat)(Q:KY):KY:=λt vs h=>h[D]?=some (.deferred (some []))/\Q t vs (h.setIfInBounds D (.deferred none))
structure fq(P:Program)(d:Deferred)(i:FuncId)(args:List Value):Prop where
 xr:∃fv cap,d.target = .fn fv cap
 inv:∀w:World,(invoke d.target d.args).run P w = .ok (.enter i args.toArray) w
def qm(P:Program)(i:FuncId)(args:List Value)(Q:KY):KY:=λt vs h=>xT P i args h λh'=>Q t vs h'
inductive Marks(P:Program)(D:Prop)(df:List Deferred)(Q:KY):List Deferred->KY->Prop
 |refl:Marks P D df Q df Q
 |push {df':List Deferred} {Q':KY} (B:Nat) (m:Marks P D df Q df' Q'):Marks P D df Q (QB B::df') (u_ B Q')
 |call {df':List Deferred} {Q':KY} {d:Deferred} {i:FuncId} {args:List Value} (hD:D) (hd:fq P d i args) (m:Marks P D df Q df' Q'):Marks P D df Q (d::df') (qm P i args Q')
theorem Marks.trans{D:Prop}{df d b:List Deferred}{Q g c:KY}(m:Marks P D df Q d g)(n:Marks P D d g b c):Marks P D df Q b c:=by
 induction n with
 |refl=>exact m
 |push B _ f=>exact .push B f
 |call i j _ f=>exact .call i j f
def oF:Code->Bool
 | .region _ ops draw=>match HZ ops.toList draw with
  |some _=>true
  |none=>false
 |.seq a b=>oF a || oF b
 |.cond _ a b=>oF a || oF b
 |.block _ b=>oF b
 |.loop b=>oF b
 |.rangeFunc _ _ a b=>oF a || oF b
 |_=>false
theorem SU:∀{l:List Oper} {o:Oper},Nh l=some o->0<l.length/\l[l.length-1]?=some o:=by
 intro l
 induction l with
 |nil=>intro o h;cases h
 |cons x l c=>
  intro o h;cases l with
  |nil=>simp only[Nh,fW]at h;subst h;simp
  |cons y l=>
   simp only[Nh]at h;obtain⟨d,b⟩:=c h;refine⟨by simp,?_⟩;simpa using b
theorem PQ{ops:List Oper}{draw:Bool}{o:Oper}{c:Call}(h:HZ ops draw=some (o,c)):draw=false/\0<ops.length/\ops[ops.length-1]?=some o/\o.op = .defer c:=by
 unfold HZ at h;cases draw with
 |true=>cases h
 |false=>
  simp only[cond_false]at h;split at h
  .rename_i j g
   split at h
   .rename_i i f
    simp only[fW,oL]at h;obtain⟨rfl,rfl⟩:=h;obtain⟨b,d⟩:=SU g;exact⟨rfl,b,d,f⟩
   .cases h
  .cases h
theorem mem_iff{n:Nat}{l:List Nat}:mem n l=true↔n∈l:=by
 induction l with
 |nil=>simp[mem]
 |cons k r b=>
  simp only[mem,eJ];cases hb:Nat.beq k n
  .have:k≠n:=λe=>by rw[fH.2 e]at hb;cases hb
   simp only[cond_false,b];exact⟨λh=>.inr h,λh=>h.resolve_left (λe=>this e.symm)⟩
  .simp only[cond_true,true_iff]
   exact .inl (fH.1 hb).symm
theorem S3{f:Fr}:∀{ks:List Nat} {n:Nat} {v:Value},(f.only ks).get n=some v->f.get n=some v/\n∈ks:=by
 intro ks
 induction ks with
 |nil=>intro n v h;simp[Fr.only,Fr.get]at h
 |cons k ks b=>
  intro n v h;simp only[Fr.only]at h;split at h
  .rename_i u hu
   rw[Fr.sY]at h;by_cases e:k=n
   .subst e
    simp only[if_true]at h;rw[<-h];exact⟨hu,cX ..⟩
   .simp only[e,if_false]at h
    exact⟨(b h).1,dZ _ (b h).2⟩
  .exact⟨(b h).1,dZ _ (b h).2⟩
theorem Np{f:Fr}:∀{ks:List Nat} {K:Fr->aK},Fr.No f ks K=K (f.only ks):=by
 intro ks
 induction ks with
 |nil=>intro K;rfl
 |cons k ks b=>
  intro K;simp only[Fr.No,Fr.only];split
  .exact b
  .exact b
theorem rQ.only{f:Fr}{a:Act}(h:rQ f a)(ks:List Nat):rQ (f.only ks) a:=λn v b=>h n v (S3 b).1
theorem G7(f:Fr){ks ws:List Nat}(g:j8 ks ws=true):uD (rQ (f.only ks)) ws:=by
 intro a d v b h n u hu;have i:=(S3 hu).2;have c:d≠n:=λe=>by
  have:=FF.1 g n i;rw[mem_iff.2 (e ▸ b)]at this;cases this
 simp[Act.put,zY c,h n u hu]
theorem uD.and{b:Act->Prop}{ws:List Nat}(h:uD G ws)(h':uD b ws):uD (λa=>G a/\b a) ws:=
 λa d v c f=>⟨h a d v c f.1,h' a d v c f.2⟩
theorem uD.sub{ws b:List Nat}(h:uD G ws)(g:∀d,d∈b->d∈ws):uD G b:=λa d v c f=>h a d v (g d c) f
theorem DB{aD f:Fr}(hb:rQ aD a)(j:rQ f a):∀{outs:zM} {x:Ts.den (AD outs)},P3 f outs=some (Ts.inj (AD outs) x)->rQ (Gq aD outs x) a:=by
 intro outs
 induction outs with
 |nil=>intro x h;exact hb
 |cons p outs m=>
  intro x h;obtain⟨k,t⟩:=p;simp only[P3]at h;split at h
  .rename_i v vs g i
   have e:=dW h;have c:v=t.inj x.1:=(J7 e).1;have d:vs=Ts.inj (AD outs) x.2:=(J7 e).2;subst c d;have l:rQ (Gq aD outs x.2) a:=m i;intro n u hu;have b:Fr.get ((k,t.inj x.1)::Gq aD outs x.2) n=some u:=hu;rw[Fr.sY]at b;by_cases e:k=n
   .subst e
    simp only[if_true,fW]at b;rw[<-b];exact j _ _ g
   .simp only[e,if_false]at b
    exact l n u b
  .cases h
def Zb(An:TB)(CV:Option zM):Ex->Option zM
 |.CV=>CV
 |.ret=>some An.res
 |.ex id=>some (An.Ml id)
theorem J1{e e':Ex}(h:wR e=wR e'):e=e':=by
 cases e<;>cases e'<;>simp[wR]at h<;>first|rfl|(subst h;rfl)|omega
section
variable{P:Program}{An:TB}
variable{e:Ex}{h:aE}{Qp:Nat->List Value->aE->Prop}{vs:List Value}{Γ:Ctx}{G:Act->Prop}{a:Act}
theorem JE{outs:zM}{f:Fr}(hw:wp P (encode An outs e f) h Qp) :
  ∃o vs,Zb An (some outs) e=some o/\P3 f o=some vs/\Qp (wR e) vs h:=by
 cases e<;>simp only[encode]at hw<;>(split at hw<;>first|exact hw.elim|skip)
 all_goals
  rename_i vs b;exact⟨_,vs,rfl,b,hw⟩
theorem FY{CV:Option zM}{aD:Fr}{K:Ex->Fr->aK}:∀{es:List Nat},
  wp P (decode An CV aD K es (wR e) vs) h Qp->∃o x,Zb An CV e=some o/\vs=Ts.inj (AD o) x/\wp P (K e (Gq aD o x)) h Qp:=by
 intro es
 induction es with
 |nil=>
  intro hw;simp only[decode]at hw;split at hw
  .rename_i outs
   cases hb:Nat.beq (wR e) 0
   .simp only[aR,jC,hb,cond_false]at hw;exact hw.elim
   .simp only[aR,jC,hb,cond_true]at hw
    have:e = .CV:=J1 (fH.1 hb);subst this;obtain⟨x,b,hw⟩:=hw;exact⟨outs,x,rfl,b,hw⟩
  .exact hw.elim
 |cons k es c=>
  intro hw;cases k with
  |zero=>
   simp only[decode]at hw;cases hb:Nat.beq (wR e) 1
   .simp only[aR,jC,hb,cond_false]at hw;exact c hw
   .simp only[aR,jC,hb,cond_true]at hw
    have:e = .ret:=J1 (fH.1 hb);subst this;obtain⟨x,b,hw⟩:=hw;exact⟨An.res,x,rfl,b,hw⟩
  |succ id=>
   simp only[decode]at hw;cases hb:Nat.beq (wR e) (id+2)
   .simp only[aR,jC,hb,cond_false]at hw;exact c hw
   .simp only[aR,jC,hb,cond_true]at hw
    have:e = .ex id:=J1 (fH.1 hb);subst this;obtain⟨x,b,hw⟩:=hw;exact⟨An.Ml id,x,rfl,b,hw⟩
theorem UN{pP:List Nat}{ops:List Oper}{loose:List (Nat×Nat)}{f:Fr}{K:Fr->aK}:∀{ls:List (List Nat)},
  wp P (UM P Γ pP ops loose f K ls) h Qp->∀L,L∈ls->wp P (C6 P Γ pP true ops loose L [] f K) h Qp:=by
 intro ls
 induction ls with
 |nil=>intro _ L b;cases b
 |cons l ls g=>
  intro hw L b;cases ls with
  |nil=>obtain rfl:=dE.1 b;exact hw
  |cons m ls=>
   obtain⟨c,d⟩:=hw;rcases eJ.1 b with rfl|b
   .exact c
   .exact g d L b
theorem Fz{ro:Option Nat}(t:Kf P Γ)(hm:P.follows .mixedOrders=true){n:Nat}{id:Nat}{ops:Array Oper}{draw:Bool}(k:Lj P An n (.region id ops draw)=true){w0:World} 
  {f:Fr} {K:Fr->aK} {Q:Exit->Act->World->Prop} {w:World} (p:uD G (Mw ops.toList))
  (j:St w0 G n f a w) (hw:wp P (Fy P Γ An id ops.toList draw f K) w.heap Qp)
  (q:∀f a w,St w0 G n f a w->wp P (K f) w.heap Qp->Q .normal a w):(Code.region id ops draw).wpIn (Lm ro) 0 P Q a w:=by
 simp only[Lj,hP]at k;obtain⟨-, v,l⟩:=k;have b:∀(i:Nat) o d,ops[i]?=some o->o.dst=some d->d<n/\d∈Mw ops.toList:=by
  intro i o d hi r;have c:d∈Mw ops.toList:=List.mem_filterMap.2 ⟨o,by
   have:ops.toList[i]?=some o:=by simpa using hi
   exact eL this,r⟩
  exact⟨fO (FF.1 v d c),c⟩
 cases draw
 .simp only[Fy,cond_false]at hw
  refine wpIn_region (Xs (dr:=false) (loose:=[]) _ [] a w ?_);have:=Fx (P:=P) (dr:=false) t (R:=Q .normal) b p q (List.range ops.toList.length) [] [] f a w trivial j hw;simpa using this
 .simp only[Fy,cond_true]at hw l
  have s:St w0 G n f a w.drew:=⟨j.fr,j.sz,j.env.trans (Yk w),j.g⟩;split at hw
  .rename_i ls loose m
   simp only[m]at l;refine QO hm l λL u=>?_;exact Fx (P:=P) (dr:=true) t (R:=Q .normal) b p q L [] [] f a w.drew trivial s (UN hw L u)
  .exact hw.elim
theorem YN{ws:List Nat}(h:uD G ws)(df:List Deferred):uD (λa=>G a/\a.defers=df) ws:=
 λa d v c b=>⟨h a d v c b.1,b.2⟩
def px(G:Act->Prop):Prop:=∀a d,G a->G {a with defers:=d}
theorem W1{p:Nat}{r:List Nat}(h:Hh (p::r)=true):p∉r/\Hh r=true:=by
 simp only[Hh,hP,Cn]at h;exact⟨λhm=>by rw[mem_iff.2 hm]at h;exact absurd h.1 (by simp),h.2⟩
theorem U9:∀{l m:List Nat},aj l m=true->l=m
 |[],[],_=>rfl
 |a::r,b::s,h=>by
  simp only[aj,hP]at h;rw[fH.1 h.1,U9 h.2]
theorem Uk(l:List (Nat×Value)):∀t:Array Value,(l.foldl (λt (x:Nat×Value)=>t.setIfInBounds x.1 x.2) t).size=t.size:=by
 induction l with
 |nil=>intro t;rfl
 |cons x l b=>intro t;rw[Cj,b];simp
theorem KE(l:List (Nat×Value)){k:Nat}:∀t:Array Value,(∀x,x∈l->x.1≠k)->(l.foldl (λt (x:Nat×Value)=>t.setIfInBounds x.1 x.2) t)[k]?=t[k]? := by
 induction l with
 |nil=>intro t _;rfl
 |cons x l c=>
  intro t h;rw[Cj,c _ λy b=>h y (dZ _ b),zY (h x (cX ..))]
theorem W5{f:Fr}:∀(c:zM) (x:Ts.den (AD c)) (t:Array Value),Hh (c.map (·.1))=true->(∀p,p∈c->p.1<t.size)->(∀n v,f.get n=some v->t[n]?=some v) ->
  ∀n v,(Gq f c x).get n=some v->(((c.map (·.1)).zip (Ts.inj (AD c) x)).foldl (λt (x:Nat×Value)=>t.setIfInBounds x.1 x.2) t)[n]?=some v:=by
 intro c
 induction c with
 |nil=>intro x t _ _ h n v o;exact h n v o
 |cons p c F=>
  intro x t D w h n v o;obtain⟨k,ty⟩:=p;obtain⟨s,q⟩:=W1 (p:=k) (r:=c.map (·.1)) (show Hh (k::c.map (·.1))=true from D);have d:Fr.get ((k,ty.inj x.1)::Gq f c x.2) n=some v:=o;rw[Fr.sY]at d;show((List.zip (c.map (·.1)) (Ts.inj (AD c) x.2)).foldl _ (t.setIfInBounds k (ty.inj x.1)))[n]?=some v;by_cases e:k=n
  .subst e
   simp only[if_true,fW]at d;subst d;rw[KE]
   .have:=w (k,ty) (cX ..)
    dsimp only at this;simp[this]
   .intro y g he
    refine s ?_;rw[<-he];exact(Rc (a:=y.1) (b:=y.2) g).1
  .simp only[e,if_false]at d
   have j:∀m u,(Gq f c x.2).get m=some u->m≠k->((List.zip (c.map (·.1)) (Ts.inj (AD c) x.2)).foldl (λt (x:Nat×Value)=>t.setIfInBounds x.1 x.2) (t.setIfInBounds k (ty.inj x.1)))[m]?=some u:=by
    intro m u hu hm;have B:=F x.2 t q (λp E=>w p (dZ _ E)) h m u hu;have key:∀(l:List (Nat×Value)) (t:Array Value),k∉l.map (·.1)->(l.foldl (λt (x:Nat×Value)=>t.setIfInBounds x.1 x.2) (t.setIfInBounds k (ty.inj x.1)))[m]?=(l.foldl (λt (x:Nat×Value)=>t.setIfInBounds x.1 x.2) t)[m]? := by
     intro l
     induction l with
     |nil=>intro t _;rw[List.foldl_nil,List.foldl_nil,zY (Ne.symm hm)]
     |cons y l z=>
      intro t g;simp only[fK,eJ,not_or]at g;rw[Cj,Cj];have C:(t.setIfInBounds k (ty.inj x.1)).setIfInBounds y.1 y.2=(t.setIfInBounds y.1 y.2).setIfInBounds k (ty.inj x.1):=Array.setIfInBounds_comm _ _ g.1;rw[C];exact z _ g.2
    rw[key _ _ (λi=>?_)]
    .exact B
    .obtain⟨y,g,he⟩:=dC.1 i
     refine s ?_;rw[<-he];exact(Rc (a:=y.1) (b:=y.2) g).1
   exact j n v d (λA=>e A.symm)
theorem WW{K:Ex->aK}{Qp:KY}:∀{es:List Nat} {j:Nat},wp P (leaves K es j) h Qp->∃e,j=wR e/\wp P (K e) h Qp:=by
 intro es
 induction es with
 |nil=>
  intro j hw;simp only[leaves]at hw;cases hb:Nat.beq j 0
  .simp only[aR,jC,hb,cond_false]at hw;exact hw.elim
  .simp only[aR,jC,hb,cond_true]at hw;exact⟨.CV,fH.1 hb,hw⟩
 |cons k es b=>
  intro j hw;cases k with
  |zero=>
   simp only[leaves]at hw;cases hb:Nat.beq j 1
   .simp only[aR,jC,hb,cond_false]at hw;exact b hw
   .simp only[aR,jC,hb,cond_true]at hw;exact⟨.ret,fH.1 hb,hw⟩
  |succ id=>
   simp only[leaves]at hw;cases hb:Nat.beq j (id+2)
   .simp only[aR,jC,hb,cond_false]at hw;exact b hw
   .simp only[aR,jC,hb,cond_true]at hw;exact⟨.ex id,fH.1 hb,hw⟩
theorem YM(e:Ex):AZ (wR e)=match e with|.CV=>none|.ret=>some .ret|.ex id=>some (.exit id):=by cases e<;>rfl
theorem S4(w:World)(l:Nat)(o:Obj):(w.putObj l o).heap=w.heap.setIfInBounds l o:=rfl
theorem DC(w:World)(l:Nat)(o:Obj):Env w (w.putObj l o):=⟨rfl,rfl,rfl⟩
theorem Po{D:Prop}(hΓ:Kf P Γ)(hm:P.follows .mixedOrders=true){n:Nat}:∀(c:Code),Lj P An n c=true->∀{w0:World} {ro:Option Nat} {df:List Deferred} {G:Act->Prop} {f:Fr} {K:Ex->Fr->aK}
  {Qp:KY} {Q:Exit->Act->World->Prop} {a:Act} {w:World},uD G (writes c)->px G->(eP c=true->ro=none)->(oF c=true->D)->St w0 (λa=>G a/\a.defers=df) n f a w->wp P (RE P Γ An c f K) w.heap Qp ->
  (∀e f a w C B,Marks P D df Qp C B->(eP c=false->C=df/\B=Qp)->St w0 (λa=>G a/\a.defers=C) n f a w->wp P (K e f) w.heap B->Q (UP e) a w)->c.wpIn (Lm ro) 0 P Q a w:=by
 intro c
 induction c with
 |skip=>intro z w0 ro df G f K Qp Q a w E F J H l hw A;exact wpIn_skip (A _ _ _ _ _ _ .refl (λ_=>⟨rfl,rfl⟩) l hw)
 |region id ops draw=>
  intro z w0 ro df G f K Qp Q a w E F J H l hw A;have E:=YN E df;simp only[RE]at hw;split at hw
  .rename_i o c bd
   have hr:eP (.region id ops draw)=true:=by simp[eP,bd]
   have e7:D:=H (by simp[oF,bd]);obtain rfl:=J hr;obtain⟨rfl,hc,b6,gw⟩:=PQ bd;have bo:∀(i:Nat) o d,ops[i]?=some o->o.dst=some d->d<n/\d∈Mw ops.toList:=by
    simp only[Lj,hP]at z;intro i o d hi gm;have bs:d∈Mw ops.toList:=List.mem_filterMap.2 ⟨o,by
     have:ops.toList[i]?=some o:=by simpa using hi
     exact eL this,gm⟩
    exact⟨fO (FF.1 z.2.1 d bs),bs⟩
   have a3:ops[ops.toList.length-1]?=some o:=by simpa using b6
   refine wpIn_region ?_;have bt:List.range ops.size=List.range (ops.toList.length-1)++[ops.toList.length-1]:=by
    have:ops.size=(ops.toList.length-1)+1:=by rw[<-Re];omega
    rw[this,LL]
   rw[bt];refine UW (dr:=false) (loose:=[]) (R:=λa w=>wpOpsIn (Lm none) 0 P ops Q [ops.toList.length-1] a w) (λ_ _ h=>h) _ [] a w ?_;refine Fx (P:=P) (dr:=false) hΓ bo E (λf' O S q L=>?_) (List.range (ops.toList.length-1)) [] [] f a w trivial l hw;simp only[wpOpsIn,a3];split at L
   .rename_i g fl c8
    split at L
    .rename_i i first cap ao hg b2
     split at L
     .rename_i y hy
      obtain⟨m,tys⟩:=y;obtain⟨aw, -⟩:=hΓ _ _ _ _ hy;have g7:Region.wanted o (yielded ops O.tmps)=true:=by simp[Region.wanted,fl]
      simp only[g7,if_true];refine⟨λ_ _=>trivial,?_⟩
      let d:Deferred:={target:=.fn (.func i) cap,args:=first++ao.toArray}
      have ey:(o.semAt (Lm none).round O.eval).run P S = .ok (.defer d) S:=by
       have V:(resolve O.eval c o.type).run P S = .ok d S:=by
        rw[yH (a:=O) q.fr c8 hg b2 o.type];rfl
       show(execOp O.eval o).run P S=_;unfold execOp;simp only[gw,Sem.run_bind,V,Result.andThen_ok,Sem.run_pure]
      rw[ey];rw[Oper.uponIn_defer];have c9:fq P d i (first.toList++ao++cap.toList):=⟨⟨_,_,rfl⟩,λw=>by
       have:=aw (first++ao.toArray++cap) w;simp only[d,invoke,this]
       congr 2
       apply xR.1;simp⟩
      have bb:St w0 (λa=>G a/\a.defers=d::df) n f' {O with defers:=d::O.defers} S:=⟨q.fr,q.sz,q.env,F _ _ q.g.1,by rw[<-q.g.2]⟩;have b8:∀k,o.dst=some k->k<n/\k∈Mw ops.toList:=λk X=>bo _ o k a3 X;have ba:uD (λa=>G a/\a.defers=d::df) (Mw ops.toList):=λa k v X hg=>⟨(E {a with defers:=df} k v X ⟨F _ _ hg.1,rfl⟩).1 |> λh=>by
       have:=F _ (d::df) h;simpa[Act.put,hg.2] using this,hg.2⟩
      exact A .CV _ _ _ _ _ (.call e7 c9 .refl) (λh=>by rw[hr]at h;cases h) (bb.put ba b8 (Env.refl _) undef) L
     .exact L.elim
    .exact L.elim
   .exact L.elim
  split at hw
  .exact Fz hΓ hm z E l hw λf a w l hw=>A .CV f a w _ _ .refl (λ_=>⟨rfl,rfl⟩) l hw
  .rename_i outs aP ho
   rw[Np]at hw;have ab:j8 aP (Mw ops.toList)=true:=by
    have M:=z;simp only[Lj,hP,ho,OS]at M;exact M.1
   have a0:=E.and (G7 f ab);refine Fz (G:=λa=>(G a/\a.defers=df)/\rQ (f.only aP) a) hΓ hm z a0 ⟨l.fr,l.sz,l.env,l.g,l.fr.only _⟩ hw λf' O S q L=>?_;obtain⟨o,vs,V,M,h3⟩:=JE L;obtain⟨o',x,h4,rfl,h5⟩:=FY (e:=.CV) h3;obtain rfl:o=o':=dW (V.symm.trans h4);exact A .CV _ _ _ _ _ .refl (λ_=>⟨rfl,rfl⟩) ⟨DB q.g.2 q.fr M,q.sz,q.env,q.g.1⟩ h5
 |seq c d a9 b1=>
  intro z w0 ro df G f K Qp Q a w E F J H l hw A;simp only[Lj,hP]at z;obtain⟨ab,a8,z⟩:=z;have cf:uD G (writes c):=E.sub λd W=>oM _ W;have ba:uD G (writes d):=E.sub λd W=>pZ _ W;have cr:eP c=true->ro=none:=λh=>J (by simp[eP,h]);have e6:eP d=true->ro=none:=λh=>J (by simp[eP,h]);have cd:oF c=true->D:=λh=>H (by simp[oF,h]);have e4:oF d=true->D:=λh=>H (by simp[oF,h]);refine wpIn_seq ?_;have cg:∀e f a w C B,Marks P D df Qp C B->(eP c=false->C=df/\B=Qp)->St w0 (λa=>G a/\a.defers=C) n f a w ->
    wp P ((λe f'=>match e with|.CV=>RE P Γ An d f' K|e=>K e f':Ex->Fr->aK) e f) w.heap B->Exit.then (d.wpIn (Lm ro) 0 P Q) Q (UP e) a w:=by
   intro e f a w C B a7 a4 l hw;cases e with
   |CV=>exact b1 z.2 ba F e6 e4 l hw λe f a w e3 e2 ft fy l hw=>A e f a w e3 e2 (a7.trans ft) (λh=>by
     simp only[eP,Ck]at h;obtain⟨r1,r2⟩:=a4 h.1;obtain⟨r3,r4⟩:=fy h.2;exact⟨r3.trans r1,r4.trans r2⟩) l hw
   |ex id=>exact A (.ex id) f a w C B a7 (λh=>by simp only[eP,Ck]at h;exact a4 h.1) l hw
   |ret=>exact A .ret f a w C B a7 (λh=>by simp only[eP,Ck]at h;exact a4 h.1) l hw
  simp only[RE]at hw;split at hw
  .exact a9 z.1 cf F cr cd l hw cg
  .rename_i outs aP ho
   rw[Np]at hw;simp only[ho,OS]at ab;simp only[ho,Cn]at a8;have a0:=cf.and (G7 f ab);refine a9 z.1 (G:=λa=>G a/\rQ (f.only aP) a) a0 (λa d h=>⟨F a d h.1,h.2⟩) cr cd ⟨l.fr,l.sz,l.env,⟨l.g.1,l.fr.only _⟩,l.g.2⟩ hw λe f' O S C B a7 a4 q L=>?_;obtain⟨rfl,rfl⟩:=a4 a8;obtain⟨o,vs,V,M,h3⟩:=JE L;obtain⟨o',x,h4,rfl,h5⟩:=FY h3;obtain rfl:o=o':=dW (V.symm.trans h4);exact cg e _ _ _ _ _ .refl (λ_=>⟨rfl,rfl⟩) ⟨DB q.g.1.2 q.fr M,q.sz,q.env,q.g.1.1,q.g.2⟩ h5
 |cond x c d a9 b1=>
  intro z w0 ro df G f K Qp Q a w E F J H l hw A;simp only[Lj,hP]at z;simp only[RE]at hw;split at hw
  .rename_i t ht
   have he:=bS l.fr ht;cases t
   .simp only[aR,cond_false]at hw
    exact wpIn_cond_false he (b1 z.2 (E.sub λd W=>pZ _ W) F (λh=>J (by simp[eP,h])) (λh=>H (by simp[oF,h])) l hw λe f a w C B Y U=>A e f a w C B Y (λh=>U (by simp only[eP,Ck]at h;exact h.2)))
   .simp only[aR,cond_true]at hw
    exact wpIn_cond_true he (a9 z.1 (E.sub λd W=>oM _ W) F (λh=>J (by simp[eP,h])) (λh=>H (by simp[oF,h])) l hw λe f a w C B Y U=>A e f a w C B Y (λh=>U (by simp only[eP,Ck]at h;exact h.1)))
  .exact hw.elim
 |block id c ih=>
  intro z w0 ro df G f K Qp Q a w E F J H l hw A;refine wpIn_block (ih z E F J H l hw λe f a w C B Y U l hw=>?_);cases e with
  |CV=>exact A .CV f a w _ _ Y U l hw
  |ret=>exact A .ret f a w _ _ Y U l hw
  |ex j=>
   simp only at hw;simp only[UP,Exit.inBlock];by_cases e:j=id
   .subst e
    simp only[fH.2 rfl,cond_true]at hw;simp only[if_true];exact A .CV f a w _ _ Y U l hw
   .simp only[VG e,cond_false]at hw
    simp only[e,if_false];exact A (.ex j) f a w _ _ Y U l hw
 |loop c ih=>
  intro z w0 ro df G f K Qp Q a w E F J H l hw A;simp only[RE]at hw;split at hw
  .exact hw.elim
  .rename_i outs aP ho
   split at hw
   .exact hw.elim
   .rename_i vs b0
    split at hw
    .exact hw.elim
    rename_i s0 g1;obtain rfl:=Ts.Az g1;rw[Np]at hw;obtain⟨I,μ,h0,hr⟩:=hw;simp only[Lj,hP,ho,OS,Cn]at z;obtain⟨ab,a8,z⟩:=z;have a0:=E.and (G7 f ab);refine ZU (I:=λs a w=>I s w.heap/\St w0 (λa=>(G a/\rQ (f.only aP) a)/\a.defers=df) n (Gq (f.only aP) outs s) a w) (μ:=λs w=>μ s w.heap) s0
     ⟨h0,DB (l.fr.only _) l.fr b0,l.sz,l.env,⟨l.g.1,l.fr.only _⟩,l.g.2⟩ λs a w hi=>?_
    refine ih z a0 (λa d h=>⟨F a d h.1,h.2⟩) J H hi.2 (hr s w.heap hi.1) λe f' O S C B Y U q L=>?_;obtain⟨rfl,rfl⟩:=U a8;obtain⟨o,vs,V,M,h3⟩:=JE L;cases e with
    |CV=>
     obtain⟨s',rfl,hI,hμ⟩:=h3.1 rfl;obtain rfl:=dW V;exact⟨s',⟨hI,DB q.g.1.2 q.fr M,q.sz,q.env,q.g⟩,hμ⟩
    |ret=>
     obtain⟨o',x,h4,rfl,h5⟩:=FY (e:=.ret) (h3.2 (by simp[wR]));obtain rfl:o=o':=dW (V.symm.trans h4);exact A .ret _ _ _ _ _ .refl (λ_=>⟨rfl,rfl⟩) ⟨DB q.g.1.2 q.fr M,q.sz,q.env,q.g.1.1,q.g.2⟩ h5
    |ex id=>
     obtain⟨o',x,h4,rfl,h5⟩:=FY (e:=.ex id) (h3.2 (by simp[wR]));obtain rfl:o=o':=dW (V.symm.trans h4);exact A (.ex id) _ _ _ _ _ .refl (λ_=>⟨rfl,rfl⟩) ⟨DB q.g.1.2 q.fr M,q.sz,q.env,q.g.1.1,q.g.2⟩ h5
 |exit id=>intro z w0 ro df G f K Qp Q a w E F J H l hw A;exact wpIn_exit (A (.ex id) _ _ _ _ _ .refl (λ_=>⟨rfl,rfl⟩) l hw)
 |ret=>intro z w0 ro df G f K Qp Q a w E F J H l hw A;exact wpIn_ret (A .ret _ _ _ _ _ .refl (λ_=>⟨rfl,rfl⟩) l hw)
 |rangeFunc g ps Z b g8 g9=>
  intro z w0 ro df G f K Qp Q a w E F J H l hw A;obtain rfl:=J rfl;simp only[RE]at hw;split at hw
  .exact hw.elim
  rename_i p0 pr c6;split at hw
  .rename_i fv N outs fj er
   simp only[Lj,hP,c6,er,Cn]at z;obtain⟨c5,ct,T,cx,c4,eg,eh⟩:=z;have T:=U9 T;rw[<-c6]at T c5 ct;refine wpIn_rangeFunc λfn _=>?_;have dx:a.eval g=fv:=bS l.fr fj
   let r:Loop:={state:=.ready,pending:=none,fn,tmps:=a.tmps,params:=ps,assign:=Z,body:=b,defers:=w.heap.size}
   let w1:World:=(w.alloc (.deferred (some []))).alloc (.loop r)
   have bp:=run_enterLoop_outer (P:=P) (w:=w) fn a.tmps ps Z b;have g4:w1.heap=(w.heap.push (.deferred (some []))).push (.loop r):=rfl;refine Exists.elim (hw r rfl rfl (λx M R g0 c7=>?round) w1 g4) λd W=>?main
   case main=>
    obtain⟨gf,as,gv,hinv,aw⟩:=W;refine⟨w.heap.size+1,[QB w.heap.size],w1,d,w1,gf,as,w1,bp,?_,λ_ _=>trivial,hinv,(λh=>by cases h),Kk (Calls.mono aw λe w3 he=>?_)⟩
    .simp only[resolve,dx,Rf]
     simp[Act.eval];exact gv
    obtain⟨vs,rfl,ds,j,ei,X⟩:=he;have ec:(zC r j).state ≠ .busy:=by
     unfold zC;dsimp only;split<;>simp
    have de:=run_endLoop (P:=P) ei ec;refine⟨(zC r j).pending,_,de,?_⟩;obtain⟨e,rfl,fm⟩:=WW X;have bb:St w0 (λO=>G O/\O.defers=QB w.heap.size::df) n f {a with defers:=[QB w.heap.size]++a.defers} (w3.putObj (w.heap.size+1) (.loop {zC r (wR e)with state:=.exhausted})):=
     ⟨l.fr,l.sz,((l.env.trans (show Env w w1 from⟨rfl,rfl,rfl⟩)).trans ds).trans (DC _ _ _),F _ _ l.g.1,by rw[<-l.g.2];rfl⟩
    have hq:=A e f _ _ _ _ (.push w.heap.size .refl) (λh=>by simp[eP]at h) bb fm;have hj:(zC r (wR e)).pending=AZ (wR e):=rfl;rw[hj,YM];cases e with
    |CV=>exact hq
    |ret=>exact wpIn_ret hq
    |ex id=>exact wpIn_exit hq
   case round=>
    intro w2 g5;subst g5;refine⟨{target:=.fn (.yield (w.heap.size+1)) #[],args:=#[]++(Ts.inj (AD N) x).toArray},rfl, .inr ⟨w.heap.size+1,r.fn,_,r.assign,r.body,run_yield g0 ?_,?_⟩⟩
    .have:(Ts.inj (AD N) x).length=N.length:=by
      have:∀{ts:List Ty} (x:Ts.den ts),(Ts.inj ts x).length=ts.length:=by
       intro ts
       induction ts with
       |nil=>intro x;rfl
       |cons t ts ih=>intro x;simp[Ts.inj,ih]
      rw[this];simp[AD]
     have M:ps.size=N.length:=by rw[<-Re,<-T,cD]
     simp[this,M,r]
    refine roundIn_of_wpIn trivial ?_;rw[ix];have g3:(r.params.zip (#[]++(Ts.inj (AD N) x).toArray)).foldl (λtmps (t,a)=>tmps.setIfInBounds t a) r.tmps=((N.map (·.1)).zip (Ts.inj (AD N) x)).foldl (λt (x:Nat×Value)=>t.setIfInBounds x.1 x.2) a.tmps:=by
     rw[T,<-Array.foldl_toList];simp[r]
    rw[g3];have e1:=Uk ((N.map (·.1)).zip (Ts.inj (AD N) x)) a.tmps;have e9:rQ (Gq f N x) {tmps:=((N.map (·.1)).zip (Ts.inj (AD N) x)).foldl (λt (x:Nat×Value)=>t.setIfInBounds x.1 x.2) a.tmps,defers:=[]}:=by
     refine W5 N x a.tmps (by rw[T];exact c5) (λp hp=>?_) l.fr;have:p.1∈ps.toList:=by rw[<-T];exact wF hp
     have:=FF.1 ct _ this;have:=fO this;rw[l.sz];omega
    have b3:uD (rQ (Fr.AE f (ps.toList++writes Z))) (writes Z):=λa d v W hf k u X=>by
     have gg:d≠k:=λe=>(zI X).2 (pZ _ (e ▸ W));simp[Act.put,zY gg,hf k u X]
    have e8:rQ (Fr.AE f (ps.toList++writes Z)) {tmps:=((N.map (·.1)).zip (Ts.inj (AD N) x)).foldl (λt (x:Nat×Value)=>t.setIfInBounds x.1 x.2) a.tmps,defers:=[]}:=λk u X=>by
     obtain⟨V,M⟩:=zI X;show(List.foldl _ _ _)[k]?=some u;rw[KE]
     .exact l.fr k u V
     .intro y hy he
      refine M (oM _ ?_);rw[<-he,<-T];exact(Rc (a:=y.1) (b:=y.2) hy).1
    refine g8 eg (w0:=w2) (ro:=some (w.heap.size+1)) (df:=[]) (G:=rQ (Fr.AE f (ps.toList++writes Z))) b3 (λ_ _ h=>h) (λh=>by rw[cx]at h;cases h) (λh=>H (by simp[oF,h])) ⟨e9,by rw[e1];exact l.sz,Env.refl _,e8,rfl⟩ c7 λe f1 a1 w3 C B Y U a5 al=>?_;obtain⟨rfl,rfl⟩:=U cx;cases e with
    |ret=>exact al.elim
    |ex id=>exact al.elim
    |CV=>
     simp only at al;split at al
     .rename_i vs b0
      obtain⟨-, y,rfl,b9,b4⟩:=al;refine⟨_,run_beginRound b9 rfl,?_⟩;refine g9 eh (w0:=w2) (ro:=some (w.heap.size+1)) (df:=[]) (G:=λ_=>True) (λ_ _ _ _ h=>h) (λ_ _ h=>h) (λh=>by rw[c4]at h;cases h) (λh=>H (by simp[oF,h])) ⟨DB a5.g.1 a5.fr b0,a5.sz,a5.env.trans (DC _ _ _),trivial,a5.g.2⟩ b4 λe f2 a2 w4 C B m2 n2 g2 g6=>?_;obtain⟨rfl,rfl⟩:=n2 c4;obtain⟨cc,e5⟩:=g6;have a6:∀jump:Option Code,jump=AZ (wR e)->∃v S,(Instr.endRound (w.heap.size+1) jump).run P w4 = .ok v S/\∃vs,Ending.returned v = .returned (Bb vs)/\Env w2 S/\R vs S.heap:=by
       rintro jump rfl;refine⟨_,_,run_endRound _ cc,[.bool (AZ (wR e)).isNone],rfl,g2.env.trans (DC _ _ _),?_⟩;rw[S4];exact e5
      cases e with
      |CV=>exact a6 none rfl
      |ret=>exact a6 (some .ret) rfl
      |ex id=>exact a6 (some (.exit id)) rfl
     .exact al.elim
  .exact hw.elim
 |scope=>intro z w0 ro df G f K Qp Q a w E F J H l hw A;exact hw.elim
 |label=>intro z w0 ro df G f K Qp Q a w E F J H l hw A;exact hw.elim
 |goto=>intro z w0 ro df G f K Qp Q a w E F J H l hw A;exact hw.elim
 |refuse=>intro z w0 ro df G f K Qp Q a w E F J H l hw A;exact hw.elim
theorem MN:∀{vs:List Value} {k n:Nat} {v:Value},(MM k vs).get n=some v->k<=n/\vs[n-k]?=some v:=by
 intro vs
 induction vs with
 |nil=>intro k n v h;simp[MM,Fr.get]at h
 |cons u vs c=>
  intro k n v h;simp only[MM,Fr.sY]at h;by_cases e:k=n
  .subst e
   simp only[if_true,fW]at h;simp[h]
  .simp only[e,if_false]at h
   obtain⟨d,b⟩:=c h;refine⟨by omega,?_⟩;have:n-k=(n-(k+1))+1:=by omega
   rw[this];simpa using b
def Ho(tmps:Array Value):ResultVar->Sem Value
 |.tmp t=>pure (tmps.getD t undef)
 |.cell x t=>do loadVar t (<-asAddr (tmps.getD x undef))
theorem GQ{f:Fr}{w:World}(g:rQ f a):∀{rs:List ResultVar} {K:List Value->aK} {Qp:Nat->List Value->aE->Prop},wp P (yI P f rs K) w.heap Qp ->
  ∃vs,(rs.mapM (Ho a.tmps)).run P w = .ok vs w/\wp P (K vs) w.heap Qp/\vs.length=rs.length:=by
 intro rs
 induction rs with
 |nil=>intro K Qp h;exact⟨[],by simp,h,rfl⟩
 |cons r rs k=>
  intro K Qp h;cases r with
  |tmp t=>
   simp only[yI]at h;split at h
   .rename_i v m
    obtain⟨vs,b,c,d⟩:=k h;refine⟨v::vs,?_,c,by simp[d]⟩;have i:a.tmps.getD t undef=v:=by simp[g _ _ m]
    simp only[LI,Sem.run_bind,Ho,Sem.run_pure,Result.andThen_ok,i];simp only[b,Result.andThen_ok]
   .exact h.elim
  |cell x t=>
   simp only[yI]at h;split at h
   .rename_i p ty n ht
    obtain⟨ad,rfl,y,l,h⟩:=h;obtain⟨vs,b,c,d⟩:=k h;refine⟨ty.inj y::vs,?_,c,by simp[d]⟩;have j:a.tmps.getD x undef = .pointer (some ad):=by simp[g _ _ n]
    simp only[LI,Sem.run_bind,Ho,j,asAddr,Sem.run_pure,Result.andThen_ok,Hd (P:=P) ht l];simp only[b,Result.andThen_ok]
   .exact h.elim
theorem Hp{fn:Func}{w:World}(h:(fn.results.toList.mapM (Ho a.tmps)).run P w = .ok vs w) :
  (results fn a.tmps).run P w = .ok (Bb vs) w:=by
 change (do let vs <-fn.results.mapM (Ho a.tmps);pure (if h:vs.size=1 then vs[0] else .tuple vs):Sem Value).run P w=_;rw[V0];simp only[Sem.run_bind,Sem.run_map,h,Result.andThen_ok]
 match vs with
 |[]=>rfl
 |[v]=>rfl
 |u::v::r=>rfl
def I8:List ResultVar->Bool
 |[]=>true
 |.tmp _::r=>I8 r
 |_=>false
theorem Tt{f:Fr}(g:rQ f a):∀{rs:List ResultVar} {K:List Value->aK} {Qp:KY} {h:aE},I8 rs=true->wp P (yI P f rs K) h Qp ->
  ∃vs,(∀w:World,(rs.mapM (Ho a.tmps)).run P w = .ok vs w)/\wp P (K vs) h Qp:=by
 intro rs
 induction rs with
 |nil=>intro K Qp h _ hw;exact⟨[],λw=>by simp,hw⟩
 |cons r rs j=>
  intro K Qp h ht hw;cases r with
  |tmp t=>
   simp only[yI]at hw;split at hw
   .rename_i v i
    obtain⟨vs,c,d⟩:=j ht hw;refine⟨v::vs,λw=>?_,d⟩;have b:a.tmps.getD t undef=v:=by simp[g _ _ i]
    simp only[LI,Sem.run_bind,Ho,Sem.run_pure,Result.andThen_ok,b];simp only[c,Result.andThen_ok]
   .exact hw.elim
  |cell x t=>cases ht
theorem Yz(T:Kf P Γ)(hm:P.follows .mixedOrders=true){i:FuncId}{fn:Func}{c:Code}(N:P.funcs[i]?=some fn)(hb:fn.body=some c){n:Nat}(O:fn.ntmps=n)(H:Lj P An n c=true)
  (p:(!eP c || I8 fn.results.toList)=true)
  {args:List Value} (ha:Nat.ble args.length n=true) {Q:List Value->aE->Prop} (hw:wp P (NM P Γ An fn args) h (λtag vs M=>tag=0/\Q vs M)):TD P i args h Q:=by
 intro w J;subst J;refine(callsIn_wide (n:=0)).1 (callsIn_of_wp_marks (F:=Fence.wide) N hb trivial ?_);rw[<-RG];simp only[NM,hb]at hw;have hle:args.length<=n:=fO ha;have I:(args.toArray++Array.replicate (fn.ntmps-args.toArray.size) undef).size=n:=by simp[O];omega
 refine Po (D:=True) (w0:=w) (df:=[]) (G:=λ_=>True) T hm c H (λ_ _ _ _ h=>h) (λ_ _ h=>h) (λ_=>rfl) (λ_=>trivial) ⟨?_,I,Env.refl w,trivial,rfl⟩ hw λe f a q V s U K o l=>?_
 .intro k v S
  obtain⟨h0,d⟩:=MN S;have u:k<args.length:=(eK.1 d).1;simp only[LM]at d;have b:args[k]=v:=by rw[cM u]at d;exact dW d
  simp[Array.getElem?_append,u,b]
 .have key:wp P (yI P f fn.results.toList λvs=>.ret 0 vs) q.heap s->LeavesInM (Lm none) 0 P fn a.tmps (λe x=>∃vs,e = .returned (Bb vs)/\Env w x/\Q vs x.heap) a.defers .returning q:=by
   intro z;rw[o.g.2];cases t:eP c
   .obtain⟨rfl,rfl⟩:=K t
    obtain⟨vs,d,b, -⟩:=GQ o.fr z;exact⟨Bb vs,Hp d,vs,rfl,o.env,b.2⟩
   .rw[t]at p
    obtain⟨vs,d,b⟩:=Tt o.fr (by simpa using p) z;have b:s 0 vs q.heap:=b;have j:=o.env;clear o l z K;generalize q=r at *
    induction U generalizing r with
    |refl=>exact⟨Bb vs,Hp (d r),vs,rfl,j,b.2⟩
    |push D m A=>
     refine⟨by simp, .inl ⟨D,_,rfl,run_takeDeferred b.1,?_⟩⟩;apply A
     all_goals first|exact b.2|exact j.trans (DC _ _ _)
    |call W C m A=>
     obtain⟨L,cap,y⟩:=C.xr;refine⟨by simp, .inr ⟨(λh=>by cases h),L,cap,_,_,y,C.inv r,λ_ _=>trivial,?_⟩⟩;have B:=b .returning r rfl;refine CallsDIn.mono B λe X Y ⟨hu,v,he,E,R⟩=>?_;subst hu;subst he;apply A
     all_goals first|exact R|exact j.trans E
  cases e with
  |CV=>exact key l
  |ret=>exact key l
  |ex id=>exact l.elim
end
end
end Go.Sw
