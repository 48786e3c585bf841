
/- Steps. -/
import Derived.Test.YtncolficnfcdcaaGreatSwU4
import Derived.Test.YtncolficnfcdcaaGreatSwZ4
set_option linter.unusedVariables false
set_option linter.unusedSimpArgs false
set_option maxRecDepth 100000
namespace Go.Sw
section
variable{P:Program}{h:aE}{Q:Nat->List Value->aE->Prop}
variable{a h':aE}{vs:List Value}{s x:Sl}{l:List Int}{F:Nat->Prop}
theorem cC.cells{n m c:Nat}{h:aE}{a:Addr}(d:cC n 1 h ⟨some a,m,c⟩ vs):Cells h a vs:=
 aI.2 λj v b=>by obtain⟨f,e,x⟩:=d.rd.2 j v b;cases e;exact x
theorem C1{n m c j:Nat}{a:Addr}{pre old:List Value}(new:List Value){K:aK}(D:cC n 1 h ⟨some a,m,c⟩ (pre++old))(r:j=pre.length)(H:new.length=old.length)(B:∀v∈new,flat v=true)
  (C:∀h',cC n 1 h' ⟨some a,m,c⟩ (pre++new)->jE ⟨some a,m,c⟩ h h'->wp P K h' Q):wp P (.store (aB (some a) j) new K) h Q:=by
 subst r;obtain⟨o1,o2,u,E⟩:=D;obtain⟨b,off,spot⟩:=a;obtain⟨e0,k,o,cs,elem,p,q,A⟩:=E;dsimp only at e0 k o p o1 o2 u q;subst e0;subst k;have f:((Addr.mk b 0 none).add pre.length)=⟨b,pre.length,none⟩:=by simp[pA]
 rw[bM]at o1;obtain⟨w,g,c1,c2,c3,y,G,z⟩:=lS (vs:=new) (i:=0) (off:=pre.length) p B (by omega);refine⟨⟨b,pre.length,none⟩,by rw[pE,f],w,C _ ⟨by rw[bM];dsimp only;omega,by dsimp only;omega,u,rfl,rfl,o,g,elem,c1,by rw[c2,q],λi v hi=>?_⟩
  ⟨by unfold nO;omega,λj r t=>z j λe=>(t _ rfl) e.symm,λa e=>by unfold nO;rw[iR];exact e⟩⟩
 by_cases d:i<pre.length
 .rw[lV d]at hi
  rw[y i (by omega)];exact A i v (by rw[lV d];exact hi)
 .rw[jK (by omega)]at hi
  have:=c3 (i-pre.length) v hi;rw[show pre.length+0+(i-pre.length)=i by omega]at this;exact this
theorem bY{b:B}{p:Option Addr}{a:Addr}{j:Nat}(x:b.den){K:b.den->aK}(f:p=some a)(c:Cells h a vs)(d:vs[j]?=some (b.inj x))(e:wp P (K x) h Q) :
  wp P (.load (.one b) (aB p j) K) h Q:=by
 subst f;exact aX (a.add j) x rfl (aI.1 c j _ d) e
theorem Bd{p:Option Addr}{a:Addr}{K:aK}(d:p=some a)(b:Cells h a vs)(c:wp P K h Q):wp P (.check p vs K) h Q:=⟨⟨a,d,b⟩,c⟩
theorem yC{h:aE}{a:Addr}(e:h'[a.block]?=h[a.block]?):cell h' a=cell h a:=by unfold cell;rw[e]
theorem kB.blocks{k:IntKind}{h:aE}(b:kB k h s l)(e:∀a,s.aD=some a->a.block<h.size->h'[a.block]?=h[a.block]?):kB k h' s l:=by
 refine⟨⟨b.rd.1,λi v hi=>?_⟩,b.cap,b.max,b.wf⟩;obtain⟨a,ea,c⟩:=b.rd.2 i v hi;refine⟨a,ea,?_⟩;have d:=BI c;rw[iA]at d;rw[yC (h:=h) (h':=h') (a:=a.add i) (by rw[iA];exact e a ea d)];exact c
theorem eW{n m c j:Nat}{a:Addr}(v:Value){K:aK}(E:cC n 1 h ⟨some a,m,c⟩ vs)(C:j<vs.length)(B:flat v=true)
  (D:∀h',cC n 1 h' ⟨some a,m,c⟩ (vs.set j v)->jE ⟨some a,m,c⟩ h h'->wp P K h' Q):wp P (.store (aB (some a) j) [v] K) h Q:=by
 obtain⟨o1,o2,H,I⟩:=E;obtain⟨b,off,spot⟩:=a;obtain⟨e0,g,k,cs,elem,o,p,A⟩:=I;dsimp only at e0 g k o o1 o2 p;subst e0;subst g;have d:(Addr.mk b 0 none).add j=⟨b,j,none⟩:=by simp[pA]
 obtain⟨w,f,c1,c2,c3,y,J,z⟩:=lS (vs:=[v]) (i:=0) (off:=j) o (by intro x G;rw[dE.1 G];exact B) (by simp;omega);refine⟨⟨b,j,none⟩,by rw[pE,d],w,D _ ⟨by rw[FL];exact o1,o2,H,rfl,rfl,k,f,elem,c1,by rw[c2,p],λi u hi=>?_⟩
  ⟨by unfold nO;omega,λi hi t=>z i λe=>(t _ rfl) e.symm,λa e=>by unfold nO;rw[iR];exact e⟩⟩
 have r:=(eK.1 hi).1;rw[FL]at r;by_cases q:i=j
 .subst q
  rw[List.getElem?_set_self C]at hi;cases hi;have:=c3 0 v rfl;simpa using this
 .rw[Rm (by omega)]at hi
  rw[y i (by simp;omega)];exact A i u hi
theorem jE.jA{h0 h:aE}(e:Ext h0 h)(u:jE s h h')(hb:∀a,s.aD=some a->h0.size<=a.block):Ext h0 h':=
 gG.trans e (jE.G5 u hb e.size)
def aY(F:Nat->Prop)(h h':aE):Prop:=h.size<=h'.size/\(∀i,i<h.size->¬F i->h'[i]?=h[i]?)/\∀a,Ix h a=false->Ix h' a=false
theorem aY.refl(F:Nat->Prop)(h:aE):aY F h h:=⟨bL _,λ_ _ _=>rfl,λ_ x=>x⟩
theorem aY.bH{b:aE}(e:Ext a b):aY F a b:=⟨e.1,λi hi _=>e.2.1 i hi,e.2.2⟩
theorem aY.trans{F G:Nat->Prop}{a b c:aE}(u:aY F a b)(v:aY G b c)(e:∀i,i<a.size->G i->F i):aY F a c:=
 ⟨dI u.1 v.1,λi hi d=>(v.2.1 i (pI hi u.1) λg=>d (e i hi g)).trans (u.2.1 i hi d),λx f=>v.2.2 x (u.2.2 x f)⟩
theorem aY.ext{b c:aE}(u:aY F a b)(e:Ext b c):aY F a c:=u.trans (aY.bH (F:=F) e) λ_ _ g=>g
theorem aY.pre{b c:aE}(e:Ext a b)(u:aY F b c):aY F a c:=(aY.bH (F:=F) e).trans u λ_ _ g=>g
theorem aY.mono{G:Nat->Prop}{b:aE}(u:aY F a b)(c:∀i,i<a.size->F i->G i):aY G a b:=(aY.refl G a).trans u c
theorem aY.dP{b:aE}(u:jE s a b)(d:∀x,s.aD=some x->x.block<a.size->F x.block):aY F a b:=
 ⟨u.1,λi hi c=>u.2.1 i hi λx f e=>c (by rw[<-e];exact d x f (by omega)),u.2.2⟩
theorem aY.GV{b c:aE}(u:aY F a b)(v:jE s b c)(f:∀x,s.aD=some x->x.block<a.size->F x.block):aY F a c:=
 u.trans (G:=λi=>∃x,s.aD=some x/\x.block=i) (aY.dP v λx d _=>⟨x,d,rfl⟩) λi hi ⟨x,d,e⟩=>by rw[<-e];exact f x d (by omega)
theorem aY.aP{n:Nat}{b:aE}(u:aY F a b)(d:n<=a.size)(c:∀i,i<n->¬F i):gG n a b:=⟨u.1,λi hi=>u.2.1 i (by omega) (c i hi),u.2.2⟩
theorem aY.kZ{b:aE}{k:IntKind}(u:aY F a b)(e:kB k a s l)(d:∀x,s.aD=some x->¬F x.block):kB k b s l:=
 Go.Sw.kB.blocks e λx f c=>u.2.1 _ c (d x f)
theorem aY.vk{b:aE}{k:IntKind}(u:aY F a b)(c:kB k a s l)(d:l≠[]->∀x,s.aD=some x->¬F x.block):kB k b s l:=by
 cases l with
 |nil=>exact⟨⟨c.rd.1,λi v hi=>by simp at hi⟩,c.cap,c.max,c.wf⟩
 |cons y l=>exact u.kZ c (d (by simp))
theorem aY.own{n size:Nat}{b:aE}(u:aY F a b)(c:cC n size a s vs)(e:∀x,s.aD=some x->¬F x.block):cC n size b s vs:=
 c.aP λx d=>u.2.1 _ (c.lt d).2 (e x d)
theorem aY.pW{n:Nat}{b:aE}{k:IntKind}(u:aY F a b)(c:bR n k a s l)(d:∀x,s.aD=some x->¬F x.block):bR n k b s l:=
 ⟨u.own c.own d,c.wf⟩
def Ev(F:Nat->Prop)(P:Program)(m:aK)(tys:List Ty)(h:aE)(R:Ts.den tys->aE->Prop):Prop:=
 wp P m h λt vs h'=>t=0/\aY F h h'/\∃x,vs=Ts.inj tys x/\R x h'
theorem Tw{m:aK}{tys:List Ty}{K:Ts.den tys->aK}{R:Ts.den tys->aE->Prop}(g:Ev F P m tys h R)(e:∀x h',aY F h h'->R x h'->wp P (K x) h' Q) :
  wp P (.call m tys K) h Q:=
 cU m (λ_ _ _ ⟨a,b,x,c,d⟩=>⟨a,x,c,e x _ b d⟩) g
theorem sC{q:Addr}{j:Nat}{v:Value}{K:aK}(b:cell h (q.add j)=some v)(c:wp P K h Q):wp P (.check (aB (some q) j) [v] K) h Q:=by
 refine⟨⟨q.add j,rfl,aI.2 λi u hi=>?_⟩,c⟩;cases i with
 |zero=>simp at hi;subst hi;rw[add_zero'];exact b
 |succ i=>simp at hi
theorem iS{n size bytes:Nat}{zero:List Value}{old new:List Value}{K:Sl->aK}(J:cC n size h s old)(I:n<=h.size)(m:Rd size h x new)
  (H:∀v∈new,flat v=true) (L:zero.length=size) (k:(s.len+x.len)*bytes<=140737488355328) (hlen:s.len+x.len<2^63)
  (u:∀r h',cC n size h' r (old++new)->r.len=s.len+x.len->jE s h h'->(∀a,r.aD=some a->s.aD=some a\/(h.size<=a.block))->(r.aD=s.aD\/Ext h h')->wp P (K r) h' Q) :
  wp P (.append size bytes zero s x K) h Q:=by
 refine⟨new,m.G6,?_⟩;obtain⟨o1,o2,y,d⟩:=J;have c:(old++new).length=(s.len+x.len)*size:=by rw[bM,<-o1,<-m.1,Co]
 by_cases f:s.len+x.len<=s.cap
 .simp only[f,if_true]
  cases hb:s.aD with
  |none=>
   rw[hb]at d;simp only at d⊢;have o:s.len=0:=by omega
   have p:x.len=0:=by omega
   refine u _ _ ⟨c.symm,f,y,d⟩ rfl ⟨bL _,λ_ _ _=>rfl,λ_ e=>e⟩ (λa ha=>by cases ha) (.inl hb.symm)
  |some a=>
   rw[hb]at d;obtain⟨b,off,spot⟩:=a;obtain⟨e0,o,p,cs,elem,A,B,G⟩:=d;simp only at e0 o p A;subst e0;subst o;have t:s.len*size+new.length<=cs.size:=by
    rw[B,<-m.1,<-Co];exact Jl _ f
   have q:(Addr.mk b 0 none).add (s.len*size)=⟨b,s.len*size,none⟩:=by simp[pA]
   obtain⟨w,z,c1,c2,c3,D,O,E⟩:=lS (i:=0) (off:=s.len*size) A H (by simpa using t);simp only[q];refine⟨w,u _ _ ⟨c.symm,f,y,rfl,rfl,p,z,elem,c1,by rw[c2,B],λi v hi=>?_⟩ rfl ⟨by unfold nO;omega,λi hi C=>E i λe=>(C _ hb) e.symm,λa e=>by unfold nO;rw[iR];exact e⟩ (λa ha=>Or.inl (hb.trans ha)) (.inl hb.symm)⟩;rw[Rh]at hi;split at hi
   .rename_i N
    rw[D i (Or.inl (by omega))];exact G i v hi
   .rename_i M
    have:=c3 _ _ hi;rw[o1]at this;rw[show old.length+0+(i-old.length)=i by omega]at this;exact this
 .simp only[f,if_false]
  refine⟨old,Rd.G6 (cC.rd ⟨o1,o2,y,d⟩),growslice_fits (by omega) k,hlen,λcap elem g j=>?_⟩;refine u _ _ ⟨c.symm,g,j,rfl,rfl,I,_,elem,FH,?_,λi v hi=>?_⟩ rfl ⟨by simp,λi hi _=>A9 h _ hi,(Ext.push h _ _).2.2⟩ (λa ha=>Or.inr (by cases ha;exact bL _)) (.inr (Ext.push h _ _))
  .simp only[Rf,bM,Pu L]
   rw[<-o1,<-m.1,<-Co,<-Co,Nat.add_sub_cancel' g]
  .simp only[Ri]
   rw[lV (by
    have:=(eK.1 hi).1;exact this)]
   exact hi
theorem uJ{n bytes:Nat}{k:IntKind}{m:List Int}{K:Sl->aK}(g:bR n k h s l)(q:n<=h.size)(o:kB k h x m)(j:(l.length+m.length)*bytes<=140737488355328)(hlen:l.length+m.length<2^63)
  (t:∀r h',gG n h h'->bR n k h' r (l++m)->jE s h h'->(∀a,r.aD=some a->s.aD=some a\/(h.size<=a.block))->(r.aD=s.aD\/Ext h h')->wp P (K r) h' Q) :
  wp P (.append 1 bytes [.int k 0] s x K) h Q:=by
 have p:=g.len;have hm:=o.len;refine iS g.own q o.rd (by intro y f;obtain⟨z,_,rfl⟩:=dC.1 f;rfl) rfl (by rw[p,hm];exact j) (by rw[p,hm];exact hlen) λr h' a b c d e=>?_;refine t r h' (jE.aP g.own q c) ⟨by simpa using a,?_⟩ c d e;intro y f;rcases dD.1 f with f|f
 .exact g.wf y f
 .exact o.wf y f
end
end Go.Sw
namespace Go.Sw.Tree
section
variable{P:Program}{h:aE}{Q:Nat->List Value->aE->Prop}
variable{a:Addr}{vs:List Value}
abbrev iv(n:Int):Value:=.int .i64 n
abbrev TR:=Option Addr×Unit
theorem jI(p:Option Addr){K:Addr->aK}(b:∀h',Ext h h'->cC h.size 1 h' ⟨some ⟨h.size,0,none⟩,1,1⟩ [.pointer p]->wp P (K ⟨h.size,0,none⟩) h' Q):wp P (.alloc [.pointer p] K) h Q:=
 λelem=>b _ (Ext.push ..) (bX rfl (by decide) (by decide))
theorem jW{n:Nat}{p:Option Addr}{K:Option Addr->aK}(d:cC n 1 h ⟨some a,1,1⟩ [.pointer p])(c:wp P (K p) h Q):wp P (.load (.one .ptr) (aB (some a) 0) K) h Q:=
 bY (b:=.ptr) (x:=p) rfl d.cells rfl c
theorem nE{n:Nat}{p:Option Addr}{K:TR->aK}(c:cC n 1 h ⟨some a,1,1⟩ [.pointer p])(b:wp P (K (p,())) h Q):wp P (.load (.agg [.ptr]) (some a) K) h Q:=
 ⟨a,rfl,(p,()),c.cells,b⟩
theorem pD{n:Nat}{q:Option Addr}(p:Option Addr){K:aK}(c:cC n 1 h ⟨some a,1,1⟩ [.pointer q])(b:∀h',cC n 1 h' ⟨some a,1,1⟩ [.pointer p]->jE ⟨some a,1,1⟩ h h'->wp P K h' Q) :
  wp P (.store (some a) [.pointer p] K) h Q:=by
 have:=C1 (P:=P) (Q:=Q) (K:=K) (pre:=[]) (old:=[.pointer q]) [.pointer p] c rfl rfl (by intro v d;rw[dE.1 d];rfl) b;simpa[aB,add_zero'] using this
theorem Be{n m c:Nat}{ws:List Value}{b:Addr}(k:cC n 1 h ⟨some b,m,c⟩ ws)(d:Cells h a vs)(j:c<vs.length):b.block≠a.block:=by
 intro e;obtain⟨_,_,_,o⟩:=k;obtain⟨e0,r,t,cs,elem,f,g,u⟩:=o;have c0:=aI.1 d 0 _ (cM (by omega));have c1:=aI.1 d c _ (cM j);rw[add_zero']at c0;obtain⟨p,q,sp⟩:=a;dsimp only at e;cases sp with
 |some s=>unfold cell at c0;dsimp only at c0;split at c0<;>simp at c0
 |none=>
  rw[pA]at c1;unfold cell at c1;dsimp only at c1;rw[<-e,f]at c1;simp at c1;have:=(zZ.1 c1).1;dsimp only at g;omega
theorem wY{b:Addr}{m c:Nat}{h h':aE}(u:jE ⟨some b,m,c⟩ h h')(f:Cells h a vs)(e:b.block≠a.block):Cells h' a vs:=
 aI.2 λj v g=>by
  have c:=aI.1 f j v g;have d:=BI c;unfold Sw.cell at c⊢;rw[u.2.1 (a.add j).block d (by intro x k;cases k;rw[iA];exact e)];exact c
theorem least{p:Nat->Prop}:∀n,p n->∃m,p m/\∀k,p k->m<=k:=by
 intro n
 induction n using Nat.strongRecOn with
 |ind n g=>
  intro e;by_cases d:∃k,k<n/\p k
  .obtain⟨k,b,f⟩:=d;exact g k b f
  .exact⟨n,e,λk b=>Nat.le_of_not_lt λc=>d ⟨k,c,b⟩⟩
open Classical in
theorem dV{G:Type}{tys:List Ty}{s:Ts.den tys}{body:Ts.den tys->aK}{K:Nat->List Value->aK}(J:G->Ts.den tys->aE->Prop)(ρ:G->Nat)(R:Nat->List Value->aE->Prop)(o:G)(h0:J o s h)
  (v:∀g s h,J g s h->wp P (body s) h λtag vs h'=>(tag=0->∃c d,vs=Ts.inj tys d/\J c d h'/\ρ c<ρ g)/\(tag≠0->R tag vs h'))
  (q:∀t vs h',R t vs h'->wp P (K t vs) h' Q):wp P (.bind (.loop tys s body) K) h Q:=by
 have key:∀s h,(∃g,J g s h)->∃m,(∃g,J g s h/\ρ g=m)/\∀g,J g s h->m<=ρ g:=by
  intro s h ⟨g,f⟩;obtain⟨m,hm,r⟩:=least (p:=λm=>∃g,J g s h/\ρ g=m) (ρ g) ⟨g,f,rfl⟩;exact⟨m,hm,λg f=>r _ ⟨g,f,rfl⟩⟩
 refine bO (λs h=>∃g,J g s h) (λs h=>if j:∃g,J g s h then Classical.choose (key s h j) else 0) R ⟨o,h0⟩ ?_ q;intro s h j;obtain⟨⟨g,f,u⟩,_⟩:=Classical.choose_spec (key s h j);refine cU (body s) (λt vs h' ⟨a,b⟩=>⟨λht=>?_,b⟩) (v g s h f);obtain⟨c,d,e,n,w⟩:=a ht;refine⟨d,e,⟨c,n⟩,?_⟩;have k:∃g,J g d h':=⟨c,n⟩;have y:=(Classical.choose_spec (key d h' k)).2 c n;rw[dif_pos j,dif_pos k,<-u];omega
theorem lA(a b:Int):Nk a b=min a b:=by unfold Nk;split<;>omega
theorem kT(a:Int):fU a a=true:=cJ.2 rfl
def sG(i j:Int)(n:Nat):Prop:=0<=i/\i<=j/\j<=n
theorem fL{n m c:Nat}{old:List Value}(new:List Value){K:aK}(f:cC n 1 h ⟨some a,m,c⟩ old)(e:new.length=old.length)(b:∀v∈new,flat v=true)
  (d:∀h',cC n 1 h' ⟨some a,m,c⟩ new->jE ⟨some a,m,c⟩ h h'->wp P K h' Q):wp P (.store (some a) new K) h Q:=by
 have:=C1 (P:=P) (Q:=Q) (K:=K) (pre:=[]) (old:=old) new f rfl e b d;simpa[aB,add_zero'] using this
theorem kP{n:Nat}{v:Value}(o:cC n 1 h ⟨some a,1,1⟩ [v]):Sw.cell h a=some v:=by
 have:=aI.1 o.cells 0 v rfl
 rwa [add_zero']at this
end
end Go.Sw.Tree
namespace Go.Sw
section
variable{P:Program}{h:aE}{Q:Nat->List Value->aE->Prop}
variable{a:aE}{F:Nat->Prop}{i:Nat}{o':Obj}
def own(n m i:Nat):Prop:=n<=i/\i<n+m
def gU(W:Nat->Prop)(h h':aE):Prop:=h.size<=h'.size/\(∀i,i<h.size->W i->h'[i]?=h[i]?)/\∀a,Ix h a=false->Ix h' a=false
theorem gU.refl(W:Nat->Prop)(h:aE):gU W h h:=⟨bL _,λ_ _ _=>rfl,λ_ x=>x⟩
theorem gU.trans{W:Nat->Prop}{a b c:aE}(u:gU W a b)(v:gU W b c):gU W a c:=
 ⟨dI u.1 v.1,λi hi hw=>(v.2.1 i (pI hi u.1) hw).trans (u.2.1 i hi hw),λx d=>v.2.2 x (u.2.2 x d)⟩
theorem gU.mono{W V:Nat->Prop}{b:aE}(u:gU W a b)(c:∀i,i<a.size->V i->W i):gU V a b:=⟨u.1,λi hi hw=>u.2.1 i hi (c i hi hw),u.2.2⟩
theorem gU.Nm{W:Nat->Prop}{b:aE}(c:aY F a b)(d:∀i,i<a.size->W i->¬F i):gU W a b:=⟨c.1,λi hi hw=>c.2.1 i hi (d i hi hw),c.2.2⟩
theorem gU.bH{W:Nat->Prop}{b:aE}(e:Ext a b):gU W a b:=⟨e.1,λi hi _=>e.2.1 i hi,e.2.2⟩
theorem gU.cell{W:Nat->Prop}{a b:aE}(u:gU W a b){x:Addr}{v:Value}(c:Sw.cell a x=some v)(hw:W x.block):Sw.cell b x=some v:=by
 have d:=BI c;unfold Sw.cell at c⊢;rw[u.2.1 _ d hw];exact c
theorem WQ{h:aE}{o:Obj}(d:h[i]?=some o)(h0:∀c e f,o' ≠ .cells c e f)(a:Addr)(ha:Ix h a=false):Ix (h.setIfInBounds i o') a=false:=by
 unfold Ix at ha⊢;by_cases hi:i=a.block
 .subst hi
  have b:=(zZ.1 d).1;rw[V6,if_pos b];cases o' with
  |cells c e f=>exact absurd rfl (h0 c e f)
  |_=>rfl
 .rw[zY hi];exact ha
theorem Dl{h:aE}{o:Obj}(d:h[i]?=some o)(h0:∀c e f,o' ≠ .cells c e f):aY (own i 1) h (h.setIfInBounds i o'):=
 ⟨by simp,λj g b=>by rw[zY];intro e;exact b ⟨by omega,by omega⟩,WQ d h0⟩
theorem C2{h:aE}{o:Obj}(b:h[i]?=some o):(h.setIfInBounds i o')[i]?=some o':=by
 rw[V6,if_pos (zZ.1 b).1]
theorem tD(h:aE)(i:Nat)(o:Obj):(h.setIfInBounds i o).size=h.size:=by simp
theorem F0(h:aE)(o:Obj)(h0:∀c e f,o ≠ .cells c e f):Ext h (h.push o):=by
 refine⟨by simp,λi hi=>A9 h o hi,λa ha=>?_⟩;unfold Ix at ha⊢;by_cases hi:a.block<h.size
 .rw[A9 h o hi];exact ha
 .by_cases he:a.block=h.size
  .rw[he,FH]
   cases o with
   |cells c e f=>exact absurd rfl (h0 c e f)
   |_=>rfl
  .rw[Ka (by simp;omega)]
def fz(P:Program)(it:Value)(N:Nat)(A:Nat->aE->aE->List Value->Prop)(Z:Nat->Prop)(m:Nat)(h0:aE):Prop:=
 ∀(h:aE) (y:Value) (J:Nat->aE->Prop) (F:aE->Prop),h0.size<=h.size->gU Z h0 h->flat y=true ->
  (∀k a b,J k a->aY (own h.size m) a b->J k b)->(∀a b,F a->aY (own h.size m) a b->F b) ->
  (∀k hp h1 args,k<N->J k hp->h.size<=hp.size->aY (own h.size m) hp h1->h.size+m<=h1.size->gU Z h0 h1->A k hp h1 args ->
   N1 P y args h1 λvs h2=>∃b,vs=[.bool b]/\gU (λi=>own h.size m i\/(Z i/\i<h0.size)) h1 h2/\(b=true->J (k+1) h2)/\(b=false->F h2)) ->
  J 0 h->N0 P it [y] h λvs h'=>vs=[]/\h.size<=h'.size/\gU Z h0 h'/\(J N h'\/F h')
theorem gU.step{Z V:Nat->Prop}{h0 b:aE}(u:gU Z h0 a)(v:gU V a b)(d:∀i,i<h0.size->Z i->V i):gU Z h0 b:=
 ⟨dI u.1 v.1,λi hi c=>(v.2.1 i (pI hi u.1) (d i hi c)).trans (u.2.1 i hi c),λx e=>v.2.2 x (u.2.2 x e)⟩
theorem gU.oQ{Z:Nat->Prop}{h0 b:aE}(u:gU Z h0 a)(v:aY F a b)(d:∀i,i<h0.size->Z i->¬F i):gU Z h0 b:=
 ⟨dI u.1 v.1,λi hi c=>(v.2.1 i (pI hi u.1) (d i hi c)).trans (u.2.1 i hi c),λx e=>v.2.2 x (u.2.2 x e)⟩
theorem Hm{r:Loop}(h1:r.state = .ready)(b:r.pending=none):zC r 0=r:=by
 cases r;simp only at h1 b;subst h1;subst b;rfl
theorem ZW{f:Value}{tys outs:List Ty}{X:Ts.den tys->aK}{body:Ts.den outs->aK}{K:Nat->aK}{N:Nat}{A:Nat->aE->aE->List Value->Prop}{Z:Nat->Prop}{m:Nat}{h0:aE}
  (it:fz P f N A Z m h0) (kz:gU Z h0 h) (J:Nat->aE->Prop) (F:Nat->aE->Prop)
  (W:∀k a b,J k a->aY (own h.size (m+2)) a b->J k b) (sF:∀k a b,F k a->aY (own h.size (m+2)) a b->F k b)
  (hA:∀k B g args,A k B g args->∃x,args=Ts.inj tys x)
  (hr:∀k B g x,k<N->J k B->h.size+2<=B.size->aY (own h.size (m+2)) B g->h.size+2+m<=g.size->gU Z h0 g->A k B g (Ts.inj tys x) ->
   wp P (X x) g λtag vs D=>tag=0/\∃y,vs=Ts.inj outs y/\gU (λi=>own h.size (m+2) i\/(Z i/\i<h0.size)) g D /\
    ∀H,aY (own h.size (m+2)) D H->H.size=D.size->wp P (body y) H λtag _ w=>gU (λi=>own h.size (m+2) i\/(Z i/\i<h0.size)) H w/\(tag=0->J (k+1) w)/\(tag≠0->F tag w))
  (j0:J 0 h)
  (hk:∀j u,h.size+2<=u.size->gU Z h0 u->(j=0/\J N u\/j≠0/\F j u)->wp P (K j) u λt vs E=>gU (own h.size 1) u E/\∀h7,aY (own h.size 1) E h7->h7.size=E.size->Q t vs h7) :
  wp P (.range f tys outs X body K) h Q:=by
 intro r T U hy;have hs:((h.push (.deferred (some []))).push (.loop r)).size=h.size+2:=by simp
 have hd:((h.push (.deferred (some []))).push (.loop r))[h.size]?=some (.deferred (some [])):=by
  rw[A9 _ _ (by simp),FH]
 have hl:((h.push (.deferred (some []))).push (.loop r))[h.size+1]?=some (.loop r):=by
  have:=FH (xs:=h.push (.deferred (some []))) (x:=.loop r);simpa using this
 have e2:Ext h ((h.push (.deferred (some []))).push (.loop r)):=(F0 h _ (by intro c e f x;cases x)).trans (F0 _ _ (by intro c e f x;cases x));generalize(h.push (.deferred (some []))).push (.loop r)=p at hs hd hl e2⊢;have bt:h0.size<=h.size:=kz.1
 let v:Nat->aE->Prop:=λj a=>a[h.size]?=some (.deferred (some []))/\a[h.size+1]?=some (.loop (zC r j))
 have C:∀j a b,v j a->p.size<=a.size->aY (own p.size m) a b->v j b:=λj a b x hl c=>
  ⟨(c.2.1 _ (by omega) λo=>by have:=o.1;omega).trans x.1,(c.2.1 _ (by omega) λo=>by have:=o.1;omega).trans x.2⟩
 have inner:∀i,own p.size m i->own h.size (m+2) i:=λi o=>⟨by have:=o.1;omega,by have:=o.2;omega⟩;have key:=it p (UZ (h.size+1)) (λk a=>J k a/\v 0 a/\p.size<=a.size) (λa=>∃j,j≠0/\F j a/\v j a/\p.size<=a.size) (by omega) (kz.step (V:=λ_=>True) (gU.bH e2) λ_ _ _=>trivial) rfl
  (λk a b ⟨x,y,z⟩ c=>⟨W k a b x (c.mono λi _ o=>inner i o),C _ _ _ y z c,dI z c.1⟩)
  (λa b ⟨j,O,x,y,z⟩ c=>⟨j,O,sF j a b x (c.mono λi _ o=>inner i o),C _ _ _ y z c,dI z c.1⟩)
  (λk B g args hk ⟨x,y,z⟩ bb c bd hz ha=>?_)
  ⟨W 0 h p j0 (aY.bH e2),⟨hd,by rw[Hm T U];exact hl⟩,bL _⟩
 .refine N0.mono key λvs u ⟨_,bp,ba,hx⟩=>?_
  have fin:∀j,v j u->(j=0/\J N u\/j≠0/\F j u)->∃j,u[h.size+1]?=some (.loop (zC r j)) /\
    wp P (K j) (u.setIfInBounds (h.size+1) (.loop (P4 (zC r j)))) λt vs E=>E[h.size]?=some (.deferred (some []))/\Q t vs (E.setIfInBounds h.size (.deferred none)):=λj M O=>by
   refine⟨j,M.2,?_⟩;have cs:=Dl (o':=.loop (P4 (zC r j))) M.2 (by intro c e f x;cases x);have ab:aY (own h.size (m+2)) u (u.setIfInBounds (h.size+1) (.loop (P4 (zC r j)))):=cs.mono λi _ o=>⟨by have:=o.1;omega,by have:=o.2;omega⟩;refine cU _ (λt vs E ⟨L,hq⟩=>?b1) (hk j _ (by rw[tD];omega) (ba.oQ cs λi hi _ o=>by have:=o.1;omega) ?b2)
   case b1=>
    have al:E[h.size]?=some (.deferred (some [])):=by
     rw[L.2.1 h.size (by rw[tD];omega) ⟨bL _,by omega⟩,zY (by omega)];exact M.1
    exact⟨al,hq _ (Dl al (by intro c e f x;cases x)) (tD ..)⟩
   case b2=>
    rcases O with⟨g,p⟩|⟨g,p⟩
    .exact .inl ⟨g,W _ _ _ p ab⟩
    .exact .inr ⟨g,sF _ _ _ p ab⟩
  rcases hx with⟨O,a7,_⟩|⟨j,a5,hf,a8,_⟩
  .exact fin 0 a7 (.inl ⟨rfl,O⟩)
  .exact fin j a8 (.inr ⟨a5,hf⟩)
 .obtain⟨xs,rfl⟩:=hA _ _ _ _ ha
  have y1:=C _ _ _ y z c;have cm:aY (own h.size (m+2)) B g:=c.mono λi _ o=>inner i o;refine hy xs g _ (by rw[y1.2,Hm T U]) (cU _ (λtag vs D ⟨ht,yy,hv,L,hb⟩=>?_) (hr k B g xs hk x (by omega) cm (by omega) hz ha));have ao:D[h.size]?=some (.deferred (some [])):=(L.2.1 _ (by omega) (.inl ⟨by omega,by omega⟩)).trans y1.1;have R:D[h.size+1]?=some (.loop r):=by rw[L.2.1 _ (by omega) (.inl ⟨by omega,by omega⟩),y1.2,Hm T U]
  have c3:=Dl (o':=.loop (PF r)) R (by intro c e f x;cases x);refine⟨ht,yy,hv,R,cU _ (λd bs w ⟨I,a6,a0⟩=>?_) (hb _ (c3.mono λi _ o=>⟨by have:=o.1;omega,by have:=o.2;omega⟩) (tD ..))⟩;have bo:=L.1;have a9:=I.1;rw[tD]at a9;have S:w[h.size+1]?=some (.loop (PF r)):=by
   rw[I.2.1 _ (by rw[tD];omega) (.inl ⟨by omega,by omega⟩)];exact C2 R
  have aw:w[h.size]?=some (.deferred (some [])):=by
   rw[I.2.1 _ (by rw[tD];omega) (.inl ⟨by omega,by omega⟩),zY (by omega)];exact ao
  have c5:=Dl (o':=.loop (zC r d)) S (by intro c e f x;cases x);have Y:aY (own h.size (m+2)) w (w.setIfInBounds (h.size+1) (.loop (zC r d))):=c5.mono λi _ o=>⟨by have:=o.1;omega,by have:=o.2;omega⟩;have M:v d (w.setIfInBounds (h.size+1) (.loop (zC r d))):=⟨by rw[zY (by omega)];exact aw,C2 S⟩;refine⟨S,(AZ d).isNone,rfl,?_,λhb=>?_,λhb=>?_⟩
  .have a1:gU (λi=>own p.size m i\/(Z i/\i<h0.size)) g D:=L.mono λi _ o=>o.imp (inner i) id
   have a2:gU (λi=>own p.size m i\/(Z i/\i<h0.size)) D _:=gU.Nm c3 λi _ o q=>by rcases o with o|o<;>(have:=o.1;have:=o.2;have:=q.1;have:=q.2;omega)
   have a3:gU (λi=>own p.size m i\/(Z i/\i<h0.size)) _ w:=I.mono λi _ o=>o.imp (inner i) id;have a4:gU (λi=>own p.size m i\/(Z i/\i<h0.size)) w _:=gU.Nm c5 λi _ o q=>by rcases o with o|o<;>(have:=o.1;have:=o.2;have:=q.1;have:=q.2;omega)
   exact((a1.trans a2).trans a3).trans a4
  .have G:d=0:=by
    match d,hb with
    |0,_=>rfl
    |1,hb=>simp[AZ]at hb
    |n+2,hb=>simp[AZ]at hb
   subst G;exact⟨W _ _ _ (a6 rfl) Y,M,by rw[tD];omega⟩
  .have G:d≠0:=by rintro rfl;simp[AZ]at hb
   exact⟨d,G,sF _ _ _ (a0 G) Y,M,by rw[tD];omega⟩
end
end Go.Sw
