
/- Steps. -/
import Derived.Test.YtncolficnfcdcaaGreatSwU4
import Derived.Test.YtncolficnfcdcaaGreatSwZ4
set_option linter.unusedVariables false
set_option linter.unusedSimpArgs false
set_option maxRecDepth 100000
namespace Go.Sw
section
variable{P:Program}{h:aG}{Q:Nat->List Value->aG->Prop}
variable{a h':aG}{vs:List Value}{s x:Sl}{l:List Int}{F:Nat->Prop}
theorem cA.cells{n m c:Nat}{h:aG}{a:Addr}(d:cA n 1 h ⟨some a,m,c⟩ vs):Cells h a vs:=
 aI.2 λj v b=>by obtain⟨f,e,x⟩:=d.rd.2 j v b;cases e;exact x
theorem Dn{n m c j:Nat}{a:Addr}{pre old:List Value}(new:List Value){K:aK}(D:cA n 1 h ⟨some a,m,c⟩ (pre++old))(r:j=pre.length)(H:new.length=old.length)(B:∀v∈new,flat v=true)
  (C:∀h',cA n 1 h' ⟨some a,m,c⟩ (pre++new)->jU ⟨some a,m,c⟩ h h'->wp P K h' Q):wp P (.store (aB (some a) j) new K) h Q:=by
 subst r;obtain⟨o1,o2,u,E⟩:=D;obtain⟨b,off,spot⟩:=a;obtain⟨e0,k,o,cs,elem,p,q,A⟩:=E;dsimp only at e0 k o p o1 o2 u q;subst e0;subst k;have f:((Addr.mk b 0 none).add pre.length)=⟨b,pre.length,none⟩:=by simp[pI]
 rw[bP]at o1;obtain⟨w,g,c1,c2,c3,y,G,z⟩:=mH (vs:=new) (i:=0) (off:=pre.length) p B (by omega);refine⟨⟨b,pre.length,none⟩,by rw[pM,f],w,C _ ⟨by rw[bP];dsimp only;omega,by dsimp only;omega,u,rfl,rfl,o,g,elem,c1,by rw[c2,q],λi v hi=>?_⟩
  ⟨by unfold nY;omega,λj r t=>z j λe=>(t _ rfl) e.symm,λa e=>by unfold nY;rw[jH];exact e⟩⟩
 by_cases d:i<pre.length
 .rw[mL d]at hi
  rw[y i (by omega)];exact A i v (by rw[mL d];exact hi)
 .rw[jZ (by omega)]at hi
  have:=c3 (i-pre.length) v hi;rw[show pre.length+0+(i-pre.length)=i by omega]at this;exact this
theorem bX{b:B}{p:Option Addr}{a:Addr}{j:Nat}(x:b.den){K:b.den->aK}(f:p=some a)(c:Cells h a vs)(d:vs[j]?=some (b.inj x))(e:wp P (K x) h Q) :
  wp P (.load (.one b) (aB p j) K) h Q:=by
 subst f;exact bC (a.add j) x rfl (aI.1 c j _ d) e
theorem Bx{p:Option Addr}{a:Addr}{K:aK}(d:p=some a)(b:Cells h a vs)(c:wp P K h Q):wp P (.check p vs K) h Q:=⟨⟨a,d,b⟩,c⟩
theorem yS{h:aG}{a:Addr}(e:h'[a.block]?=h[a.block]?):cell h' a=cell h a:=by unfold cell;rw[e]
theorem kW.blocks{k:IntKind}{h:aG}(b:kW k h s l)(e:∀a,s.aD=some a->a.block<h.size->h'[a.block]?=h[a.block]?):kW k h' s l:=by
 refine⟨⟨b.rd.1,λi v hi=>?_⟩,b.cap,b.max,b.wf⟩;obtain⟨a,ea,c⟩:=b.rd.2 i v hi;refine⟨a,ea,?_⟩;have d:=BY c;rw[iS]at d;rw[yS (h:=h) (h':=h') (a:=a.add i) (by rw[iS];exact e a ea d)];exact c
theorem fA{n m c j:Nat}{a:Addr}(v:Value){K:aK}(E:cA n 1 h ⟨some a,m,c⟩ vs)(C:j<vs.length)(B:flat v=true)
  (D:∀h',cA n 1 h' ⟨some a,m,c⟩ (vs.set j v)->jU ⟨some a,m,c⟩ h h'->wp P K h' Q):wp P (.store (aB (some a) j) [v] K) h Q:=by
 obtain⟨o1,o2,H,I⟩:=E;obtain⟨b,off,spot⟩:=a;obtain⟨e0,g,k,cs,elem,o,p,A⟩:=I;dsimp only at e0 g k o o1 o2 p;subst e0;subst g;have d:(Addr.mk b 0 none).add j=⟨b,j,none⟩:=by simp[pI]
 obtain⟨w,f,c1,c2,c3,y,J,z⟩:=mH (vs:=[v]) (i:=0) (off:=j) o (by intro x G;rw[dE.1 G];exact B) (by simp;omega);refine⟨⟨b,j,none⟩,by rw[pM,d],w,D _ ⟨by rw[CJ];exact o1,o2,H,rfl,rfl,k,f,elem,c1,by rw[c2,p],λi u hi=>?_⟩
  ⟨by unfold nY;omega,λi hi t=>z i λe=>(t _ rfl) e.symm,λa e=>by unfold nY;rw[jH];exact e⟩⟩
 have r:=(cR.1 hi).1;rw[CJ]at r;by_cases q:i=j
 .subst q
  rw[List.getElem?_set_self C]at hi;cases hi;have:=c3 0 v rfl;simpa using this
 .rw[R0 (by omega)]at hi
  rw[y i (by simp;omega)];exact A i u hi
theorem jU.jQ{h0 h:aG}(e:Ext h0 h)(u:jU s h h')(hb:∀a,s.aD=some a->h0.size<=a.block):Ext h0 h':=
 gZ.trans e (jU.Hr u hb e.size)
def aV(F:Nat->Prop)(h h':aG):Prop:=h.size<=h'.size/\(∀i,i<h.size->¬F i->h'[i]?=h[i]?)/\∀a,IX h a=false->IX h' a=false
theorem aV.refl(F:Nat->Prop)(h:aG):aV F h h:=⟨bM _,λ_ _ _=>rfl,λ_ x=>x⟩
theorem aV.bD{b:aG}(e:Ext a b):aV F a b:=⟨e.1,λi hi _=>e.2.1 i hi,e.2.2⟩
theorem aV.trans{F G:Nat->Prop}{a b c:aG}(u:aV F a b)(v:aV G b c)(e:∀i,i<a.size->G i->F i):aV F a c:=
 ⟨dI u.1 v.1,λi hi d=>(v.2.1 i (mK hi u.1) λg=>d (e i hi g)).trans (u.2.1 i hi d),λx f=>v.2.2 x (u.2.2 x f)⟩
theorem aV.ext{b c:aG}(u:aV F a b)(e:Ext b c):aV F a c:=u.trans (aV.bD (F:=F) e) λ_ _ g=>g
theorem aV.pre{b c:aG}(e:Ext a b)(u:aV F b c):aV F a c:=(aV.bD (F:=F) e).trans u λ_ _ g=>g
theorem aV.mono{G:Nat->Prop}{b:aG}(u:aV F a b)(c:∀i,i<a.size->F i->G i):aV G a b:=(aV.refl G a).trans u c
theorem aV.dK{b:aG}(u:jU s a b)(d:∀x,s.aD=some x->x.block<a.size->F x.block):aV F a b:=
 ⟨u.1,λi hi c=>u.2.1 i hi λx f e=>c (by rw[<-e];exact d x f (by omega)),u.2.2⟩
theorem aV.Hg{b c:aG}(u:aV F a b)(v:jU s b c)(f:∀x,s.aD=some x->x.block<a.size->F x.block):aV F a c:=
 u.trans (G:=λi=>∃x,s.aD=some x/\x.block=i) (aV.dK v λx d _=>⟨x,d,rfl⟩) λi hi ⟨x,d,e⟩=>by rw[<-e];exact f x d (by omega)
theorem aV.aP{n:Nat}{b:aG}(u:aV F a b)(d:n<=a.size)(c:∀i,i<n->¬F i):gZ n a b:=⟨u.1,λi hi=>u.2.1 i (by omega) (c i hi),u.2.2⟩
theorem aV.lO{b:aG}{k:IntKind}(u:aV F a b)(e:kW k a s l)(d:∀x,s.aD=some x->¬F x.block):kW k b s l:=
 Go.Sw.kW.blocks e λx f c=>u.2.1 _ c (d x f)
theorem aV.y7{b:aG}{k:IntKind}(u:aV F a b)(c:kW k a s l)(d:l≠[]->∀x,s.aD=some x->¬F x.block):kW k b s l:=by
 cases l with
 |nil=>exact⟨⟨c.rd.1,λi v hi=>by simp at hi⟩,c.cap,c.max,c.wf⟩
 |cons y l=>exact u.lO c (d (by simp))
theorem aV.own{n size:Nat}{b:aG}(u:aV F a b)(c:cA n size a s vs)(e:∀x,s.aD=some x->¬F x.block):cA n size b s vs:=
 c.aP λx d=>u.2.1 _ (c.lt d).2 (e x d)
theorem aV.qH{n:Nat}{b:aG}{k:IntKind}(u:aV F a b)(c:bU n k a s l)(d:∀x,s.aD=some x->¬F x.block):bU n k b s l:=
 ⟨u.own c.own d,c.wf⟩
def ET(F:Nat->Prop)(P:Program)(m:aK)(tys:List Ty)(h:aG)(R:Ts.den tys->aG->Prop):Prop:=
 wp P m h λt vs h'=>t=0/\aV F h h'/\∃x,vs=Ts.inj tys x/\R x h'
theorem Ui{m:aK}{tys:List Ty}{K:Ts.den tys->aK}{R:Ts.den tys->aG->Prop}(g:ET F P m tys h R)(e:∀x h',aV F h h'->R x h'->wp P (K x) h' Q) :
  wp P (.call m tys K) h Q:=
 cM m (λ_ _ _ ⟨a,b,x,c,d⟩=>⟨a,x,c,e x _ b d⟩) g
theorem sR{q:Addr}{j:Nat}{v:Value}{K:aK}(b:cell h (q.add j)=some v)(c:wp P K h Q):wp P (.check (aB (some q) j) [v] K) h Q:=by
 refine⟨⟨q.add j,rfl,aI.2 λi u hi=>?_⟩,c⟩;cases i with
 |zero=>simp at hi;subst hi;rw[add_zero'];exact b
 |succ i=>simp at hi
theorem iQ{n size bytes:Nat}{zero:List Value}{old new:List Value}{K:Sl->aK}(J:cA n size h s old)(I:n<=h.size)(m:Rd size h x new)
  (H:∀v∈new,flat v=true) (L:zero.length=size) (k:(s.len+x.len)*bytes<=140737488355328) (hlen:s.len+x.len<2^63)
  (u:∀r h',cA n size h' r (old++new)->r.len=s.len+x.len->jU s h h'->(∀a,r.aD=some a->s.aD=some a\/(h.size<=a.block))->(r.aD=s.aD\/Ext h h')->wp P (K r) h' Q) :
  wp P (.append size bytes zero s x K) h Q:=by
 refine⟨new,m.Hs,?_⟩;obtain⟨o1,o2,y,d⟩:=J;have c:(old++new).length=(s.len+x.len)*size:=by rw[bP,<-o1,<-m.1,CH]
 by_cases f:s.len+x.len<=s.cap
 .simp only[f,if_true]
  cases hb:s.aD with
  |none=>
   rw[hb]at d;simp only at d⊢;have o:s.len=0:=by omega
   have p:x.len=0:=by omega
   refine u _ _ ⟨c.symm,f,y,d⟩ rfl ⟨bM _,λ_ _ _=>rfl,λ_ e=>e⟩ (λa ha=>by cases ha) (.inl hb.symm)
  |some a=>
   rw[hb]at d;obtain⟨b,off,spot⟩:=a;obtain⟨e0,o,p,cs,elem,A,B,G⟩:=d;simp only at e0 o p A;subst e0;subst o;have t:s.len*size+new.length<=cs.size:=by
    rw[B,<-m.1,<-CH];exact JJ _ f
   have q:(Addr.mk b 0 none).add (s.len*size)=⟨b,s.len*size,none⟩:=by simp[pI]
   obtain⟨w,z,c1,c2,c3,D,O,E⟩:=mH (i:=0) (off:=s.len*size) A H (by simpa using t);simp only[q];refine⟨w,u _ _ ⟨c.symm,f,y,rfl,rfl,p,z,elem,c1,by rw[c2,B],λi v hi=>?_⟩ rfl ⟨by unfold nY;omega,λi hi C=>E i λe=>(C _ hb) e.symm,λa e=>by unfold nY;rw[jH];exact e⟩ (λa ha=>Or.inl (hb.trans ha)) (.inl hb.symm)⟩;rw[RS]at hi;split at hi
   .rename_i N
    rw[D i (Or.inl (by omega))];exact G i v hi
   .rename_i M
    have:=c3 _ _ hi;rw[o1]at this;rw[show old.length+0+(i-old.length)=i by omega]at this;exact this
 .simp only[f,if_false]
  refine⟨old,Rd.Hs (cA.rd ⟨o1,o2,y,d⟩),growslice_fits (by omega) k,hlen,λcap elem g j=>?_⟩;refine u _ _ ⟨c.symm,g,j,rfl,rfl,I,_,elem,Ee,?_,λi v hi=>?_⟩ rfl ⟨by simp,λi hi _=>Br h _ hi,(Ext.push h _ _).2.2⟩ (λa ha=>Or.inr (by cases ha;exact bM _)) (.inr (Ext.push h _ _))
  .simp only[Mh,bP,Kz L]
   rw[<-o1,<-m.1,<-CH,<-CH,Nat.add_sub_cancel' g]
  .simp only[RU]
   rw[mL (by
    have:=(cR.1 hi).1;exact this)]
   exact hi
theorem uT{n bytes:Nat}{k:IntKind}{m:List Int}{K:Sl->aK}(g:bU n k h s l)(q:n<=h.size)(o:kW k h x m)(j:(l.length+m.length)*bytes<=140737488355328)(hlen:l.length+m.length<2^63)
  (t:∀r h',gZ n h h'->bU n k h' r (l++m)->jU s h h'->(∀a,r.aD=some a->s.aD=some a\/(h.size<=a.block))->(r.aD=s.aD\/Ext h h')->wp P (K r) h' Q) :
  wp P (.append 1 bytes [.int k 0] s x K) h Q:=by
 have p:=g.len;have hm:=o.len;refine iQ g.own q o.rd (by intro y f;obtain⟨z,_,rfl⟩:=dA.1 f;rfl) rfl (by rw[p,hm];exact j) (by rw[p,hm];exact hlen) λr h' a b c d e=>?_;refine t r h' (jU.aP g.own q c) ⟨by simpa using a,?_⟩ c d e;intro y f;rcases dH.1 f with f|f
 .exact g.wf y f
 .exact o.wf y f
end
end Go.Sw
namespace Go.Sw.Tree
section
variable{P:Program}{h:aG}{Q:Nat->List Value->aG->Prop}
variable{a:Addr}{vs:List Value}
abbrev iv(n:Int):Value:=.int .i64 n
abbrev TR:=Option Addr×Unit
theorem jR(p:Option Addr){K:Addr->aK}(b:∀h',Ext h h'->cA h.size 1 h' ⟨some ⟨h.size,0,none⟩,1,1⟩ [.pointer p]->wp P (K ⟨h.size,0,none⟩) h' Q):wp P (.alloc [.pointer p] K) h Q:=
 λelem=>b _ (Ext.push ..) (bR rfl (by decide) (by decide))
theorem jX{n:Nat}{p:Option Addr}{K:Option Addr->aK}(d:cA n 1 h ⟨some a,1,1⟩ [.pointer p])(c:wp P (K p) h Q):wp P (.load (.one .ptr) (aB (some a) 0) K) h Q:=
 bX (b:=.ptr) (x:=p) rfl d.cells rfl c
theorem mW{n:Nat}{p:Option Addr}{K:TR->aK}(c:cA n 1 h ⟨some a,1,1⟩ [.pointer p])(b:wp P (K (p,())) h Q):wp P (.load (.agg [.ptr]) (some a) K) h Q:=
 ⟨a,rfl,(p,()),c.cells,b⟩
theorem oR{n:Nat}{q:Option Addr}(p:Option Addr){K:aK}(c:cA n 1 h ⟨some a,1,1⟩ [.pointer q])(b:∀h',cA n 1 h' ⟨some a,1,1⟩ [.pointer p]->jU ⟨some a,1,1⟩ h h'->wp P K h' Q) :
  wp P (.store (some a) [.pointer p] K) h Q:=by
 have:=Dn (P:=P) (Q:=Q) (K:=K) (pre:=[]) (old:=[.pointer q]) [.pointer p] c rfl rfl (by intro v d;rw[dE.1 d];rfl) b;simpa[aB,add_zero'] using this
theorem Bz{n m c:Nat}{ws:List Value}{b:Addr}(k:cA n 1 h ⟨some b,m,c⟩ ws)(d:Cells h a vs)(j:c<vs.length):b.block≠a.block:=by
 intro e;obtain⟨_,_,_,o⟩:=k;obtain⟨e0,r,t,cs,elem,f,g,u⟩:=o;have c0:=aI.1 d 0 _ (cL (by omega));have c1:=aI.1 d c _ (cL j);rw[add_zero']at c0;obtain⟨p,q,sp⟩:=a;dsimp only at e;cases sp with
 |some s=>unfold cell at c0;dsimp only at c0;split at c0<;>simp at c0
 |none=>
  rw[pI]at c1;unfold cell at c1;dsimp only at c1;rw[<-e,f]at c1;simp at c1;have:=(wT.1 c1).1;dsimp only at g;omega
theorem xO{b:Addr}{m c:Nat}{h h':aG}(u:jU ⟨some b,m,c⟩ h h')(f:Cells h a vs)(e:b.block≠a.block):Cells h' a vs:=
 aI.2 λj v g=>by
  have c:=aI.1 f j v g;have d:=BY c;unfold Sw.cell at c⊢;rw[u.2.1 (a.add j).block d (by intro x k;cases k;rw[iS];exact e)];exact c
theorem least{p:Nat->Prop}:∀n,p n->∃m,p m/\∀k,p k->m<=k:=by
 intro n
 induction n using Nat.strongRecOn with
 |ind n g=>
  intro e;by_cases d:∃k,k<n/\p k
  .obtain⟨k,b,f⟩:=d;exact g k b f
  .exact⟨n,e,λk b=>Nat.le_of_not_lt λc=>d ⟨k,c,b⟩⟩
open Classical in
theorem dQ{G:Type}{tys:List Ty}{s:Ts.den tys}{body:Ts.den tys->aK}{K:Nat->List Value->aK}(J:G->Ts.den tys->aG->Prop)(ρ:G->Nat)(R:Nat->List Value->aG->Prop)(o:G)(h0:J o s h)
  (v:∀g s h,J g s h->wp P (body s) h λtag vs h'=>(tag=0->∃c d,vs=Ts.inj tys d/\J c d h'/\ρ c<ρ g)/\(tag≠0->R tag vs h'))
  (q:∀t vs h',R t vs h'->wp P (K t vs) h' Q):wp P (.bind (.loop tys s body) K) h Q:=by
 have key:∀s h,(∃g,J g s h)->∃m,(∃g,J g s h/\ρ g=m)/\∀g,J g s h->m<=ρ g:=by
  intro s h ⟨g,f⟩;obtain⟨m,hm,r⟩:=least (p:=λm=>∃g,J g s h/\ρ g=m) (ρ g) ⟨g,f,rfl⟩;exact⟨m,hm,λg f=>r _ ⟨g,f,rfl⟩⟩
 refine bL (λs h=>∃g,J g s h) (λs h=>if j:∃g,J g s h then Classical.choose (key s h j) else 0) R ⟨o,h0⟩ ?_ q;intro s h j;obtain⟨⟨g,f,u⟩,_⟩:=Classical.choose_spec (key s h j);refine cM (body s) (λt vs h' ⟨a,b⟩=>⟨λht=>?_,b⟩) (v g s h f);obtain⟨c,d,e,n,w⟩:=a ht;refine⟨d,e,⟨c,n⟩,?_⟩;have k:∃g,J g d h':=⟨c,n⟩;have y:=(Classical.choose_spec (key d h' k)).2 c n;rw[dif_pos j,dif_pos k,<-u];omega
theorem lB(a b:Int):NQ a b=min a b:=by unfold NQ;split<;>omega
theorem kM(a:Int):gM a a=true:=cK.2 rfl
def rL(i j:Int)(n:Nat):Prop:=0<=i/\i<=j/\j<=n
theorem fP{n m c:Nat}{old:List Value}(new:List Value){K:aK}(f:cA n 1 h ⟨some a,m,c⟩ old)(e:new.length=old.length)(b:∀v∈new,flat v=true)
  (d:∀h',cA n 1 h' ⟨some a,m,c⟩ new->jU ⟨some a,m,c⟩ h h'->wp P K h' Q):wp P (.store (some a) new K) h Q:=by
 have:=Dn (P:=P) (Q:=Q) (K:=K) (pre:=[]) (old:=old) new f rfl e b d;simpa[aB,add_zero'] using this
theorem kK{n:Nat}{v:Value}(o:cA n 1 h ⟨some a,1,1⟩ [v]):Sw.cell h a=some v:=by
 have:=aI.1 o.cells 0 v rfl
 rwa [add_zero']at this
end
end Go.Sw.Tree
namespace Go.Sw
section
variable{P:Program}{h:aG}{Q:Nat->List Value->aG->Prop}
variable{a:aG}{F:Nat->Prop}{i:Nat}{o':Obj}
def own(n m i:Nat):Prop:=n<=i/\i<n+m
def iI(W:Nat->Prop)(h h':aG):Prop:=h.size<=h'.size/\(∀i,i<h.size->W i->h'[i]?=h[i]?)/\∀a,IX h a=false->IX h' a=false
theorem iI.refl(W:Nat->Prop)(h:aG):iI W h h:=⟨bM _,λ_ _ _=>rfl,λ_ x=>x⟩
theorem iI.trans{W:Nat->Prop}{a b c:aG}(u:iI W a b)(v:iI W b c):iI W a c:=
 ⟨dI u.1 v.1,λi hi hw=>(v.2.1 i (mK hi u.1) hw).trans (u.2.1 i hi hw),λx d=>v.2.2 x (u.2.2 x d)⟩
theorem iI.mono{W V:Nat->Prop}{b:aG}(u:iI W a b)(c:∀i,i<a.size->V i->W i):iI V a b:=⟨u.1,λi hi hw=>u.2.1 i hi (c i hi hw),u.2.2⟩
theorem iI.NT{W:Nat->Prop}{b:aG}(c:aV F a b)(d:∀i,i<a.size->W i->¬F i):iI W a b:=⟨c.1,λi hi hw=>c.2.1 i hi (d i hi hw),c.2.2⟩
theorem iI.bD{W:Nat->Prop}{b:aG}(e:Ext a b):iI W a b:=⟨e.1,λi hi _=>e.2.1 i hi,e.2.2⟩
theorem iI.cell{W:Nat->Prop}{a b:aG}(u:iI W a b){x:Addr}{v:Value}(c:Sw.cell a x=some v)(hw:W x.block):Sw.cell b x=some v:=by
 have d:=BY c;unfold Sw.cell at c⊢;rw[u.2.1 _ d hw];exact c
theorem XB{h:aG}{o:Obj}(d:h[i]?=some o)(h0:∀c e f,o' ≠ .cells c e f)(a:Addr)(ha:IX h a=false):IX (h.setIfInBounds i o') a=false:=by
 unfold IX at ha⊢;by_cases hi:i=a.block
 .subst hi
  have b:=(wT.1 d).1;rw[WQ,if_pos b];cases o' with
  |cells c e f=>exact absurd rfl (h0 c e f)
  |_=>rfl
 .rw[yH hi];exact ha
theorem BZ{h:aG}{o:Obj}(d:h[i]?=some o)(h0:∀c e f,o' ≠ .cells c e f):aV (own i 1) h (h.setIfInBounds i o'):=
 ⟨by simp,λj g b=>by rw[yH];intro e;exact b ⟨by omega,by omega⟩,XB d h0⟩
theorem By{h:aG}{o:Obj}(b:h[i]?=some o):(h.setIfInBounds i o')[i]?=some o':=by
 rw[WQ,if_pos (wT.1 b).1]
theorem rR(h:aG)(i:Nat)(o:Obj):(h.setIfInBounds i o).size=h.size:=by simp
theorem C3(h:aG)(o:Obj)(h0:∀c e f,o ≠ .cells c e f):Ext h (h.push o):=by
 refine⟨by simp,λi hi=>Br h o hi,λa ha=>?_⟩;unfold IX at ha⊢;by_cases hi:a.block<h.size
 .rw[Br h o hi];exact ha
 .by_cases he:a.block=h.size
  .rw[he,Ee]
   cases o with
   |cells c e f=>exact absurd rfl (h0 c e f)
   |_=>rfl
  .rw[KG (by simp;omega)]
def k_(P:Program)(it:Value)(N:Nat)(A:Nat->aG->aG->List Value->Prop)(Z:Nat->Prop)(m:Nat)(h0:aG):Prop:=
 ∀(h:aG) (y:Value) (J:Nat->aG->Prop) (F:aG->Prop),h0.size<=h.size->iI Z h0 h->flat y=true ->
  (∀k a b,J k a->aV (own h.size m) a b->J k b)->(∀a b,F a->aV (own h.size m) a b->F b) ->
  (∀k hp h1 args,k<N->J k hp->h.size<=hp.size->aV (own h.size m) hp h1->h.size+m<=h1.size->iI Z h0 h1->A k hp h1 args ->
   OF P y args h1 λvs h2=>∃b,vs=[.bool b]/\iI (λi=>own h.size m i\/(Z i/\i<h0.size)) h1 h2/\(b=true->J (k+1) h2)/\(b=false->F h2)) ->
  J 0 h->OE P it [y] h λvs h'=>vs=[]/\h.size<=h'.size/\iI Z h0 h'/\(J N h'\/F h')
theorem iI.step{Z V:Nat->Prop}{h0 b:aG}(u:iI Z h0 a)(v:iI V a b)(d:∀i,i<h0.size->Z i->V i):iI Z h0 b:=
 ⟨dI u.1 v.1,λi hi c=>(v.2.1 i (mK hi u.1) (d i hi c)).trans (u.2.1 i hi c),λx e=>v.2.2 x (u.2.2 x e)⟩
theorem iI.oY{Z:Nat->Prop}{h0 b:aG}(u:iI Z h0 a)(v:aV F a b)(d:∀i,i<h0.size->Z i->¬F i):iI Z h0 b:=
 ⟨dI u.1 v.1,λi hi c=>(v.2.1 i (mK hi u.1) (d i hi c)).trans (u.2.1 i hi c),λx e=>v.2.2 x (u.2.2 x e)⟩
theorem HK{r:Loop}(h1:r.state = .ready)(b:r.pending=none):zU r 0=r:=by
 cases r;simp only at h1 b;subst h1;subst b;rfl
theorem du{f:Value}{tys outs:List Ty}{X:Ts.den tys->aK}{body:Ts.den outs->aK}{K:Nat->aK}{N:Nat}{A:Nat->aG->aG->List Value->Prop}{Z:Nat->Prop}{m:Nat}{h0:aG}
  (it:k_ P f N A Z m h0) (kz:iI Z h0 h) (J:Nat->aG->Prop) (F:Nat->aG->Prop)
  (W:∀k a b,J k a->aV (own h.size (m+2)) a b->J k b) (sF:∀k a b,F k a->aV (own h.size (m+2)) a b->F k b)
  (hA:∀k B g args,A k B g args->∃x,args=Ts.inj tys x)
  (hr:∀k B g x,k<N->J k B->h.size+2<=B.size->aV (own h.size (m+2)) B g->h.size+2+m<=g.size->iI Z h0 g->A k B g (Ts.inj tys x) ->
   wp P (X x) g λtag vs D=>tag=0/\∃y,vs=Ts.inj outs y/\iI (λi=>own h.size (m+2) i\/(Z i/\i<h0.size)) g D /\
    ∀H,aV (own h.size (m+2)) D H->H.size=D.size->wp P (body y) H λtag _ w=>iI (λi=>own h.size (m+2) i\/(Z i/\i<h0.size)) H w/\(tag=0->J (k+1) w)/\(tag≠0->F tag w))
  (j0:J 0 h)
  (hk:∀j u,h.size+2<=u.size->iI Z h0 u->(j=0/\J N u\/j≠0/\F j u)->wp P (K j) u λt vs E=>iI (own h.size 1) u E/\∀h7,aV (own h.size 1) E h7->h7.size=E.size->Q t vs h7) :
  wp P (.range f tys outs X body K) h Q:=by
 intro r T U hy;have hs:((h.push (.deferred (some []))).push (.loop r)).size=h.size+2:=by simp
 have hd:((h.push (.deferred (some []))).push (.loop r))[h.size]?=some (.deferred (some [])):=by
  rw[Br _ _ (by simp),Ee]
 have hl:((h.push (.deferred (some []))).push (.loop r))[h.size+1]?=some (.loop r):=by
  have:=Ee (xs:=h.push (.deferred (some []))) (x:=.loop r);simpa using this
 have e2:Ext h ((h.push (.deferred (some []))).push (.loop r)):=(C3 h _ (by intro c e f x;cases x)).trans (C3 _ _ (by intro c e f x;cases x));generalize(h.push (.deferred (some []))).push (.loop r)=p at hs hd hl e2⊢;have bt:h0.size<=h.size:=kz.1
 let v:Nat->aG->Prop:=λj a=>a[h.size]?=some (.deferred (some []))/\a[h.size+1]?=some (.loop (zU r j))
 have C:∀j a b,v j a->p.size<=a.size->aV (own p.size m) a b->v j b:=λj a b x hl c=>
  ⟨(c.2.1 _ (by omega) λo=>by have:=o.1;omega).trans x.1,(c.2.1 _ (by omega) λo=>by have:=o.1;omega).trans x.2⟩
 have inner:∀i,own p.size m i->own h.size (m+2) i:=λi o=>⟨by have:=o.1;omega,by have:=o.2;omega⟩;have key:=it p (VE (h.size+1)) (λk a=>J k a/\v 0 a/\p.size<=a.size) (λa=>∃j,j≠0/\F j a/\v j a/\p.size<=a.size) (by omega) (kz.step (V:=λ_=>True) (iI.bD e2) λ_ _ _=>trivial) rfl
  (λk a b ⟨x,y,z⟩ c=>⟨W k a b x (c.mono λi _ o=>inner i o),C _ _ _ y z c,dI z c.1⟩)
  (λa b ⟨j,O,x,y,z⟩ c=>⟨j,O,sF j a b x (c.mono λi _ o=>inner i o),C _ _ _ y z c,dI z c.1⟩)
  (λk B g args hk ⟨x,y,z⟩ bb c bd hz ha=>?_)
  ⟨W 0 h p j0 (aV.bD e2),⟨hd,by rw[HK T U];exact hl⟩,bM _⟩
 .refine OE.mono key λvs u ⟨_,bp,ba,hx⟩=>?_
  have fin:∀j,v j u->(j=0/\J N u\/j≠0/\F j u)->∃j,u[h.size+1]?=some (.loop (zU r j)) /\
    wp P (K j) (u.setIfInBounds (h.size+1) (.loop (QD (zU r j)))) λt vs E=>E[h.size]?=some (.deferred (some []))/\Q t vs (E.setIfInBounds h.size (.deferred none)):=λj M O=>by
   refine⟨j,M.2,?_⟩;have cs:=BZ (o':=.loop (QD (zU r j))) M.2 (by intro c e f x;cases x);have ab:aV (own h.size (m+2)) u (u.setIfInBounds (h.size+1) (.loop (QD (zU r j)))):=cs.mono λi _ o=>⟨by have:=o.1;omega,by have:=o.2;omega⟩;refine cM _ (λt vs E ⟨L,hq⟩=>?b1) (hk j _ (by rw[rR];omega) (ba.oY cs λi hi _ o=>by have:=o.1;omega) ?b2)
   case b1=>
    have al:E[h.size]?=some (.deferred (some [])):=by
     rw[L.2.1 h.size (by rw[rR];omega) ⟨bM _,by omega⟩,yH (by omega)];exact M.1
    exact⟨al,hq _ (BZ al (by intro c e f x;cases x)) (rR ..)⟩
   case b2=>
    rcases O with⟨g,p⟩|⟨g,p⟩
    .exact .inl ⟨g,W _ _ _ p ab⟩
    .exact .inr ⟨g,sF _ _ _ p ab⟩
  rcases hx with⟨O,a7,_⟩|⟨j,a5,hf,a8,_⟩
  .exact fin 0 a7 (.inl ⟨rfl,O⟩)
  .exact fin j a8 (.inr ⟨a5,hf⟩)
 .obtain⟨xs,rfl⟩:=hA _ _ _ _ ha
  have y1:=C _ _ _ y z c;have cm:aV (own h.size (m+2)) B g:=c.mono λi _ o=>inner i o;refine hy xs g _ (by rw[y1.2,HK T U]) (cM _ (λtag vs D ⟨ht,yy,hv,L,hb⟩=>?_) (hr k B g xs hk x (by omega) cm (by omega) hz ha));have ao:D[h.size]?=some (.deferred (some [])):=(L.2.1 _ (by omega) (.inl ⟨by omega,by omega⟩)).trans y1.1;have R:D[h.size+1]?=some (.loop r):=by rw[L.2.1 _ (by omega) (.inl ⟨by omega,by omega⟩),y1.2,HK T U]
  have c3:=BZ (o':=.loop (Qe r)) R (by intro c e f x;cases x);refine⟨ht,yy,hv,R,cM _ (λd bs w ⟨I,a6,a0⟩=>?_) (hb _ (c3.mono λi _ o=>⟨by have:=o.1;omega,by have:=o.2;omega⟩) (rR ..))⟩;have bo:=L.1;have a9:=I.1;rw[rR]at a9;have S:w[h.size+1]?=some (.loop (Qe r)):=by
   rw[I.2.1 _ (by rw[rR];omega) (.inl ⟨by omega,by omega⟩)];exact By R
  have aw:w[h.size]?=some (.deferred (some [])):=by
   rw[I.2.1 _ (by rw[rR];omega) (.inl ⟨by omega,by omega⟩),yH (by omega)];exact ao
  have c5:=BZ (o':=.loop (zU r d)) S (by intro c e f x;cases x);have Y:aV (own h.size (m+2)) w (w.setIfInBounds (h.size+1) (.loop (zU r d))):=c5.mono λi _ o=>⟨by have:=o.1;omega,by have:=o.2;omega⟩;have M:v d (w.setIfInBounds (h.size+1) (.loop (zU r d))):=⟨by rw[yH (by omega)];exact aw,By S⟩;refine⟨S,(Bm d).isNone,rfl,?_,λhb=>?_,λhb=>?_⟩
  .have a1:iI (λi=>own p.size m i\/(Z i/\i<h0.size)) g D:=L.mono λi _ o=>o.imp (inner i) id
   have a2:iI (λi=>own p.size m i\/(Z i/\i<h0.size)) D _:=iI.NT c3 λi _ o q=>by rcases o with o|o<;>(have:=o.1;have:=o.2;have:=q.1;have:=q.2;omega)
   have a3:iI (λi=>own p.size m i\/(Z i/\i<h0.size)) _ w:=I.mono λi _ o=>o.imp (inner i) id;have a4:iI (λi=>own p.size m i\/(Z i/\i<h0.size)) w _:=iI.NT c5 λi _ o q=>by rcases o with o|o<;>(have:=o.1;have:=o.2;have:=q.1;have:=q.2;omega)
   exact((a1.trans a2).trans a3).trans a4
  .have G:d=0:=by
    match d,hb with
    |0,_=>rfl
    |1,hb=>simp[Bm]at hb
    |n+2,hb=>simp[Bm]at hb
   subst G;exact⟨W _ _ _ (a6 rfl) Y,M,by rw[rR];omega⟩
  .have G:d≠0:=by rintro rfl;simp[Bm]at hb
   exact⟨d,G,sF _ _ _ (a0 G) Y,M,by rw[rR];omega⟩
end
end Go.Sw
