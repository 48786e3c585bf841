
/- Steps. -/
import Derived.Test.YtncolficnfcdcaaGreatSwSw
import Derived.Laws.Append
import Derived.Laws.BitsAllLaws
import Derived.Laws.BitsLemmas
set_option linter.unusedVariables false
set_option linter.unusedSimpArgs false
namespace Go.Sw
section
variable{a:Int}{i:Nat}{vs:List Value}{h':aG}{s:Sl}{l:List Int}{X:aK}
def gZ(n:Nat)(h h':aG):Prop:=h.size<=h'.size/\(∀i,i<n->h'[i]?=h[i]?)/\∀a,IU h a=false->IU h' a=false
def Ext(h h':aG):Prop:=gZ h.size h h'
theorem gZ.refl(n:Nat)(h:aG):gZ n h h:=⟨bM _,λ_ _=>rfl,λ_ e=>e⟩
theorem Ext.refl(h:aG):Ext h h:=gZ.refl _ h
theorem gZ.trans{n:Nat}{a b c:aG}(h:gZ n a b)(k:gZ n b c):gZ n a c:=
 ⟨dI h.1 k.1,λi hi=>(k.2.1 i hi).trans (h.2.1 i hi),λa e=>k.2.2 a (h.2.2 a e)⟩
theorem gZ.mono{n m:Nat}{a b:aG}(h:gZ n a b)(hm:m<=n):gZ m a b:=⟨h.1,λi hi=>h.2.1 i (mK hi hm),h.2.2⟩
theorem Ext.trans{a b c:aG}(h:Ext a b)(k:Ext b c):Ext a c:=gZ.trans h (gZ.mono k h.1)
theorem Ext.aP{n:Nat}{a b:aG}(h:Ext a b)(c:n<=a.size):gZ n a b:=gZ.mono h c
theorem Bu(h:aG)(o:Obj)(hi:i<h.size):(h.push o)[i]?=h[i]? := by
 rw[Array.getElem?_push];have:i≠h.size:=by omega
 simp[this]
theorem Ext.push(h:aG)(c:Array Value)(elem:TypeId):Ext h (h.push (.cells c elem)):=by
 refine⟨by simp,λi hi=>Bu h _ hi,λa ha=>?_⟩;unfold IU at ha⊢;by_cases hi:a.block<h.size
 .rw[Bu h _ hi];exact ha
 .by_cases he:a.block=h.size
  .rw[he,Ef];simp
  .rw[KF (by simp;omega)]
theorem BY{h:aG}{a:Addr}{v:Value}(b:cell h a=some v):a.block<h.size:=by
 unfold cell at b;by_cases hb:a.block<h.size
 .exact hb
 .rw[KF (by omega)]at b;simp at b
theorem gZ.cell{n:Nat}{h h':aG}(k:gZ n h h'){a:Addr}(ha:a.block<n):cell h' a=cell h a:=by
 unfold Sw.cell;rw[k.2.1 _ ha]
theorem Ext.cell{h h':aG}(k:Ext h h'){a:Addr}{v:Value}(b:Sw.cell h a=some v):Sw.cell h' a=some v:=by
 rw[gZ.cell k (BY b)];exact b
@[simp] theorem iT (a:Addr) (n:Nat):(a.add n).block=a.block:=by unfold Addr.add;split<;>rfl
@[simp] theorem VN (a:Addr) (n:Nat):(a.add n).off=a.off+n:=by unfold Addr.add;split<;>simp_all
theorem pK(b off n:Nat):(Addr.mk b off none).add n=⟨b,off+n,none⟩:=by unfold Addr.add;split<;>simp_all
theorem MK{a:Addr}(h:a.spot=none)(n:Nat):(a.add n).spot=none:=by unfold Addr.add;split<;>simp_all
theorem add_zero'(a:Addr):a.add 0=a:=by simp[Addr.add]
theorem add_add(a:Addr)(m n:Nat):(a.add m).add n=a.add (m+n):=by
 unfold Addr.add;by_cases hm:m=0<;>by_cases b:n=0<;>simp[hm,b,BD]
theorem OO{h:aG}{a:Addr}:∀{vs:List Value} {i:Nat},A0 h a i vs↔∀j v,vs[j]?=some v->cell h (a.add (i+j))=some v:=by
 intro vs
 induction vs with
 |nil=>intro i;simp[A0]
 |cons v vs e=>
  intro i;simp only[A0,e];constructor
  .rintro⟨d,c⟩ j u b
   cases j with
   |zero=>simp at b;subst b;simpa using d
   |succ j=>have:=c j u (by simpa using b);rwa [BD,F1 1 j]at this
  .intro c
   refine⟨by simpa using c 0 v (by simp),λj u b=>?_⟩;have:=c (j+1) u (by simpa using b)
   rwa [BD,F1 1 j]
theorem aI{h:aG}{a:Addr}:Cells h a vs↔∀j v,vs[j]?=some v->cell h (a.add j)=some v:=by
 unfold Cells;rw[OO];simp
theorem Ext.cells{h:aG}(k:Ext h h'){a:Addr}(b:Cells h a vs):Cells h' a vs:=by
 rw[aI]at b⊢;exact λj v c=>k.cell (b j v c)
def Rd(size:Nat)(h:aG)(s:Sl)(vs:List Value):Prop:=
 s.len*size=vs.length/\∀i v,vs[i]?=some v->∃a,s.aD=some a/\cell h (a.add i)=some v
theorem Ext.rd{h:aG}(k:Ext h h'){size:Nat}(b:Rd size h s vs):Rd size h' s vs:=
 ⟨b.1,λi v hi=>let ⟨a,e,c⟩:=b.2 i v hi;⟨a,e,k.cell c⟩⟩
def Dz(k:IntKind)(h:aG)(s:Sl)(l:List Int):Prop:=Rd 1 h s (l.map (.int k))
theorem Dz.len{k:IntKind}{h:aG}{s:Sl}{l:List Int}(b:Dz k h s l):s.len=l.length:=by have:=b.1;simpa using this
theorem Ext.ints{h:aG}(k:Ext h h'){b:IntKind}(c:Dz b h s l):Dz b h' s l:=k.rd c
theorem Dz.at{k:IntKind}{h:aG}(b:Dz k h s l)(hi:i<l.length) :
  ∃a,s.aD=some a/\cell h (a.add i)=some (.int k (l.getD i 0)):=by
 have:=b.2 i (.int k (l.getD i 0)) (by simp[List.getD,hi]);exact this
theorem Rd.Hs{size:Nat}{h:aG}(b:Rd size h s vs):xO h s.aD (s.len*size) vs:=by
 unfold xO;cases hb:s.aD with
 |none=>
  cases vs with
  |nil=>rfl
  |cons v vs=>obtain⟨a,e,_⟩:=b.2 0 v rfl;rw[hb]at e;cases e
 |some a=>
  refine⟨b.1.symm,aI.2 λj v d=>?_⟩;obtain⟨f,e,c⟩:=b.2 j v d;rw[hb]at e;cases e;exact c
theorem mI{h:aG}{elem:TypeId}{size n c:Nat}(b:n*size=vs.length):Rd size (h.push (.cells vs.toArray elem)) ⟨some ⟨h.size,0,none⟩,n,c⟩ vs:=by
 refine⟨b,λi v hi=>⟨_,rfl,?_⟩⟩;simp[cell,pK,hi]
variable{P:Program}{h:aG}{Q:Nat->List Value->aG->Prop}
theorem aE{b:Bool}{Y:aK}(h1:b=true->wp P X h Q)(c:b=false->wp P Y h Q):wp P (aR b X Y) h Q:=by
 cases b
 .exact c rfl
 .exact h1 rfl
theorem aL{b:Bool}(hb:b=true)(h1:wp P X h Q):wp P (bF b X) h Q:=by subst hb;exact h1
def aS(P:Program)(m:aK)(tys:List Ty)(h:aG)(R:Ts.den tys->aG->Prop):Prop:=
 wp P m h λt vs h'=>t=0/\Ext h h'/\∃x,vs=Ts.inj tys x/\R x h'
theorem aS.mono{m:aK}{tys:List Ty}{R e:Ts.den tys->aG->Prop}(g:aS P m tys h R)(f:∀x h',Ext h h'->R x h'->e x h'):aS P m tys h e:=
 cN m (λ_ _ _ ⟨a,b,x,c,d⟩=>⟨a,b,x,c,f _ _ b d⟩) g
theorem aM{m:aK}{tys:List Ty}{K:Ts.den tys->aK}{R:Ts.den tys->aG->Prop}(g:aS P m tys h R)(e:∀x h',Ext h h'->R x h'->wp P (K x) h' Q) :
  wp P (.call m tys K) h Q:=
 cN m (λ_ _ _ ⟨a,b,x,c,d⟩=>⟨a,x,c,e x _ b d⟩) g
theorem cZ{m:aK}{K:Nat->List Value->aK}(R:Nat->List Value->aG->Prop)(g:wp P m h R)(b:∀t vs h',R t vs h'->wp P (K t vs) h' Q):wp P (.bind m K) h Q:=
 cN m b g
theorem Cn{tys:List Ty}{K:Ts.den tys->aK}(x:Ts.den tys)(e:vs=Ts.inj tys x)(b:wp P (K x) h Q):wp P (.cast tys vs K) h Q:=⟨x,e,b⟩
theorem wp_loop{tys:List Ty}{s:Ts.den tys}{body:Ts.den tys->aK}(I:Ts.den tys->aG->Prop)(μ:Ts.den tys->aG->Nat)(h0:I s h)
  (c:∀s h,I s h->wp P (body s) h λtag vs h'=>(tag=0->∃b,vs=Ts.inj tys b/\I b h'/\μ b h'<μ s h)/\(tag≠0->Q tag vs h')):wp P (.loop tys s body) h Q:=
 ⟨I,μ,h0,c⟩
theorem kN{j:Int}{n:Nat}:eU j n=true↔0<=j/\j<n:=by simp[eU]
theorem sf{j:Int}{n:Nat}:wO j n=true↔0<=j/\j<=n:=by simp[wO]
theorem fA{a b:Bool}:bN a b=true↔a=true/\b=true:=by simp[bN]
theorem aU{b:Int}:fG a b=true↔a<b:=by simp[fG]
theorem gG{b:Int}:yA a b=true↔a<=b:=by simp[yA]
theorem dL{b:Int}:sN a b=true↔b<a:=by simp[sN]
theorem dD{b:Int}:qK a b=true↔b<=a:=by simp[qK]
theorem cM{b:Int}:gN a b=true↔a=b:=by simp[gN]
theorem kG{b:Int}:G8 a b=true↔a≠b:=by simp[G8]
theorem aY{b:Int}:fG a b=false↔b<=a:=by simp[fG]
theorem mN{b:Int}:yA a b=false↔b<a:=by simp[yA]
theorem gF{b:Int}:sN a b=false↔a<=b:=by simp[sN]
theorem eS{b:Int}:qK a b=false↔a<b:=by simp[qK]
theorem dS{b:Int}:gN a b=false↔a≠b:=by simp[gN]
theorem lQ{b:Int}:G8 a b=false↔a=b:=by simp[G8]
theorem dF{a:Bool}:cL a=true↔a=false:=by simp[cL]
theorem eG{a:Bool}:cL a=false↔a=true:=by simp[cL]
theorem Wa{a b:Nat}:jI a b=true↔a=b:=⟨Ed,λh=>h ▸ Nat.beq_refl a⟩
theorem EX{b:Int}(h1 : -2^63<=a+b)(c:a+b<2^63):aT .i64 a b=a+b:=by unfold aT;rw[IntKind.wrap_i64];omega
theorem mm{b:Int}(h1 : -2^63<=a-b)(c:a-b<2^63):bK .i64 a b=a-b:=by unfold bK;rw[IntKind.wrap_i64];omega
theorem VD{k:IntKind}{K:Int->aK}{j:Int}(d:Dz k h s l)(h0:0<=j)(h1:j<l.length)
  (b:wp P (K (l.getD j.toNat 0)) h Q):wp P (.load (.one (.int k)) (aB s.aD (aZ (bP j) 1)) K) h Q:=by
 obtain⟨a,e,c⟩:=d.at (i:=j.toNat) (by omega);refine⟨a.add j.toNat,by simp[aB,e,aZ,bP],l.getD j.toNat 0,?_,b⟩;rw[aI];intro i v hi;cases i with
 |zero=>simp[Ty.cells,B.inj]at hi;subst hi;rw[add_zero'];simpa using c
 |succ i=>simp[Ty.cells]at hi
theorem mu{k:IntKind}{K:Int->aK}{j:Int}(b:Dz k h s l)(h0:0<=j)(h1:j<l.length)
  (c:wp P (K (l.getD j.toNat 0)) h Q):wp P (bF (bN (aJ s.aD) (eU j s.len)) (.load (.one (.int k)) (aB s.aD (aZ (bP j) 1)) K)) h Q:=by
 obtain⟨a,e,_⟩:=b.at (i:=j.toNat) (by omega);refine aL ?_ (VD b h0 h1 c);rw[fA,kN,b.len];exact⟨by simp[aJ,e],h0,h1⟩
theorem bC{b:B}{p:Option Addr}{K:b.den->aK}(a:Addr)(x:b.den)(f:p=some a)(d:cell h a=some (b.inj x))(e:wp P (K x) h Q):wp P (.load (.one b) p K) h Q:=by
 refine⟨a,f,x,aI.2 λj v c=>?_,e⟩;cases j with
 |zero=>simp[Ty.cells]at c;subst c;rw[add_zero'];exact d
 |succ j=>simp[Ty.cells]at c
theorem pO(a:Addr)(n:Nat):aB (some a) n=some (a.add n):=rfl
theorem aN(n:Nat):aQ n=(n:Int):=rfl
theorem eP(n:Int):bP n=n.toNat:=rfl
theorem hO(m n:Nat):aZ m n=m*n:=rfl
def cA(n size:Nat)(h:aG)(s:Sl)(vs:List Value):Prop:=
 s.len*size=vs.length/\s.len<=s.cap/\s.cap<2^63 /\
 match s.aD with
 |none=>s.cap=0
 |some a=>a.off=0/\a.spot=none/\n<=a.block/\∃(cs:Array Value) (elem:TypeId),h[a.block]?=some (.cells cs elem)/\cs.size=s.cap*size/\∀(i:Nat) (v:Value),vs[i]?=some v->cs[i]?=some v
theorem cA.nil(n size:Nat)(h:aG):cA n size h ⟨none,0,0⟩ []:=⟨by simp,by simp,by simp,rfl⟩
theorem cA.rd{n size:Nat}(d:cA n size h s vs):Rd size h s vs:=by
 refine⟨d.1,λi v hi=>?_⟩;obtain⟨c,o,p,b⟩:=d;have j:0<vs.length:=by
  cases vs with
  |nil=>simp at hi
  |cons=>simp
 cases hb:s.aD with
 |none=>
  rw[hb]at b;have:s.len=0:=by simp at b;omega
  rw[this]at c;simp at c;omega
 |some a=>
  rw[hb]at b;obtain⟨e0,e,k,cs,elem,f,m,g⟩:=b;refine⟨a,rfl,?_⟩;simp[cell,f,MK e,e0,g i v hi]
def jU(s:Sl)(h h':aG):Prop:=h.size<=h'.size/\(∀i,i<h.size->(∀a,s.aD=some a->a.block≠i)->h'[i]?=h[i]?)/\∀a,IU h a=false->IU h' a=false
theorem jU.aP{n size:Nat}(c:cA n size h s vs)(d:n<=h.size)(u:jU s h h'):gZ n h h':=by
 refine⟨u.1,λi hi=>u.2.1 i (by omega) (λa ha e=>?_),u.2.2⟩;obtain⟨_,_,_,b⟩:=c;rw[ha]at b;have:=b.2.2.1;omega
theorem Pg{h:aG}{b off:Nat}{cs:Array Value}{elem:TypeId}{f:Nat×Nat}(hb:h[b]?=some (.cells cs elem f))(v:Value) :
  (setCell h ⟨b,off,none⟩ v)[b]?=some (.cells (cs.setIfInBounds off v) elem f)/\(setCell h ⟨b,off,none⟩ v).size=h.size/\∀i,i≠b->(setCell h ⟨b,off,none⟩ v)[i]?=h[i]? := by
 refine⟨?_,by simp[setCell],λi hi=>?_⟩
 .simp[setCell,RV,hb]
 .simp[setCell,RV,Ne.symm hi]
theorem RA(h:aG)(a:Addr)(v:Value)(x:Addr):IU (setCell h a v) x=IU h x:=by
 unfold IU setCell;rw[RV];by_cases hb:a.block=x.block
 .rw[if_pos hb]
  cases h[x.block]? with
  |none=>rfl
  |some o=>cases o<;>rfl
 .rw[if_neg hb]
theorem jH(x a:Addr):∀(vs:List Value) (h:aG) (i:Nat),IU (oD h a i vs) x=IU h x:=by
 intro vs
 induction vs with
 |nil=>intro h i;rfl
 |cons v vs b=>intro h i;simp only[oD];rw[b,RA]
theorem mH:∀{vs:List Value} {h:aG} {b off i:Nat} {cs:Array Value} {elem:TypeId} (_:h[b]?=some (.cells cs elem)) (_:∀v∈vs,flat v=true) (_:off+i+vs.length<=cs.size),
  nL h ⟨b,off,none⟩ i vs/\∃c,(oD h ⟨b,off,none⟩ i vs)[b]?=some (.cells c elem)/\c.size=cs.size /\
   (∀j v,vs[j]?=some v->c[off+i+j]?=some v)/\(∀j,j<off+i\/off+i+vs.length<=j->c[j]?=cs[j]?) /\
   (oD h ⟨b,off,none⟩ i vs).size=h.size/\∀j,j≠b->(oD h ⟨b,off,none⟩ i vs)[j]?=h[j]? := by
 intro vs
 induction vs with
 |nil=>intro h b off i cs elem hb m p;exact⟨trivial,cs,hb,rfl,by simp,by simp,rfl,λ_ _=>rfl⟩
 |cons v vs z=>
  intro h b off i cs elem hb m p;simp only[fM]at p;obtain⟨s1,s2,A⟩:=Pg (off:=off+i) hb v;have g:(Addr.mk b off none).add i=⟨b,off+i,none⟩:=pK ..;have e:cell h ⟨b,off+i,none⟩=some cs[off+i]:=by simp[cell,hb]
  have o:IU h ⟨b,off+i,none⟩=false:=by simp[IU,hb]
  simp only[nL,oD,g];obtain⟨w,c,c1,c2,c3,n,t,y⟩:=z (h:=setCell h ⟨b,off+i,none⟩ v) (b:=b) (off:=off) (i:=i+1) s1 (λu hu=>m u (eK _ hu)) (by simp;omega);refine⟨⟨⟨⟨_,e⟩,o,m v (eO ..)⟩,?_⟩,c,c1,by simpa using c2,?_,?_,by rw[t,s2],λj d=>by rw[y j d,A j d]⟩
  . -- what may be written stays so
   have:∀{us:List Value} {k:Nat},nL (setCell h ⟨b,off+i,none⟩ v) ⟨b,off,none⟩ k us->nL h ⟨b,off,none⟩ k us:=by
    intro us
    induction us with
    |nil=>intro k _;trivial
    |cons u us r=>
     intro k f;simp only[nL]at f⊢;refine⟨⟨?_,?_,f.1.2.2⟩,r f.2⟩
     .obtain⟨x,q⟩:=f.1.1
      have:off+k<cs.size:=by
       simp only[cell,pK,s1]at q;have:=wW.1 (by simpa using q);simpa using this.1
      exact⟨cs[off+k],by simp[cell,pK,hb,this]⟩
     .simp[IU,pK,hb]
   exact this w
  .intro j u d
   cases j with
   |zero=>
    simp at d;subst d;have:=n (off+i) (Or.inl (by omega));rw[F3,this,WQ];simp[show off+i<cs.size by omega]
   |succ j=>
    have:=c3 j u (by simpa using d);rw[show off+i+(j+1)=off+(i+1)+j by omega];exact this
  .intro j d
   simp only[fM]at d;rw[n j (by omega)];rw[WQ];have:off+i≠j:=by omega
   simp[this]
theorem Ky{zero:List Value}{size:Nat}(b:zero.length=size):∀n,(jP zero n).length=n*size:=by
 intro n;induction n with
 |zero=>simp[jP]
 |succ n c=>simp[jP,c,b,F0,F1]
theorem GA{n size bytes:Nat}{zero:List Value}{x:Sl}{old new:List Value}{K:Sl->aK}(I:cA n size h s old)(H:n<=h.size)(m:Rd size h x new)
  (G:∀v∈new,flat v=true) (J:zero.length=size) (k:(s.len+x.len)*bytes<=140737488355328) (hlen:s.len+x.len<2^63)
  (u:∀r h',cA n size h' r (old++new)->r.len=s.len+x.len->jU s h h'->(∀a,r.aD=some a->s.aD=some a\/(h.size<=a.block))->wp P (K r) h' Q) :
  wp P (.append size bytes zero s x K) h Q:=by
 refine⟨new,m.Hs,?_⟩;obtain⟨o1,o2,y,d⟩:=I;have c:(old++new).length=(s.len+x.len)*size:=by rw[bQ,<-o1,<-m.1,CH]
 by_cases f:s.len+x.len<=s.cap
 .simp only[f,if_true]
  cases hb:s.aD with
  |none=>
   rw[hb]at d;simp only at d⊢;have o:s.len=0:=by omega
   have p:x.len=0:=by omega
   refine u _ _ ⟨c.symm,f,y,d⟩ rfl ⟨bM _,λ_ _ _=>rfl,λ_ e=>e⟩ (λa ha=>by cases ha)
  |some a=>
   rw[hb]at d;obtain⟨b,off,spot⟩:=a;obtain⟨e0,o,p,cs,elem,A,B,F⟩:=d;simp only at e0 o p A;subst e0;subst o;have t:s.len*size+new.length<=cs.size:=by
    rw[B,<-m.1,<-CH];exact JH _ f
   have q:(Addr.mk b 0 none).add (s.len*size)=⟨b,s.len*size,none⟩:=by simp[pK]
   obtain⟨w,z,c1,c2,c3,D,N,E⟩:=mH (i:=0) (off:=s.len*size) A G (by simpa using t);simp only[q];refine⟨w,u _ _ ⟨c.symm,f,y,rfl,rfl,p,z,elem,c1,by rw[c2,B],λi v hi=>?_⟩ rfl ⟨by unfold nZ;omega,λi hi C=>E i λe=>(C _ hb) e.symm,λa e=>by unfold nZ;rw[jH];exact e⟩ (λa ha=>Or.inl (hb.trans ha))⟩;rw[RW]at hi;split at hi
   .rename_i M
    rw[D i (Or.inl (by omega))];exact F i v hi
   .rename_i L
    have:=c3 _ _ hi;rw[o1]at this;rw[show old.length+0+(i-old.length)=i by omega]at this;exact this
 .simp only[f,if_false]
  refine⟨old,Rd.Hs (cA.rd ⟨o1,o2,y,d⟩),growslice_fits (by omega) k,hlen,λcap elem g j=>?_⟩;refine u _ _ ⟨c.symm,g,j,rfl,rfl,H,_,elem,Ef,?_,λi v hi=>?_⟩ rfl ⟨by simp,λi hi _=>Bu h _ hi,(Ext.push h _ _).2.2⟩ (λa ha=>Or.inr (by cases ha;exact bM _))
  .simp only[Mi,bQ,Ky J]
   rw[<-o1,<-m.1,<-CH,<-CH,Nat.add_sub_cancel' g]
  .simp only[RY]
   rw[mL (by
    have:=(cQ.1 hi).1;exact this)]
   exact hi
theorem Mc{n size bytes:Nat}{zero:List Value}{old new:List Value}{K:Sl->aK}(B:cA n size h s old)(A:n<=h.size)(k:new.length=size)
  (y:∀v∈new,flat v=true) (D:zero.length=size) (f:(s.len+1)*bytes<=140737488355328) (hlen:s.len+1<2^63)
  (z:∀r h',cA n size h' r (old++new)->r.len=s.len+1->jU s h h'->(∀a,r.aD=some a->s.aD=some a\/(h.size<=a.block))->wp P (K r) h' Q) :
  wp P (.alloc new λa=>.append size bytes zero s ⟨some a,1,1⟩ K) h Q:=by
 intro elem;have e:=Ext.push h new.toArray elem;have p:cA n size (h.push (.cells new.toArray elem)) s old:=by
  obtain⟨o1,o2,E,g⟩:=B;refine⟨o1,o2,E,?_⟩;cases hb:s.aD with
  |none=>rw[hb]at g;exact g
  |some a=>
   rw[hb]at g;obtain⟨e0,q,t,cs,el,j,u,w⟩:=g;refine⟨e0,q,t,cs,el,?_,u,w⟩;rw[e.2.1 _ (by by_cases m:a.block<h.size;exact m;rw[KF (by omega)]at j;cases j)];exact j
 refine GA p (dI A e.1) (mI (by simp[k])) y D f hlen λr h' a b c d=>z r h' a b ⟨dI e.1 c.1,λi hi o=>(c.2.1 i (mK hi e.1) o).trans (e.2.1 i hi),λa x=>c.2.2 a (e.2.2 a x)⟩ λx C=>?_;rcases d x C with d|d
 .exact Or.inl d
 .refine Or.inr (dI e.1 d)
end
end Go.Sw
