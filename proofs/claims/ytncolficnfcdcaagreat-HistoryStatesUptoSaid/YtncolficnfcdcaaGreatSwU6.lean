
/- Steps. -/
import Derived.Test.YtncolficnfcdcaaGreatSwU5
set_option linter.unusedVariables false
set_option linter.unusedSimpArgs false
namespace Go.Sw
section
variable{P:Program}{h:aE}{Q:Nat->List Value->aE->Prop}
variable{l:fR}{h':aE}{v:Int}{α:Type}
structure Cx(l:fR)(c:Nat):Prop where
 keys:(l.map (·.1)).Nodup
 OL:(l.map (·.2.2)).Nodup
 old:∀e,e∈l->e.2.2<c
 fk:∀e,e∈l->cR .i64 e.1/\cR .i64 e.2.1
theorem Cx.nil(c:Nat):Cx [] c:=⟨Jk,Jk,by simp,by simp⟩
def sS(h:aE)(m:Nat)(l:fR):Prop:=∃c,h[m]?=some (mU l c)/\Cx l c
theorem sS.lt{m:Nat}(r:sS h m l):m<h.size:=let ⟨_,a,_⟩:=r;(zZ.1 a).1
theorem sS.ok{m:Nat}(r:sS h m l):∃c,Cx l c:=let ⟨c,_,a⟩:=r;⟨c,a⟩
theorem sS.oQ{F:Nat->Prop}{m:Nat}(r:sS h m l)(u:aY F h h')(d:¬F m):sS h' m l:=by
 obtain⟨c,a,b⟩:=r;exact⟨c,by rw[u.2.1 m (zZ.1 a).1 d];exact a,b⟩
theorem sS.ext{m:Nat}(r:sS h m l)(u:Ext h h'):sS h' m l:=r.oQ (aY.bH (F:=λ_=>False) u) id
theorem Dy{c:Nat}:∀a b d,mU l c ≠ .cells a b d:=by intro a b d h;cases h
theorem GN{m:Option Nat}{s:Nat}{x:Array Nat}{c:Nat}:∀a b d,Obj.mapIter m s x c ≠ .cells a b d:=by intro a b d h;cases h
theorem Hf{k:Int}:∀{l:fR},iX k l=none↔k∉l.map (·.1):=by
 intro l
 induction l with
 |nil=>simp[iX]
 |cons e l a=>
  simp only[iX,fK,eJ,not_or];by_cases he:e.1=k
  .simp[he]
  .simp only[he,if_false,a]
   exact⟨λh=>⟨λx=>he x.symm,h⟩,λh=>h.2⟩
theorem Hg{k:Int}:∀{l:fR},(l.map (·.1)).Nodup->(iX k l=some v↔∃b,(k,v,b)∈l):=by
 intro l
 induction l with
 |nil=>simp[iX]
 |cons e l c=>
  intro a;simp only[fK,Cl]at a;simp only[iX,eJ];by_cases he:e.1=k
  .subst he
   simp only[if_true,fW];refine⟨λh=>⟨e.2.2, .inl (by rw[<-h])⟩,λ⟨b,hb⟩=>?_⟩;rcases hb with hb|hb
   .rw[<-hb]
   .exact absurd (wF (f:=(·.1)) hb) a.1
  .simp only[he,if_false,c a.2]
   refine⟨λ⟨b,hb⟩=>⟨b, .inr hb⟩,λ⟨b,hb⟩=>?_⟩;rcases hb with hb|hb
   .rw[<-hb]at he;exact absurd rfl he
   .exact⟨b,hb⟩
theorem Y2{k:Int}:∀{l:fR},(Fp k v l).map (λe=>(e.1,e.2.2))=l.map (λe=>(e.1,e.2.2)):=by
 intro l
 induction l with
 |nil=>rfl
 |cons e l a=>
  simp only[Fp];split
  .rename_i he;subst he;rfl
  .simp[a]
theorem map_fst{a:fR}(h:a.map (λe=>(e.1,e.2.2))=l.map (λe=>(e.1,e.2.2))):a.map (·.1)=l.map (·.1)/\a.map (·.2.2)=l.map (·.2.2):=by
 constructor
 .have:=congrArg (List.map Prod.fst) h
  rw[sL,sL]at this;exact this
 .have:=congrArg (List.map Prod.snd) h
  rw[sL,sL]at this;exact this
theorem SX{k:Int}:∀{l:fR} {e:Int×Int×Nat},e∈Fp k v l->e∈l\/(e.1=k/\e.2.1=v/\∃u,(k,u,e.2.2)∈l):=by
 intro l
 induction l with
 |nil=>intro e h;cases h
 |cons x l f=>
  intro e h;simp only[Fp]at h;split at h
  .rename_i d
   rcases eJ.1 h with rfl|h
   .exact .inr ⟨rfl,rfl,x.2.1,eJ.2 (.inl (by rw[<-d]))⟩
   .exact .inl (dZ _ h)
  .rcases eJ.1 h with rfl|h
   .exact .inl (cX ..)
   .rcases f h with h|⟨a,b,u,c⟩
    .exact .inl (dZ _ h)
    .exact .inr ⟨a,b,u,dZ _ c⟩
theorem Cx.Fp{k v:Int}{l:fR}{c:Nat}(o:Cx l c)(d:cR .i64 k)(f:cR .i64 v):Cx (Fp k v l) c:=by
 obtain⟨a,b⟩:=map_fst (Y2 (k:=k) (v:=v) (l:=l));refine⟨by rw[a];exact o.keys,by rw[b];exact o.OL,λe he=>?_,λe he=>?_⟩
 .rcases SX he with h|⟨_,_,u,h⟩
  .exact o.old _ h
  .exact o.old (k,u,e.2.2) h
 .rcases SX he with h|⟨a,b,u,h⟩
  .exact o.fk _ h
  .exact⟨by rw[a];exact d,by rw[b];exact f⟩
theorem Cx.push{k:Int}{c:Nat}(o:Cx l c)(f:cR .i64 k)(g:cR .i64 v)(d:iX k l=none):Cx (l++[(k,v,c)]) (c+1):=by
 rw[Hf]at d;refine⟨?_,?_,λe he=>?_,λe he=>?_⟩
 .rw[dL,LQ]
  refine⟨o.keys,by simp,λa ha b hb e=>d ?_⟩;simp at hb;rw[<-hb,<-e];exact ha
 .rw[dL,LQ]
  refine⟨o.OL,by simp,λa ha b hb e=>?_⟩;simp at hb;obtain⟨x,i,rfl⟩:=dC.1 ha;have:=o.old _ i;omega
 .rcases dD.1 he with h|h
  .exact Nat.lt_succ_of_lt (o.old _ h)
  .simp at h;subst h;exact Kb _
 .rcases dD.1 he with h|h
  .exact o.fk _ h
  .simp at h;subst h;exact⟨f,g⟩
theorem JR{β:Type}(f:α->β):∀{l:List α},(l.map f).Nodup->∀x∈l,∀y∈l,f x=f y->x=y:=by
 intro l
 induction l with
 |nil=>intro _ x g;cases g
 |cons a l j=>
  intro e x g y i d;simp only[fK,Cl]at e;rcases eJ.1 g with c|c
  .rcases eJ.1 i with b|b
   .rw[c,b]
   .exact absurd (by rw[<-c,d];exact wF (f:=f) b) e.1
  .rcases eJ.1 i with b|b
   .exact absurd (by rw[<-b,<-d];exact wF (f:=f) c) e.1
   .exact j e.2 x c y b d
theorem Y6[BEq α][LawfulBEq α]:∀{l m:List α},l.Nodup->(∀x∈l,x∈m)->l.length<=m.length:=by
 intro l
 induction l with
 |nil=>intro m _ _;exact cS _
 |cons a l f=>
  intro m b c;simp only[Cl]at b;have ha:=c a (cX ..);have:=f (m:=m.erase a) b.2 λx d=>(List.mem_erase_of_ne (λe=>b.1 (by rw[<-e];exact d))).2 (c x (dZ _ d));rw[List.length_erase_of_mem ha]at this;have:0<m.length:=List.length_pos_of_mem ha;simp only[fF];omega
def IL(k v:Int)(l:fR)(c:Nat):fR:=if (iX k l).isSome then Fp k v l else l++[(k,v,c)]
theorem Zy{m:Nat}{k:Int}{K:aK}(r:sS h m l)(n:cR .i64 k)(q:cR .i64 v)
  (p:∀h' c,aY (λi=>i=m) h h'->sS h' m (IL k v l c)->(∀e∈l,e.2.2<c)->wp P K h' Q):wp P (.QG (some m) k v K) h Q:=by
 obtain⟨c,f,o⟩:=r;refine⟨m,l,c,rfl,f,?_⟩;have g:∀j:Obj,(∀a b d,j ≠ .cells a b d)->aY (λi=>i=m) h (h.setIfInBounds m j):=λj s=>(Dl f s).mono λi _ hi=>by unfold own at hi;omega
 unfold IM;cases he:iX k l with
 |none=>
  exact p _ c (g _ Dy) ⟨c+1,by simp only[IL,he];exact C2 f,by simp only[IL,he];exact o.push n q he⟩ o.old
 |some u=>
  exact p _ c (g _ Dy) ⟨c,by simp only[IL,he];exact C2 f,by simp only[IL,he];exact o.Fp n q⟩ o.old
theorem my{m:Nat}{k:Int}{K:Int->Bool->aK}(r:sS h m l)(b:wp P (K ((iX k l).getD 0) (iX k l).isSome) h Q):wp P (.YV (some m) k K) h Q:=by
 obtain⟨c,a,o⟩:=r;exact⟨l,⟨c,a⟩,b⟩
theorem VP{K:Nat->aK}(a:∀h',Ext h h'->h'.size=h.size+1->sS h' h.size []->wp P (K h.size) h' Q):wp P (.O3 K) h Q:=
 a _ (F0 _ _ Dy) (by simp) ⟨0,by simp,Cx.nil 0⟩
theorem Pt{m:Nat}{body:Int->Int->aK}{t:Nat}{K:Nat->List Value->aK}(r:sS h m l)(ht:t≠0)(J:fR->aE->Prop)
  (hJ:∀told d,J told d->∃c n,d[m]?=some (mU n c)/\h[m]?=some (mU l c)/\n.map (λe=>(e.1,e.2.2))=l.map (λe=>(e.1,e.2.2))/\∀e∈l,e∉told->e∈n)
  (a5:∀told d w,J told d->aY (λi=>i=h.size) d w->J told w)
  (h0:∀d,Ext h d->d.size=h.size+1->J [] d)
  (hs:∀told e d,J told d->h.size<d.size->e∈l->e∉told->wp P (body e.1 e.2.1) d λtag M w=>tag=0/\M=[]/\w[h.size]?=d[h.size]? /\ J (told++[e]) w)
  (hk:∀told d,told.Perm l->J told d->wp P (K t []) d Q) :
  wp P (.KP (some m) λa=>.bind (.loop [] () λ_=>.KR (some a) (λ_ _=>.Fo (some a) λk v=>body k v) (.ret t [])) K) h Q:=by
 obtain⟨c,d,o⟩:=r;have a8:=(zZ.1 d).1;refine⟨m,l,c,rfl,d,?_⟩;have e0:Ext h (h.push (.mapIter (some m) c #[] c)):=F0 _ _ GN;refine Tree.dV (G:=fR) (λtold _ g=>J told g/\told.Nodup/\(∀e∈told,e∈l)/\g[h.size]?=some (.mapIter (some m) c (told.map (·.2.2)).toArray c)) (λtold=>l.length-told.length)
  (λtag M g=>tag=t/\M=[]/\∃told,told.Perm l/\J told g) [] ⟨h0 _ e0 (by simp),Jk,by simp,by simp⟩ (λtold _ g ⟨F,H,u,A⟩=>?_) λtg M g ⟨e1,e2,told,hp,F⟩=>?_
 .obtain⟨p,n,V,W,X,Y⟩:=hJ told g F
  have R:mU l p=mU l c:=dW (W.symm.trans d);have Z:p=c:=by unfold mU at R;injection R
  subst Z;obtain⟨f1,f2⟩:=map_fst X;have hlen:n.length=l.length:=by have:=congrArg List.length X;simpa using this
  have a7:(n.map (·.2.2)).Nodup:=by rw[f2];exact o.OL
  have L:=JR (f:=λe:Int×Int×Nat=>e.2.2) a7;have inj:=JR (f:=λe:Int×Int×Nat=>e.2.2) o.OL;have q:∀b:Nat,((told.map (·.2.2)).toArray.contains b=false)↔b∉told.map (·.2.2):=by
   intro b;rw[<-Bool.not_eq_true,Array.contains_iff_mem];simp
  have left:∀e∈n,(told.map (·.2.2)).toArray.contains e.2.2=false->e∈l/\e∉told:=by
   intro e he B;rw[q]at B;have:e.2.2∈l.map (·.2.2):=by rw[<-f2];exact wF (f:=(·.2.2)) he
   obtain⟨e0,z,hb⟩:=dC.1 this;have s:e0∉told:=λj=>B (by rw[<-hb];exact wF (f:=(·.2.2)) j);have:=Y e0 z s;have:=L _ this _ he hb;subst this;exact⟨z,s⟩
  refine⟨h.size,m,p,_,p,n,p,rfl,A,V,?_,λe he B=>?_,λT=>?_⟩
  .cases ab:n with
   |nil=>exact .inr (.inl rfl)
   |cons e l2=>
    have he:e∈n:=by rw[ab];exact cX ..
    have:e.2.2∈l.map (·.2.2):=by rw[<-f2];exact wF (f:=(·.2.2)) he
    obtain⟨e0,z,hb⟩:=dC.1 this;exact .inr (.inr ⟨e,cX .., by have:=o.old _ z;omega⟩)
  .obtain⟨D,s⟩:=left e he B
   have ao:m≠h.size:=by omega
   have cg:aY (λi=>i=h.size) g (g.setIfInBounds h.size (.mapIter (some m) p ((told.map (·.2.2)).toArray.push e.2.2) p)):=(Dl A GN).mono λi _ hi=>by unfold own at hi;omega
   have E:=C2 (o':=.mapIter (some m) p ((told.map (·.2.2)).toArray.push e.2.2) p) A;have N:n.find? (λx=>x.2.2 == e.2.2)=some e:=by
    have O:(n.find? (λx=>x.2.2 == e.2.2)).isSome:=by rw[List.find?_isSome];exact⟨e,he,by simp⟩
    obtain⟨y,C⟩:=Ci.1 O;have d:=List.find?_some C;have w:=List.mem_of_find?_eq_some C;rw[C,L _ w _ he (by simpa using d)]
   refine⟨h.size,m,p,_,e.2.2,n,p,rfl,E,?_,e,N,?_⟩
   .rw[zY ao.symm];exact V
   .have al:h.size<g.size:=(zZ.1 A).1
    refine cU _ (λtg M W ⟨a1,a2,a3,a4⟩=>⟨λ_=>?_,λj=>absurd a1 j⟩) (hs told e _ (a5 _ _ _ F cg) (by rw[tD];exact al) D s);refine⟨told++[e],(),a2,⟨a4,?_,?_,?_⟩,?_⟩
    .rw[LQ]
     exact⟨H,by simp,λa ha b hb S=>by simp at hb;subst hb;subst S;exact s ha⟩
    .intro x j
     rcases dD.1 j with h|h
     .exact u _ h
     .simp at h;subst h;exact D
    .rw[a3,E];simp
    .have:(told++[e]).length<=l.length:=by
      have U:(told++[e]).Nodup:=by
       rw[LQ];exact⟨H,by simp,λa ha b hb S=>by simp at hb;subst hb;subst S;exact s ha⟩
      exact Y6 U λx j=>by
       rcases dD.1 j with h|h
       .exact u _ h
       .simp at h;subst h;exact D
     simp at this⊢;omega
  .refine⟨λj=>absurd j ht,λ_=>⟨rfl,rfl,told,?_,F⟩⟩
   have aw:l.Nodup:=by
    exact List.Pairwise.of_map (λe:Int×Int×Nat=>e.2.2) (λa b K5 e=>K5 (by rw[e])) o.OL
   refine(V1 H aw).2 λx=>⟨λj=>u x j,λj=>?_⟩;by_cases I:x∈told
   .exact I
   .exfalso
    have a6:=Y x j I;have a0:(told.map (·.2.2)).toArray.contains x.2.2=false:=by
     rw[q];intro hm;obtain⟨y,C,hb⟩:=dC.1 hm;exact I (by rw[<-inj _ (u y C) _ j hb];exact C)
    have:=T x a6 a0;have:=o.old x j;omega
 .subst e1;subst e2
  exact hk told g hp F
end
end Go.Sw
