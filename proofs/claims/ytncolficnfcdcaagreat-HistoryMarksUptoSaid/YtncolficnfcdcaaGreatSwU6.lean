
/- Steps. -/
import Derived.Test.YtncolficnfcdcaaGreatSwU5
set_option linter.unusedVariables false
set_option linter.unusedSimpArgs false
namespace Go.Sw
section
variable{P:Program}{h:aG}{Q:Nat->List Value->aG->Prop}
variable{l:fW}{h':aG}{v:Int}{α:Type}
structure CQ(l:fW)(c:Nat):Prop where
 keys:(l.map (·.1)).Nodup
 Ii:(l.map (·.2.2)).Nodup
 old:∀e,e∈l->e.2.2<c
 fk:∀e,e∈l->cX .i64 e.1/\cX .i64 e.2.1
theorem CQ.nil(c:Nat):CQ [] c:=⟨KF,KF,by simp,by simp⟩
def sG(h:aG)(m:Nat)(l:fW):Prop:=∃c,h[m]?=some (lP l c)/\CQ l c
theorem sG.lt{m:Nat}(r:sG h m l):m<h.size:=let ⟨_,a,_⟩:=r;(wT.1 a).1
theorem sG.ok{m:Nat}(r:sG h m l):∃c,CQ l c:=let ⟨c,_,a⟩:=r;⟨c,a⟩
theorem sG.oY{F:Nat->Prop}{m:Nat}(r:sG h m l)(u:aV F h h')(d:¬F m):sG h' m l:=by
 obtain⟨c,a,b⟩:=r;exact⟨c,by rw[u.2.1 m (wT.1 a).1 d];exact a,b⟩
theorem sG.ext{m:Nat}(r:sG h m l)(u:Ext h h'):sG h' m l:=r.oY (aV.bD (F:=λ_=>False) u) id
theorem DS{c:Nat}:∀a b d,lP l c ≠ .cells a b d:=by intro a b d h;cases h
theorem yX{m:Option Nat}{s:Nat}{x:Array Nat}{c:Nat}:∀a b d,Obj.mapIter m s x c ≠ .cells a b d:=by intro a b d h;cases h
theorem HB{k:Int}:∀{l:fW},jN k l=none↔k∉l.map (·.1):=by
 intro l
 induction l with
 |nil=>simp[jN]
 |cons e l a=>
  simp only[jN,fS,eH,not_or];by_cases he:e.1=k
  .simp[he]
  .simp only[he,if_false,a]
   exact⟨λh=>⟨λx=>he x.symm,h⟩,λh=>h.2⟩
theorem HC{k:Int}:∀{l:fW},(l.map (·.1)).Nodup->(jN k l=some v↔∃b,(k,v,b)∈l):=by
 intro l
 induction l with
 |nil=>simp[jN]
 |cons e l c=>
  intro a;simp only[fS,CF]at a;simp only[jN,eH];by_cases he:e.1=k
  .subst he
   simp only[if_true,gO];refine⟨λh=>⟨e.2.2, .inl (by rw[<-h])⟩,λ⟨b,hb⟩=>?_⟩;rcases hb with hb|hb
   .rw[<-hb]
   .exact absurd (rT (f:=(·.1)) hb) a.1
  .simp only[he,if_false,c a.2]
   refine⟨λ⟨b,hb⟩=>⟨b, .inr hb⟩,λ⟨b,hb⟩=>?_⟩;rcases hb with hb|hb
   .rw[<-hb]at he;exact absurd rfl he
   .exact⟨b,hb⟩
theorem ZW{k:Int}:∀{l:fW},(FK k v l).map (λe=>(e.1,e.2.2))=l.map (λe=>(e.1,e.2.2)):=by
 intro l
 induction l with
 |nil=>rfl
 |cons e l a=>
  simp only[FK];split
  .rename_i he;subst he;rfl
  .simp[a]
theorem map_fst{a:fW}(h:a.map (λe=>(e.1,e.2.2))=l.map (λe=>(e.1,e.2.2))):a.map (·.1)=l.map (·.1)/\a.map (·.2.2)=l.map (·.2.2):=by
 constructor
 .have:=congrArg (List.map Prod.fst) h
  rw[sX,sX]at this;exact this
 .have:=congrArg (List.map Prod.snd) h
  rw[sX,sX]at this;exact this
theorem TE{k:Int}:∀{l:fW} {e:Int×Int×Nat},e∈FK k v l->e∈l\/(e.1=k/\e.2.1=v/\∃u,(k,u,e.2.2)∈l):=by
 intro l
 induction l with
 |nil=>intro e h;cases h
 |cons x l f=>
  intro e h;simp only[FK]at h;split at h
  .rename_i d
   rcases eH.1 h with rfl|h
   .exact .inr ⟨rfl,rfl,x.2.1,eH.2 (.inl (by rw[<-d]))⟩
   .exact .inl (eK _ h)
  .rcases eH.1 h with rfl|h
   .exact .inl (eO ..)
   .rcases f h with h|⟨a,b,u,c⟩
    .exact .inl (eK _ h)
    .exact .inr ⟨a,b,u,eK _ c⟩
theorem CQ.FK{k v:Int}{l:fW}{c:Nat}(o:CQ l c)(d:cX .i64 k)(f:cX .i64 v):CQ (FK k v l) c:=by
 obtain⟨a,b⟩:=map_fst (ZW (k:=k) (v:=v) (l:=l));refine⟨by rw[a];exact o.keys,by rw[b];exact o.Ii,λe he=>?_,λe he=>?_⟩
 .rcases TE he with h|⟨_,_,u,h⟩
  .exact o.old _ h
  .exact o.old (k,u,e.2.2) h
 .rcases TE he with h|⟨a,b,u,h⟩
  .exact o.fk _ h
  .exact⟨by rw[a];exact d,by rw[b];exact f⟩
theorem CQ.push{k:Int}{c:Nat}(o:CQ l c)(f:cX .i64 k)(g:cX .i64 v)(d:jN k l=none):CQ (l++[(k,v,c)]) (c+1):=by
 rw[HB]at d;refine⟨?_,?_,λe he=>?_,λe he=>?_⟩
 .rw[dP,JL]
  refine⟨o.keys,by simp,λa ha b hb e=>d ?_⟩;simp at hb;rw[<-hb,<-e];exact ha
 .rw[dP,JL]
  refine⟨o.Ii,by simp,λa ha b hb e=>?_⟩;simp at hb;obtain⟨x,i,rfl⟩:=dA.1 ha;have:=o.old _ i;omega
 .rcases dH.1 he with h|h
  .exact Nat.lt_succ_of_lt (o.old _ h)
  .simp at h;subst h;exact KI _
 .rcases dH.1 he with h|h
  .exact o.fk _ h
  .simp at h;subst h;exact⟨f,g⟩
theorem Dg{β:Type}(f:α->β):∀{l:List α},(l.map f).Nodup->∀x∈l,∀y∈l,f x=f y->x=y:=by
 intro l
 induction l with
 |nil=>intro _ x g;cases g
 |cons a l j=>
  intro e x g y i d;simp only[fS,CF]at e;rcases eH.1 g with c|c
  .rcases eH.1 i with b|b
   .rw[c,b]
   .exact absurd (by rw[<-c,d];exact rT (f:=f) b) e.1
  .rcases eH.1 i with b|b
   .exact absurd (by rw[<-b,<-d];exact rT (f:=f) c) e.1
   .exact j e.2 x c y b d
theorem NS[BEq α][LawfulBEq α]:∀{l m:List α},l.Nodup->(∀x∈l,x∈m)->l.length<=m.length:=by
 intro l
 induction l with
 |nil=>intro m _ _;exact cN _
 |cons a l f=>
  intro m b c;simp only[CF]at b;have ha:=c a (eO ..);have:=f (m:=m.erase a) b.2 λx d=>(List.mem_erase_of_ne (λe=>b.1 (by rw[<-e];exact d))).2 (c x (eK _ d));rw[List.length_erase_of_mem ha]at this;have:0<m.length:=List.length_pos_of_mem ha;simp only[fK];omega
def Jd(k v:Int)(l:fW)(c:Nat):fW:=if (jN k l).isSome then FK k v l else l++[(k,v,c)]
theorem bh{m:Nat}{k:Int}{K:aK}(r:sG h m l)(n:cX .i64 k)(q:cX .i64 v)
  (p:∀h' c,aV (λi=>i=m) h h'->sG h' m (Jd k v l c)->(∀e∈l,e.2.2<c)->wp P K h' Q):wp P (.Re (some m) k v K) h Q:=by
 obtain⟨c,f,o⟩:=r;refine⟨m,l,c,rfl,f,?_⟩;have g:∀j:Obj,(∀a b d,j ≠ .cells a b d)->aV (λi=>i=m) h (h.setIfInBounds m j):=λj s=>(BZ f s).mono λi _ hi=>by unfold own at hi;omega
 unfold Je;cases he:jN k l with
 |none=>
  exact p _ c (g _ DS) ⟨c+1,by simp only[Jd,he];exact By f,by simp only[Jd,he];exact o.push n q he⟩ o.old
 |some u=>
  exact p _ c (g _ DS) ⟨c,by simp only[Jd,he];exact By f,by simp only[Jd,he];exact o.FK n q⟩ o.old
theorem tx{m:Nat}{k:Int}{K:Int->Bool->aK}(r:sG h m l)(b:wp P (K ((jN k l).getD 0) (jN k l).isSome) h Q):wp P (.ZO (some m) k K) h Q:=by
 obtain⟨c,a,o⟩:=r;exact⟨l,⟨c,a⟩,b⟩
theorem u_{m:Nat}{K:Nat->aK}(r:sG h m l)(b:wp P (K l.length) h Q):wp P (.ZU (some m) K) h Q:=by
 obtain⟨c,a,o⟩:=r;exact⟨l,⟨c,a⟩,b⟩
theorem Wy{K:Nat->aK}(a:∀h',Ext h h'->h'.size=h.size+1->sG h' h.size []->wp P (K h.size) h' Q):wp P (.PG K) h Q:=
 a _ (C3 _ _ DS) (by simp) ⟨0,by simp,CQ.nil 0⟩
theorem P5{m:Nat}{body:Int->Int->aK}{t:Nat}{K:Nat->List Value->aK}(r:sG h m l)(ht:t≠0)(J:fW->aG->Prop)
  (hJ:∀told d,J told d->∃c n,d[m]?=some (lP n c)/\h[m]?=some (lP l c)/\n.map (λe=>(e.1,e.2.2))=l.map (λe=>(e.1,e.2.2))/\∀e∈l,e∉told->e∈n)
  (a5:∀told d w,J told d->aV (λi=>i=h.size) d w->J told w)
  (h0:∀d,Ext h d->d.size=h.size+1->J [] d)
  (hs:∀told e d,J told d->h.size<d.size->e∈l->e∉told->wp P (body e.1 e.2.1) d λtag M w=>tag=0/\M=[]/\w[h.size]?=d[h.size]? /\ J (told++[e]) w)
  (hk:∀told d,told.Perm l->J told d->wp P (K t []) d Q) :
  wp P (.Ja (some m) λa=>.bind (.loop [] () λ_=>.Jc (some a) (λ_ _=>.DT (some a) λk v=>body k v) (.ret t [])) K) h Q:=by
 obtain⟨c,d,o⟩:=r;have a8:=(wT.1 d).1;refine⟨m,l,c,rfl,d,?_⟩;have e0:Ext h (h.push (.mapIter (some m) c #[] c)):=C3 _ _ yX;refine Tree.dQ (G:=fW) (λtold _ g=>J told g/\told.Nodup/\(∀e∈told,e∈l)/\g[h.size]?=some (.mapIter (some m) c (told.map (·.2.2)).toArray c)) (λtold=>l.length-told.length)
  (λtag M g=>tag=t/\M=[]/\∃told,told.Perm l/\J told g) [] ⟨h0 _ e0 (by simp),KF,by simp,by simp⟩ (λtold _ g ⟨F,H,u,A⟩=>?_) λtg M g ⟨e1,e2,told,hp,F⟩=>?_
 .obtain⟨p,n,V,W,X,Y⟩:=hJ told g F
  have R:lP l p=lP l c:=dU (W.symm.trans d);have Z:p=c:=by unfold lP at R;injection R
  subst Z;obtain⟨f1,f2⟩:=map_fst X;have hlen:n.length=l.length:=by have:=congrArg List.length X;simpa using this
  have a7:(n.map (·.2.2)).Nodup:=by rw[f2];exact o.Ii
  have L:=Dg (f:=λe:Int×Int×Nat=>e.2.2) a7;have inj:=Dg (f:=λe:Int×Int×Nat=>e.2.2) o.Ii;have q:∀b:Nat,((told.map (·.2.2)).toArray.contains b=false)↔b∉told.map (·.2.2):=by
   intro b;rw[<-RE,Array.contains_iff_mem];simp
  have left:∀e∈n,(told.map (·.2.2)).toArray.contains e.2.2=false->e∈l/\e∉told:=by
   intro e he B;rw[q]at B;have:e.2.2∈l.map (·.2.2):=by rw[<-f2];exact rT (f:=(·.2.2)) he
   obtain⟨e0,z,hb⟩:=dA.1 this;have s:e0∉told:=λj=>B (by rw[<-hb];exact rT (f:=(·.2.2)) j);have:=Y e0 z s;have:=L _ this _ he hb;subst this;exact⟨z,s⟩
  refine⟨h.size,m,p,_,p,n,p,rfl,A,V,?_,λe he B=>?_,λT=>?_⟩
  .cases ab:n with
   |nil=>exact .inr (.inl rfl)
   |cons e l2=>
    have he:e∈n:=by rw[ab];exact eO ..
    have:e.2.2∈l.map (·.2.2):=by rw[<-f2];exact rT (f:=(·.2.2)) he
    obtain⟨e0,z,hb⟩:=dA.1 this;exact .inr (.inr ⟨e,eO .., by have:=o.old _ z;omega⟩)
  .obtain⟨D,s⟩:=left e he B
   have ao:m≠h.size:=by omega
   have cg:aV (λi=>i=h.size) g (g.setIfInBounds h.size (.mapIter (some m) p ((told.map (·.2.2)).toArray.push e.2.2) p)):=(BZ A yX).mono λi _ hi=>by unfold own at hi;omega
   have E:=By (o':=.mapIter (some m) p ((told.map (·.2.2)).toArray.push e.2.2) p) A;have N:n.find? (λx=>x.2.2 == e.2.2)=some e:=by
    have O:(n.find? (λx=>x.2.2 == e.2.2)).isSome:=by rw[List.find?_isSome];exact⟨e,he,by simp⟩
    obtain⟨y,C⟩:=BB.1 O;have d:=List.find?_some C;have w:=WR C;rw[C,L _ w _ he (by simpa using d)]
   refine⟨h.size,m,p,_,e.2.2,n,p,rfl,E,?_,e,N,?_⟩
   .rw[yH ao.symm];exact V
   .have al:h.size<g.size:=(wT.1 A).1
    refine cM _ (λtg M W ⟨a1,a2,a3,a4⟩=>⟨λ_=>?_,λj=>absurd a1 j⟩) (hs told e _ (a5 _ _ _ F cg) (by rw[rR];exact al) D s);refine⟨told++[e],(),a2,⟨a4,?_,?_,?_⟩,?_⟩
    .rw[JL]
     exact⟨H,by simp,λa ha b hb S=>by simp at hb;subst hb;subst S;exact s ha⟩
    .intro x j
     rcases dH.1 j with h|h
     .exact u _ h
     .simp at h;subst h;exact D
    .rw[a3,E];simp
    .have:(told++[e]).length<=l.length:=by
      have U:(told++[e]).Nodup:=by
       rw[JL];exact⟨H,by simp,λa ha b hb S=>by simp at hb;subst hb;subst S;exact s ha⟩
      exact NS U λx j=>by
       rcases dH.1 j with h|h
       .exact u _ h
       .simp at h;subst h;exact D
     simp at this⊢;omega
  .refine⟨λj=>absurd j ht,λ_=>⟨rfl,rfl,told,?_,F⟩⟩
   have aw:l.Nodup:=by
    exact List.Pairwise.of_map (λe:Int×Int×Nat=>e.2.2) (λa b DN e=>DN (by rw[e])) o.Ii
   refine(RO H aw).2 λx=>⟨λj=>u x j,λj=>?_⟩;by_cases I:x∈told
   .exact I
   .exfalso
    have a6:=Y x j I;have a0:(told.map (·.2.2)).toArray.contains x.2.2=false:=by
     rw[q];intro hm;obtain⟨y,C,hb⟩:=dA.1 hm;exact I (by rw[<-inj _ (u y C) _ j hb];exact C)
    have:=T x a6 a0;have:=o.old x j;omega
 .subst e1;subst e2
  exact hk told g hp F
end
end Go.Sw
