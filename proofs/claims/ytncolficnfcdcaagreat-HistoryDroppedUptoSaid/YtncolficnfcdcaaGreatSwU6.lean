/-
  Maps of ints to ints in memory: what calls on them do; a range over one.
-/
import Derived.Test.YtncolficnfcdcaaGreatSwU5
set_option linter.unusedVariables false
set_option linter.unusedSimpArgs false
namespace Go.Sw
variable {P:Program} {h:Heap} {Q:Nat→List Value→Heap→Prop}
structure MapOk (l:Ents) (c:Nat):Prop where
 keys:(l.map (·.1)).Nodup
 borns:(l.map (·.2.2)).Nodup
 old:∀ e,e∈l→e.2.2<c
 fk:∀ e,e∈l→fitsI .i64 e.1∧fitsI .i64 e.2.1
theorem MapOk.nil (c:Nat):MapOk [] c:=⟨List.nodup_nil,List.nodup_nil,by simp,by simp⟩
def MapR (h:Heap) (m:Nat) (l:Ents):Prop:=∃ c,h[m]? = some (mapO l c)∧MapOk l c
theorem MapR.lt {m:Nat} {l:Ents} (r:MapR h m l):m<h.size:=let ⟨_,h1,_⟩:=r; (Array.getElem?_eq_some_iff.1 h1).1
theorem MapR.ok {m:Nat} {l:Ents} (r:MapR h m l):∃ c,MapOk l c:=let ⟨c,_,h2⟩:=r; ⟨c,h2⟩
theorem MapR.chg {F:Nat→Prop} {h':Heap} {m:Nat} {l:Ents} (r:MapR h m l) (u:Chg F h h') (hn:¬ F m):MapR h' m l:=by
 obtain ⟨c,h1,h2⟩:=r
 exact ⟨c,by rw [u.2.1 m (Array.getElem?_eq_some_iff.1 h1).1 hn]; exact h1,h2⟩
theorem MapR.ext {h':Heap} {m:Nat} {l:Ents} (r:MapR h m l) (u:Ext h h'):MapR h' m l:=r.chg (Chg.of_ext (F:=fun _=>False) u) id
theorem mapO_cells {l:Ents} {c:Nat}:∀ a b d,mapO l c ≠ .cells a b d:=by intro a b d h; cases h
theorem mapIter_cells {m:Option Nat} {s:Nat} {x:Array Nat} {c:Nat}:∀ a b d,Obj.mapIter m s x c ≠ .cells a b d:=by intro a b d h; cases h
theorem mfind_none {k:Int}:∀ {l:Ents},mfind k l=none↔k∉l.map (·.1):=by
 intro l
 induction l with
 | nil=>simp [mfind]
 | cons e l ih=>
  simp only [mfind,List.map_cons,List.mem_cons,not_or]
  by_cases he:e.1=k
  ·simp [he]
  ·simp only [he,if_false,ih]
   exact ⟨fun h=>⟨fun x=>he x.symm,h⟩,fun h=>h.2⟩
theorem mfind_some {k v:Int}:∀ {l:Ents},(l.map (·.1)).Nodup→(mfind k l=some v↔∃ b,(k,v,b)∈l):=by
 intro l
 induction l with
 | nil=>simp [mfind]
 | cons e l ih=>
  intro hn
  simp only [List.map_cons,List.nodup_cons] at hn
  simp only [mfind,List.mem_cons]
  by_cases he:e.1=k
  ·subst he
   simp only [if_true,Option.some.injEq]
   refine ⟨fun h=>⟨e.2.2, .inl (by rw [← h])⟩,fun ⟨b,hb⟩=>?_⟩
   rcases hb with hb | hb
   ·rw [← hb]
   ·exact absurd (List.mem_map_of_mem (f:=(·.1)) hb) hn.1
  ·simp only [he,if_false,ih hn.2]
   refine ⟨fun ⟨b,hb⟩=>⟨b, .inr hb⟩,fun ⟨b,hb⟩=>?_⟩
   rcases hb with hb | hb
   ·rw [← hb] at he; exact absurd rfl he
   ·exact ⟨b,hb⟩
theorem mset_map {k v:Int}:∀ {l:Ents},(mset k v l).map (fun e=>(e.1,e.2.2))=l.map (fun e=>(e.1,e.2.2)):=by
 intro l
 induction l with
 | nil=>rfl
 | cons e l ih=>
  simp only [mset]
  split
  ·rename_i he; subst he; rfl
  ·simp [ih]
theorem map_fst {l l':Ents} (h:l'.map (fun e=>(e.1,e.2.2))=l.map (fun e=>(e.1,e.2.2))):l'.map (·.1)=l.map (·.1)∧l'.map (·.2.2)=l.map (·.2.2):=by
 constructor
 ·have:=congrArg (List.map Prod.fst) h
  rw [List.map_map,List.map_map] at this
  exact this
 ·have:=congrArg (List.map Prod.snd) h
  rw [List.map_map,List.map_map] at this
  exact this
theorem mem_mset {k v:Int}:∀ {l:Ents} {e:Int×Int×Nat},e∈mset k v l→e∈l∨(e.1=k∧e.2.1=v∧∃ u,(k,u,e.2.2)∈l):=by
 intro l
 induction l with
 | nil=>intro e h; cases h
 | cons x l ih=>
  intro e h
  simp only [mset] at h
  split at h
  ·rename_i hx
   rcases List.mem_cons.1 h with rfl | h
   ·exact .inr ⟨rfl,rfl,x.2.1,List.mem_cons.2 (.inl (by rw [← hx]))⟩
   ·exact .inl (List.mem_cons_of_mem _ h)
  ·rcases List.mem_cons.1 h with rfl | h
   ·exact .inl (List.mem_cons_self ..)
   ·rcases ih h with h | ⟨h1,h2,u,h3⟩
    ·exact .inl (List.mem_cons_of_mem _ h)
    ·exact .inr ⟨h1,h2,u,List.mem_cons_of_mem _ h3⟩
theorem MapOk.mset {k v:Int} {l:Ents} {c:Nat} (o:MapOk l c) (hk:fitsI .i64 k) (hv:fitsI .i64 v):MapOk (mset k v l) c:=by
 obtain ⟨h1,h2⟩:=map_fst (mset_map (k:=k) (v:=v) (l:=l))
 refine ⟨by rw [h1]; exact o.keys,by rw [h2]; exact o.borns,fun e he=>?_,fun e he=>?_⟩
 ·rcases mem_mset he with h | ⟨_,_,u,h⟩
  ·exact o.old _ h
  ·exact o.old (k,u,e.2.2) h
 ·rcases mem_mset he with h | ⟨h1,h2,u,h⟩
  ·exact o.fk _ h
  ·exact ⟨by rw [h1]; exact hk,by rw [h2]; exact hv⟩
theorem MapOk.push {k v:Int} {l:Ents} {c:Nat} (o:MapOk l c) (hk:fitsI .i64 k) (hv:fitsI .i64 v) (hn:mfind k l=none):MapOk (l++[(k,v,c)]) (c+1):=by
 rw [mfind_none] at hn
 refine ⟨?_,?_,fun e he=>?_,fun e he=>?_⟩
 ·rw [List.map_append,List.nodup_append]
  refine ⟨o.keys,by simp,fun a ha b hb e=>hn ?_⟩
  simp at hb
  rw [← hb, ← e]; exact ha
 ·rw [List.map_append,List.nodup_append]
  refine ⟨o.borns,by simp,fun a ha b hb e=>?_⟩
  simp at hb
  obtain ⟨x,hx,rfl⟩:=List.mem_map.1 ha
  have:=o.old _ hx
  omega
 ·rcases List.mem_append.1 he with h | h
  ·exact Nat.lt_succ_of_lt (o.old _ h)
  ·simp at h; subst h; exact Nat.lt_succ_self _
 ·rcases List.mem_append.1 he with h | h
  ·exact o.fk _ h
  ·simp at h; subst h; exact ⟨hk,hv⟩
theorem nodup_inj {α β:Type} (f:α→β):∀ {l:List α},(l.map f).Nodup→∀ x∈l,∀ y∈l,f x=f y→x=y:=by
 intro l
 induction l with
 | nil=>intro _ x hx; cases hx
 | cons a l ih=>
  intro hn x hx y hy hxy
  simp only [List.map_cons,List.nodup_cons] at hn
  rcases List.mem_cons.1 hx with hx1 | hx1
  ·rcases List.mem_cons.1 hy with hy1 | hy1
   ·rw [hx1,hy1]
   ·exact absurd (by rw [← hx1,hxy]; exact List.mem_map_of_mem (f:=f) hy1) hn.1
  ·rcases List.mem_cons.1 hy with hy1 | hy1
   ·exact absurd (by rw [← hy1, ← hxy]; exact List.mem_map_of_mem (f:=f) hx1) hn.1
   ·exact ih hn.2 x hx1 y hy1 hxy
theorem nodup_le {α:Type} [BEq α] [LawfulBEq α]:∀ {l m:List α},l.Nodup→(∀ x∈l,x∈m)→l.length≤m.length:=by
 intro l
 induction l with
 | nil=>intro m _ _; exact Nat.zero_le _
 | cons a l ih=>
  intro m hn hs
  simp only [List.nodup_cons] at hn
  have ha:=hs a (List.mem_cons_self ..)
  have:=ih (m:=m.erase a) hn.2 fun x hx=>(List.mem_erase_of_ne (fun e=>hn.1 (by rw [← e]; exact hx))).2 (hs x (List.mem_cons_of_mem _ hx))
  rw [List.length_erase_of_mem ha] at this
  have:0<m.length:=List.length_pos_of_mem ha
  simp only [List.length_cons]; omega
def mputL (k v:Int) (l:Ents) (c:Nat):Ents:=if (mfind k l).isSome then mset k v l else l++[(k,v,c)]
theorem s_mput {m:Nat} {l:Ents} {k v:Int} {K:Prog} (r:MapR h m l) (hk:fitsI .i64 k) (hv:fitsI .i64 v)
  (hn:∀ h' c,Chg (fun i=>i=m) h h'→MapR h' m (mputL k v l c)→(∀ e∈l,e.2.2<c)→wp P K h' Q):wp P (.mput (some m) k v K) h Q:=by
 obtain ⟨c,h1,o⟩:=r
 refine ⟨m,l,c,rfl,h1,?_⟩
 have hch:∀ o':Obj,(∀ a b d,o' ≠ .cells a b d)→Chg (fun i=>i=m) h (h.setIfInBounds m o'):=fun o' hc=>(chg_set h1 hc).mono fun i _ hi=>by unfold own at hi; omega
 unfold mputO
 cases he:mfind k l with
 | none=>
  exact hn _ c (hch _ mapO_cells) ⟨c+1,by simp only [mputL,he]; exact set_same h1,by simp only [mputL,he]; exact o.push hk hv he⟩ o.old
 | some u=>
  exact hn _ c (hch _ mapO_cells) ⟨c,by simp only [mputL,he]; exact set_same h1,by simp only [mputL,he]; exact o.mset hk hv⟩ o.old
theorem s_mlen {m:Nat} {l:Ents} {K:Nat→Prog} (r:MapR h m l) (hn:wp P (K l.length) h Q):wp P (.mlen (some m) K) h Q:=by
 obtain ⟨c,h1,o⟩:=r
 exact ⟨l,⟨c,h1⟩,hn⟩
theorem s_mkmap {K:Nat→Prog} (hn:∀ h',Ext h h'→h'.size=h.size+1→MapR h' h.size []→wp P (K h.size) h' Q):wp P (.mkmap K) h Q:=
 hn _ (ext_pushO _ _ mapO_cells) (by simp) ⟨0,by simp,MapOk.nil 0⟩
theorem wp_mrange {m:Nat} {l:Ents} {body:Int→Int→Prog} {t:Nat} {K:Nat→List Value→Prog} (r:MapR h m l) (ht:t≠0) (J:Ents→Heap→Prop)
  (hJ:∀ told h1,J told h1→∃ c l',h1[m]? = some (mapO l' c)∧h[m]? = some (mapO l c)∧l'.map (fun e=>(e.1,e.2.2))=l.map (fun e=>(e.1,e.2.2))∧∀ e∈l,e∉told→e∈l')
  (hst:∀ told h1 h2,J told h1→Chg (fun i=>i=h.size) h1 h2→J told h2)
  (h0:∀ h1,Ext h h1→h1.size=h.size+1→J [] h1)
  (hs:∀ told e h1,J told h1→h.size<h1.size→e∈l→e∉told→wp P (body e.1 e.2.1) h1 fun tag vs h2=>tag=0∧vs=[]∧h2[h.size]? = h1[h.size]? ∧ J (told++[e]) h2)
  (hk:∀ told h1,told.Perm l→J told h1→wp P (K t []) h1 Q) :
  wp P (.miter (some m) fun a=>.bind (.loop [] () fun _=>.mnext (some a) (fun _ _=>.mentry (some a) fun k v=>body k v) (.ret t [])) K) h Q:=by
 obtain ⟨c,h1,o⟩:=r
 have hmlt:=(Array.getElem?_eq_some_iff.1 h1).1
 refine ⟨m,l,c,rfl,h1,?_⟩
 have e0:Ext h (h.push (.mapIter (some m) c #[] c)):=ext_pushO _ _ mapIter_cells
 refine Tree.wp_whileG (G:=Ents) (fun told _ g=>J told g∧told.Nodup∧(∀ e∈told,e∈l)∧g[h.size]? = some (.mapIter (some m) c (told.map (·.2.2)).toArray c)) (fun told=>l.length-told.length)
  (fun tag vs g=>tag=t∧vs=[]∧∃ told,told.Perm l∧J told g) [] ⟨h0 _ e0 (by simp),List.nodup_nil,by simp,by simp⟩ (fun told _ g ⟨hj,hnd,hsub,hit⟩=>?_) fun tg vs g ⟨e1,e2,told,hp,hj⟩=>?_
 ·obtain ⟨c',l',g1,g2,g3,g4⟩:=hJ told g hj
  have hlc:mapO l c'=mapO l c:=Option.some.inj (g2.symm.trans h1)
  have hcc:c'=c:=by unfold mapO at hlc; injection hlc
  subst hcc
  obtain ⟨f1,f2⟩:=map_fst g3
  have hlen:l'.length=l.length:=by have:=congrArg List.length g3; simpa using this
  have nd':(l'.map (·.2.2)).Nodup:=by rw [f2]; exact o.borns
  have inj':=nodup_inj (f:=fun e:Int×Int×Nat=>e.2.2) nd'
  have inj:=nodup_inj (f:=fun e:Int×Int×Nat=>e.2.2) o.borns
  have seen_iff:∀ b:Nat,((told.map (·.2.2)).toArray.contains b=false)↔b∉told.map (·.2.2):=by
   intro b
   rw [← Bool.not_eq_true,Array.contains_iff_mem]
   simp
  have left:∀ e∈l',(told.map (·.2.2)).toArray.contains e.2.2=false→e∈l∧e∉told:=by
   intro e he hse
   rw [seen_iff] at hse
   have:e.2.2∈l.map (·.2.2):=by rw [← f2]; exact List.mem_map_of_mem (f:=(·.2.2)) he
   obtain ⟨e0,he0,hb⟩:=List.mem_map.1 this
   have hnt:e0∉told:=fun hx=>hse (by rw [← hb]; exact List.mem_map_of_mem (f:=(·.2.2)) hx)
   have:=g4 e0 he0 hnt
   have:=inj' _ this _ he hb
   subst this
   exact ⟨he0,hnt⟩
  refine ⟨h.size,m,c',_,c',l',c',rfl,hit,g1,?_,fun e he hse=>?_,fun hall=>?_⟩
  ·cases hl':l' with
   | nil=>exact .inr (.inl rfl)
   | cons e l2=>
    have he:e∈l':=by rw [hl']; exact List.mem_cons_self ..
    have:e.2.2∈l.map (·.2.2):=by rw [← f2]; exact List.mem_map_of_mem (f:=(·.2.2)) he
    obtain ⟨e0,he0,hb⟩:=List.mem_map.1 this
    exact .inr (.inr ⟨e,List.mem_cons_self .., by have:=o.old _ he0; omega⟩)
  ·obtain ⟨hel,hnt⟩:=left e he hse
   have hmi:m≠h.size:=by omega
   have cg:Chg (fun i=>i=h.size) g (g.setIfInBounds h.size (.mapIter (some m) c' ((told.map (·.2.2)).toArray.push e.2.2) c')):=(chg_set hit mapIter_cells).mono fun i _ hi=>by unfold own at hi; omega
   have hit2:=set_same (o':=.mapIter (some m) c' ((told.map (·.2.2)).toArray.push e.2.2) c') hit
   have hfind:l'.find? (fun x=>x.2.2 == e.2.2)=some e:=by
    have hsome:(l'.find? (fun x=>x.2.2 == e.2.2)).isSome:=by rw [List.find?_isSome]; exact ⟨e,he,by simp⟩
    obtain ⟨y,hy⟩:=Option.isSome_iff_exists.1 hsome
    have h1:=List.find?_some hy
    have h2:=List.mem_of_find?_eq_some hy
    rw [hy,inj' _ h2 _ he (by simpa using h1)]
   refine ⟨h.size,m,c',_,e.2.2,l',c',rfl,hit2,?_,e,hfind,?_⟩
   ·rw [Array.getElem?_setIfInBounds_ne hmi.symm]; exact g1
   ·have hlt:h.size<g.size:=(Array.getElem?_eq_some_iff.1 hit).1
    refine wp_mono _ (fun tg vs g2 ⟨a1,a2,a3,a4⟩=>⟨fun _=>?_,fun hx=>absurd a1 hx⟩) (hs told e _ (hst _ _ _ hj cg) (by rw [set_size]; exact hlt) hel hnt)
    refine ⟨told++[e],(),a2,⟨a4,?_,?_,?_⟩,?_⟩
    ·rw [List.nodup_append]
     exact ⟨hnd,by simp,fun a ha b hb e'=>by simp at hb; subst hb; subst e'; exact hnt ha⟩
    ·intro x hx
     rcases List.mem_append.1 hx with h | h
     ·exact hsub _ h
     ·simp at h; subst h; exact hel
    ·rw [a3,hit2]; simp
    ·have:(told++[e]).length≤l.length:=by
      have hnd2:(told++[e]).Nodup:=by
       rw [List.nodup_append]
       exact ⟨hnd,by simp,fun a ha b hb e'=>by simp at hb; subst hb; subst e'; exact hnt ha⟩
      exact nodup_le hnd2 fun x hx=>by
       rcases List.mem_append.1 hx with h | h
       ·exact hsub _ h
       ·simp at h; subst h; exact hel
     simp at this ⊢
     omega
  ·refine ⟨fun hx=>absurd hx ht,fun _=>⟨rfl,rfl,told,?_,hj⟩⟩
   have hnl:l.Nodup:=by
    exact List.Pairwise.of_map (fun e:Int×Int×Nat=>e.2.2) (fun a b hab e=>hab (by rw [e])) o.borns
   refine (List.perm_ext_iff_of_nodup hnd hnl).2 fun x=>⟨fun hx=>hsub x hx,fun hx=>?_⟩
   by_cases hxt:x∈told
   ·exact hxt
   ·exfalso
    have hx':=g4 x hx hxt
    have hns:(told.map (·.2.2)).toArray.contains x.2.2=false:=by
     rw [seen_iff]
     intro hm
     obtain ⟨y,hy,hb⟩:=List.mem_map.1 hm
     exact hxt (by rw [← inj _ (hsub y hy) _ hx hb]; exact hy)
    have:=hall x hx' hns
    have:=o.old x hx
    omega
 ·subst e1; subst e2
  exact hk told g hp hj
end Go.Sw
