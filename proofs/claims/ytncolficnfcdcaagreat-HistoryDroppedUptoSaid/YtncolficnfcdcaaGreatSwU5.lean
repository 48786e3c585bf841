/-
  Laws for the user of shallow programs: frames, small objects, ranges over functions.
-/
import Derived.Test.YtncolficnfcdcaaGreatSwU4
import Derived.Test.YtncolficnfcdcaaGreatSwZ4
set_option linter.unusedVariables false
set_option linter.unusedSimpArgs false
set_option maxRecDepth 100000
namespace Go.Sw
variable {P:Program} {h:Heap} {Q:Nat→List Value→Heap→Prop}
theorem Own.cells {n m c:Nat} {h:Heap} {a:Addr} {vs:List Value} (ho:Own n 1 h ⟨some a,m,c⟩ vs):Cells h a vs:=
 cells_iff.2 fun j v hj=>by obtain ⟨a',e,x⟩:=ho.rd.2 j v hj; cases e; exact x
theorem s_putEnd {n m c j:Nat} {a:Addr} {pre old:List Value} (new:List Value) {K:Prog} (ho:Own n 1 h ⟨some a,m,c⟩ (pre++old)) (hj:j=pre.length) (hl:new.length=old.length) (hf:∀ v∈new,flat v=true)
  (hk:∀ h',Own n 1 h' ⟨some a,m,c⟩ (pre++new)→Upd ⟨some a,m,c⟩ h h'→wp P K h' Q):wp P (.store (shiftTo (some a) j) new K) h Q:=by
 subst hj
 obtain ⟨o1,o2,o3,o4⟩:=ho
 obtain ⟨b,off,spot⟩:=a
 obtain ⟨e0,e1,e2,cs,elem,e3,e4,e5⟩:=o4
 dsimp only at e0 e1 e2 e3 o1 o2 o3 e4
 subst e0; subst e1
 have hadd:((Addr.mk b 0 none).add pre.length)=⟨b,pre.length,none⟩:=by simp [add_mk]
 rw [List.length_append] at o1
 obtain ⟨w,cs',c1,c2,c3,c4,c5,c6⟩:=puts_block (vs:=new) (i:=0) (off:=pre.length) e3 hf (by omega)
 refine ⟨⟨b,pre.length,none⟩,by rw [shiftTo_some,hadd],w,hk _ ⟨by rw [List.length_append]; dsimp only; omega,by dsimp only; omega,o3,rfl,rfl,e2,cs',elem,c1,by rw [c2,e4],fun i v hi=>?_⟩
  ⟨by unfold puts; omega,fun j hj hne=>c6 j fun e=>(hne _ rfl) e.symm,fun a e=>by unfold puts; rw [thaw_putFrom]; exact e⟩⟩
 by_cases hi':i<pre.length
 ·rw [List.getElem?_append_left hi'] at hi
  rw [c4 i (by omega)]
  exact e5 i v (by rw [List.getElem?_append_left hi']; exact hi)
 ·rw [List.getElem?_append_right (by omega)] at hi
  have:=c3 (i-pre.length) v hi
  rw [show pre.length+0+(i-pre.length)=i by omega] at this
  exact this
theorem s_cell {b:B} {p:Option Addr} {a:Addr} {vs:List Value} {j:Nat} (x:b.den) {K:b.den→Prog} (hp:p=some a) (hc:Cells h a vs) (hj:vs[j]? = some (b.inj x)) (hk:wp P (K x) h Q) :
  wp P (.load (.one b) (shiftTo p j) K) h Q:=by
 subst hp
 exact wp_load1 (a.add j) x rfl (cells_iff.1 hc j _ hj) hk
theorem s_check0 {p:Option Addr} {a:Addr} {vs:List Value} {K:Prog} (hp:p=some a) (hc:Cells h a vs) (hk:wp P K h Q):wp P (.check p vs K) h Q:=⟨⟨a,hp,hc⟩,hk⟩
theorem cell_of_block {h h':Heap} {a:Addr} (e:h'[a.block]? = h[a.block]?):cell h' a=cell h a:=by unfold cell; rw [e]
theorem Lst.blocks {k:IntKind} {h h':Heap} {s:Sl} {l:List Int} (hr:Lst k h s l) (e:∀ a,s.base=some a→a.block<h.size→h'[a.block]? = h[a.block]?):Lst k h' s l:=by
 refine ⟨⟨hr.rd.1,fun i v hi=>?_⟩,hr.cap,hr.max,hr.wf⟩
 obtain ⟨a,ea,c⟩:=hr.rd.2 i v hi
 refine ⟨a,ea,?_⟩
 have hlt:=cell_lt c
 rw [add_block] at hlt
 rw [cell_of_block (h:=h) (h':=h') (a:=a.add i) (by rw [add_block]; exact e a ea hlt)]; exact c
theorem s_setC' {n m c j:Nat} {a:Addr} {vs:List Value} (v:Value) {K:Prog} (ho:Own n 1 h ⟨some a,m,c⟩ vs) (hj:j<vs.length) (hf:flat v=true)
  (hk:∀ h',Own n 1 h' ⟨some a,m,c⟩ (vs.set j v)→Upd ⟨some a,m,c⟩ h h'→wp P K h' Q):wp P (.store (shiftTo (some a) j) [v] K) h Q:=by
 obtain ⟨o1,o2,o3,o4⟩:=ho
 obtain ⟨b,off,spot⟩:=a
 obtain ⟨e0,e1,e2,cs,elem,e3,e4,e5⟩:=o4
 dsimp only at e0 e1 e2 e3 o1 o2 e4
 subst e0; subst e1
 have hadd:(Addr.mk b 0 none).add j=⟨b,j,none⟩:=by simp [add_mk]
 obtain ⟨w,cs',c1,c2,c3,c4,c5,c6⟩:=puts_block (vs:=[v]) (i:=0) (off:=j) e3 (by intro x hx; rw [List.mem_singleton.1 hx]; exact hf) (by simp; omega)
 refine ⟨⟨b,j,none⟩,by rw [shiftTo_some,hadd],w,hk _ ⟨by rw [List.length_set]; exact o1,o2,o3,rfl,rfl,e2,cs',elem,c1,by rw [c2,e4],fun i u hi=>?_⟩
  ⟨by unfold puts; omega,fun i hi hne=>c6 i fun e=>(hne _ rfl) e.symm,fun a e=>by unfold puts; rw [thaw_putFrom]; exact e⟩⟩
 have hlt:=(List.getElem?_eq_some_iff.1 hi).1
 rw [List.length_set] at hlt
 by_cases hij:i=j
 ·subst hij
  rw [List.getElem?_set_self hj] at hi
  cases hi
  have:=c3 0 v rfl
  simpa using this
 ·rw [List.getElem?_set_ne (by omega)] at hi
  rw [c4 i (by simp; omega)]
  exact e5 i u hi
theorem Upd.extN {s:Sl} {h0 h h':Heap} (e:Ext h0 h) (u:Upd s h h') (hb:∀ a,s.base=some a→h0.size≤a.block):Ext h0 h':=
 Keep.trans e (Upd.ext_of u hb e.size)
theorem OwnL.base {n:Nat} {k:IntKind} {h:Heap} {s:Sl} {l:List Int} (ho:OwnL n k h s l):∀ a,s.base=some a→n≤a.block:=fun a ha=>(ho.own.lt ha).1
def Chg (F:Nat→Prop) (h h':Heap):Prop:=h.size≤h'.size∧(∀ i,i<h.size→¬ F i→h'[i]? = h[i]?)∧∀ a,frz h a=false→frz h' a=false
theorem Chg.refl (F:Nat→Prop) (h:Heap):Chg F h h:=⟨Nat.le_refl _,fun _ _ _=>rfl,fun _ x=>x⟩
theorem Chg.of_ext {F:Nat→Prop} {a b:Heap} (e:Ext a b):Chg F a b:=⟨e.1,fun i hi _=>e.2.1 i hi,e.2.2⟩
theorem Chg.trans {F G:Nat→Prop} {a b c:Heap} (u:Chg F a b) (v:Chg G b c) (hg:∀ i,i<a.size→G i→F i):Chg F a c:=
 ⟨Nat.le_trans u.1 v.1,fun i hi hn=>(v.2.1 i (Nat.lt_of_lt_of_le hi u.1) fun g=>hn (hg i hi g)).trans (u.2.1 i hi hn),fun x hx=>v.2.2 x (u.2.2 x hx)⟩
theorem Chg.ext {F:Nat→Prop} {a b c:Heap} (u:Chg F a b) (e:Ext b c):Chg F a c:=u.trans (Chg.of_ext (F:=F) e) fun _ _ g=>g
theorem Chg.pre {F:Nat→Prop} {a b c:Heap} (e:Ext a b) (u:Chg F b c):Chg F a c:=(Chg.of_ext (F:=F) e).trans u fun _ _ g=>g
theorem Chg.mono {F G:Nat→Prop} {a b:Heap} (u:Chg F a b) (hg:∀ i,i<a.size→F i→G i):Chg G a b:=(Chg.refl G a).trans u hg
theorem Chg.of_upd {F:Nat→Prop} {s:Sl} {a b:Heap} (u:Upd s a b) (hs:∀ x,s.base=some x→x.block<a.size→F x.block):Chg F a b:=
 ⟨u.1,fun i hi hn=>u.2.1 i hi fun x hx e=>hn (by rw [← e]; exact hs x hx (by omega)),u.2.2⟩
theorem Chg.upd {F:Nat→Prop} {s:Sl} {a b c:Heap} (u:Chg F a b) (v:Upd s b c) (hs:∀ x,s.base=some x→x.block<a.size→F x.block):Chg F a c:=
 u.trans (G:=fun i=>∃ x,s.base=some x∧x.block=i) (Chg.of_upd v fun x hx _=>⟨x,hx,rfl⟩) fun i hi ⟨x,hx,e⟩=>by rw [← e]; exact hs x hx (by omega)
theorem Chg.keep {F:Nat→Prop} {n:Nat} {a b:Heap} (u:Chg F a b) (hn:n≤a.size) (hf:∀ i,i<n→¬ F i):Keep n a b:=⟨u.1,fun i hi=>u.2.1 i (by omega) (hf i hi),u.2.2⟩
theorem Chg.lst {F:Nat→Prop} {a b:Heap} {k:IntKind} {s:Sl} {l:List Int} (u:Chg F a b) (hr:Lst k a s l) (hn:∀ x,s.base=some x→¬ F x.block):Lst k b s l:=
 Go.Sw.Lst.blocks hr fun x hx hl=>u.2.1 _ hl (hn x hx)
theorem Chg.lst0 {F:Nat→Prop} {a b:Heap} {k:IntKind} {s:Sl} {l:List Int} (u:Chg F a b) (hr:Lst k a s l) (hn:l≠[]→∀ x,s.base=some x→¬ F x.block):Lst k b s l:=by
 cases l with
 | nil=>exact ⟨⟨hr.rd.1,fun i v hi=>by simp at hi⟩,hr.cap,hr.max,hr.wf⟩
 | cons y l=>exact u.lst hr (hn (by simp))
theorem Chg.own {F:Nat→Prop} {n size:Nat} {a b:Heap} {s:Sl} {vs:List Value} (u:Chg F a b) (hr:Own n size a s vs) (hn:∀ x,s.base=some x→¬ F x.block):Own n size b s vs:=
 hr.keep fun x hx=>u.2.1 _ (hr.lt hx).2 (hn x hx)
theorem Chg.ownL {F:Nat→Prop} {n:Nat} {a b:Heap} {k:IntKind} {s:Sl} {l:List Int} (u:Chg F a b) (hr:OwnL n k a s l) (hn:∀ x,s.base=some x→¬ F x.block):OwnL n k b s l:=
 ⟨u.own hr.own hn,hr.wf⟩
def GivesF (F:Nat→Prop) (P:Program) (m:Prog) (tys:List Ty) (h:Heap) (R:Ts.den tys→Heap→Prop):Prop:=
 wp P m h fun t vs h'=>t=0∧Chg F h h'∧∃ x,vs=Ts.inj tys x∧R x h'
theorem wp_callF {F:Nat→Prop} {m:Prog} {tys:List Ty} {K:Ts.den tys→Prog} {R:Ts.den tys→Heap→Prop} (g:GivesF F P m tys h R) (hk:∀ x h',Chg F h h'→R x h'→wp P (K x) h' Q) :
  wp P (.call m tys K) h Q:=
 wp_mono m (fun _ _ _ ⟨a,b,x,c,d⟩=>⟨a,x,c,hk x _ b d⟩) g
theorem s_ckC {q:Addr} {j:Nat} {v:Value} {K:Prog} (hc:cell h (q.add j)=some v) (hk:wp P K h Q):wp P (.check (shiftTo (some q) j) [v] K) h Q:=by
 refine ⟨⟨q.add j,rfl,cells_iff.2 fun i u hi=>?_⟩,hk⟩
 cases i with
 | zero=>simp at hi; subst hi; rw [add_zero']; exact hc
 | succ i=>simp at hi
theorem wp_appendE {n size bytes:Nat} {zero:List Value} {s x:Sl} {old new:List Value} {K:Sl→Prog} (ho:Own n size h s old) (hn:n≤h.size) (hx:Rd size h x new)
  (hf:∀ v∈new,flat v=true) (hz:zero.length=size) (hroom:(s.len+x.len)*bytes≤140737488355328) (hlen:s.len+x.len<2 ^ 63)
  (hk:∀ r h',Own n size h' r (old++new)→r.len=s.len+x.len→Upd s h h'→(∀ a,r.base=some a→s.base=some a∨(h.size≤a.block))→(r.base=s.base∨Ext h h')→wp P (K r) h' Q) :
  wp P (.append size bytes zero s x K) h Q:=by
 refine ⟨new,hx.firsts,?_⟩
 obtain ⟨o1,o2,o3,o4⟩:=ho
 have hlen':(old++new).length=(s.len+x.len)*size:=by rw [List.length_append, ← o1, ← hx.1,Nat.add_mul]
 by_cases hc:s.len+x.len≤s.cap
 ·simp only [hc,if_true]
  cases hb:s.base with
  | none=>
   rw [hb] at o4
   simp only at o4 ⊢
   have e1:s.len=0:=by omega
   have e2:x.len=0:=by omega
   refine hk _ _ ⟨hlen'.symm,hc,o3,o4⟩ rfl ⟨Nat.le_refl _,fun _ _ _=>rfl,fun _ e=>e⟩ (fun a ha=>by cases ha) (.inl hb.symm)
  | some a=>
   rw [hb] at o4
   obtain ⟨b,off,spot⟩:=a
   obtain ⟨e0,e1,e2,cs,elem,e3,e4,e5⟩:=o4
   simp only at e0 e1 e2 e3
   subst e0; subst e1
   have hfit:s.len*size+new.length≤cs.size:=by
    rw [e4, ← hx.1, ← Nat.add_mul]; exact Nat.mul_le_mul_right _ hc
   have hadd:(Addr.mk b 0 none).add (s.len*size)=⟨b,s.len*size,none⟩:=by simp [add_mk]
   obtain ⟨w,cs',c1,c2,c3,c4,c5,c6⟩:=puts_block (i:=0) (off:=s.len*size) e3 hf (by simpa using hfit)
   simp only [hadd]
   refine ⟨w,hk _ _ ⟨hlen'.symm,hc,o3,rfl,rfl,e2,cs',elem,c1,by rw [c2,e4],fun i v hi=>?_⟩ rfl ⟨by unfold puts; omega,fun i hi hne=>c6 i fun e=>(hne _ hb) e.symm,fun a e=>by unfold puts; rw [thaw_putFrom]; exact e⟩ (fun a ha=>Or.inl (hb.trans ha)) (.inl hb.symm)⟩
   rw [List.getElem?_append] at hi
   split at hi
   ·rename_i hlt
    rw [c4 i (Or.inl (by omega))]
    exact e5 i v hi
   ·rename_i hge
    have:=c3 _ _ hi
    rw [o1] at this
    rw [show old.length+0+(i-old.length)=i by omega] at this
    exact this
 ·simp only [hc,if_false]
  refine ⟨old,Rd.firsts (Own.rd ⟨o1,o2,o3,o4⟩),growslice_fits (by omega) hroom,hlen,fun cap elem hcap hcap'=>?_⟩
  refine hk _ _ ⟨hlen'.symm,hcap,hcap',rfl,rfl,hn,_,elem,Array.getElem?_push_size,?_,fun i v hi=>?_⟩ rfl ⟨by simp,fun i hi _=>push_old h _ hi,(Ext.push h _ _).2.2⟩ (fun a ha=>Or.inr (by cases ha; exact Nat.le_refl _)) (.inr (Ext.push h _ _))
  ·simp only [List.size_toArray,List.length_append,zeros_len hz]
   rw [← o1, ← hx.1, ← Nat.add_mul, ← Nat.add_mul,Nat.add_sub_cancel' hcap]
  ·simp only [List.getElem?_toArray]
   rw [List.getElem?_append_left (by
    have:=(List.getElem?_eq_some_iff.1 hi).1; exact this)]
   exact hi
theorem s_appendE {n bytes:Nat} {k:IntKind} {s x:Sl} {l m:List Int} {K:Sl→Prog} (ho:OwnL n k h s l) (hn:n≤h.size) (hx:Lst k h x m) (hroom:(l.length+m.length)*bytes≤140737488355328) (hlen:l.length+m.length<2 ^ 63)
  (hk:∀ r h',Keep n h h'→OwnL n k h' r (l++m)→Upd s h h'→(∀ a,r.base=some a→s.base=some a∨(h.size≤a.block))→(r.base=s.base∨Ext h h')→wp P (K r) h' Q) :
  wp P (.append 1 bytes [.int k 0] s x K) h Q:=by
 have hl:=ho.len
 have hm:=hx.len
 refine wp_appendE ho.own hn hx.rd (by intro y hy; obtain ⟨z,_,rfl⟩:=List.mem_map.1 hy; rfl) rfl (by rw [hl,hm]; exact hroom) (by rw [hl,hm]; exact hlen) fun r h' a b c d e=>?_
 refine hk r h' (Upd.keep ho.own hn c) ⟨by simpa using a,?_⟩ c d e
 intro y hy
 rcases List.mem_append.1 hy with hy | hy
 ·exact ho.wf y hy
 ·exact hx.wf y hy
end Go.Sw
namespace Go.Sw.Tree
variable {P:Program} {h:Heap} {Q:Nat→List Value→Heap→Prop}
abbrev iv (n:Int):Value:=.int .i64 n
abbrev TR:=Option Addr×Unit
theorem s_newP (p:Option Addr) {K:Addr→Prog} (hk:∀ h',Ext h h'→Own h.size 1 h' ⟨some ⟨h.size,0,none⟩,1,1⟩ [.pointer p]→wp P (K ⟨h.size,0,none⟩) h' Q):wp P (.alloc [.pointer p] K) h Q:=
 fun elem=>hk _ (Ext.push ..) (own_alloc rfl (by decide) (by decide))
theorem s_getP {n:Nat} {a:Addr} {p:Option Addr} {K:Option Addr→Prog} (ho:Own n 1 h ⟨some a,1,1⟩ [.pointer p]) (hk:wp P (K p) h Q):wp P (.load (.one .ptr) (shiftTo (some a) 0) K) h Q:=
 s_cell (b:=.ptr) (x:=p) rfl ho.cells rfl hk
theorem s_getT {n:Nat} {a:Addr} {p:Option Addr} {K:TR→Prog} (ho:Own n 1 h ⟨some a,1,1⟩ [.pointer p]) (hk:wp P (K (p,())) h Q):wp P (.load (.agg [.ptr]) (some a) K) h Q:=
 ⟨a,rfl,(p,()),ho.cells,hk⟩
theorem s_putP {n:Nat} {a:Addr} {q:Option Addr} (p:Option Addr) {K:Prog} (ho:Own n 1 h ⟨some a,1,1⟩ [.pointer q]) (hk:∀ h',Own n 1 h' ⟨some a,1,1⟩ [.pointer p]→Upd ⟨some a,1,1⟩ h h'→wp P K h' Q) :
  wp P (.store (some a) [.pointer p] K) h Q:=by
 have:=s_putEnd (P:=P) (Q:=Q) (K:=K) (pre:=[]) (old:=[.pointer q]) [.pointer p] ho rfl rfl (by intro v hv; rw [List.mem_singleton.1 hv]; rfl) hk
 simpa [shiftTo,add_zero'] using this
theorem small_ne {n m c:Nat} {ws:List Value} {a b:Addr} {vs:List Value} (ho:Own n 1 h ⟨some b,m,c⟩ ws) (hc:Cells h a vs) (hl:c<vs.length):b.block≠a.block:=by
 intro e
 obtain ⟨_,_,_,o4⟩:=ho
 obtain ⟨e0,e1,e2,cs,elem,e3,e4,e5⟩:=o4
 have c0:=cells_iff.1 hc 0 _ (List.getElem?_eq_getElem (by omega))
 have c1:=cells_iff.1 hc c _ (List.getElem?_eq_getElem hl)
 rw [add_zero'] at c0
 obtain ⟨ab,ao,sp⟩:=a
 dsimp only at e
 cases sp with
 | some s=>unfold cell at c0; dsimp only at c0; split at c0 <;> simp at c0
 | none=>
  rw [add_mk] at c1
  unfold cell at c1
  dsimp only at c1
  rw [← e,e3] at c1
  simp at c1
  have:=(Array.getElem?_eq_some_iff.1 c1).1
  dsimp only at e4
  omega
theorem cells_upd {a b:Addr} {m c:Nat} {h h':Heap} {vs:List Value} (u:Upd ⟨some b,m,c⟩ h h') (hc:Cells h a vs) (hne:b.block≠a.block):Cells h' a vs:=
 cells_iff.2 fun j v hj=>by
  have c:=cells_iff.1 hc j v hj
  have hlt:=cell_lt c
  unfold Sw.cell at c ⊢
  rw [u.2.1 (a.add j).block hlt (by intro x hx; cases hx; rw [add_block]; exact hne)]
  exact c
theorem least {p:Nat→Prop}:∀ n,p n→∃ m,p m∧∀ k,p k→m≤k:=by
 intro n
 induction n using Nat.strongRecOn with
 | ind n ih=>
  intro hn
  by_cases hx:∃ k,k<n∧p k
  ·obtain ⟨k,hk,hp⟩:=hx; exact ih k hk hp
  ·exact ⟨n,hn,fun k hk=>Nat.le_of_not_lt fun hlt=>hx ⟨k,hlt,hk⟩⟩
open Classical in
theorem wp_whileG {G:Type} {tys:List Ty} {s:Ts.den tys} {body:Ts.den tys→Prog} {K:Nat→List Value→Prog} (J:G→Ts.den tys→Heap→Prop) (ρ:G→Nat) (R:Nat→List Value→Heap→Prop) (g0:G) (h0:J g0 s h)
  (hs:∀ g s h,J g s h→wp P (body s) h fun tag vs h'=>(tag=0→∃ g' s',vs=Ts.inj tys s'∧J g' s' h'∧ρ g'<ρ g)∧(tag≠0→R tag vs h'))
  (hk:∀ t vs h',R t vs h'→wp P (K t vs) h' Q):wp P (.bind (.loop tys s body) K) h Q:=by
 have key:∀ s h,(∃ g,J g s h)→∃ m,(∃ g,J g s h∧ρ g=m)∧∀ g,J g s h→m≤ρ g:=by
  intro s h ⟨g,hg⟩
  obtain ⟨m,hm,hl⟩:=least (p:=fun m=>∃ g,J g s h∧ρ g=m) (ρ g) ⟨g,hg,rfl⟩
  exact ⟨m,hm,fun g hg=>hl _ ⟨g,hg,rfl⟩⟩
 refine wp_while (fun s h=>∃ g,J g s h) (fun s h=>if hx:∃ g,J g s h then Classical.choose (key s h hx) else 0) R ⟨g0,h0⟩ ?_ hk
 intro s h hx
 obtain ⟨⟨g,hg,hr⟩,_⟩:=Classical.choose_spec (key s h hx)
 refine wp_mono (body s) (fun t vs h' ⟨a,b⟩=>⟨fun ht=>?_,b⟩) (hs g s h hg)
 obtain ⟨g',s',e,hj,hlt⟩:=a ht
 refine ⟨s',e,⟨g',hj⟩,?_⟩
 have hx':∃ g,J g s' h':=⟨g',hj⟩
 have h1:=(Classical.choose_spec (key s' h' hx')).2 g' hj
 rw [dif_pos hx,dif_pos hx', ← hr]
 omega
theorem minI_eq (a b:Int):minI a b=min a b:=by unfold minI; split <;> omega
theorem eqI_self (a:Int):eqI a a=true:=eqI_iff.2 rfl
def Placed (i j:Int) (n:Nat):Prop:=0≤i∧i≤j∧j≤n
theorem s_putAll {n m c:Nat} {a:Addr} {old:List Value} (new:List Value) {K:Prog} (ho:Own n 1 h ⟨some a,m,c⟩ old) (hl:new.length=old.length) (hf:∀ v∈new,flat v=true)
  (hk:∀ h',Own n 1 h' ⟨some a,m,c⟩ new→Upd ⟨some a,m,c⟩ h h'→wp P K h' Q):wp P (.store (some a) new K) h Q:=by
 have:=s_putEnd (P:=P) (Q:=Q) (K:=K) (pre:=[]) (old:=old) new ho rfl hl hf hk
 simpa [shiftTo,add_zero'] using this
theorem cell_own {n:Nat} {a:Addr} {v:Value} (o:Own n 1 h ⟨some a,1,1⟩ [v]):Sw.cell h a=some v:=by
 have:=cells_iff.1 o.cells 0 v rfl
 rwa [add_zero'] at this
end Go.Sw.Tree
namespace Go.Sw
variable {P:Program} {h:Heap} {Q:Nat→List Value→Heap→Prop}
def own (n m i:Nat):Prop:=n≤i∧i<n+m
def Held (W:Nat→Prop) (h h':Heap):Prop:=h.size≤h'.size∧(∀ i,i<h.size→W i→h'[i]? = h[i]?)∧∀ a,frz h a=false→frz h' a=false
theorem Held.refl (W:Nat→Prop) (h:Heap):Held W h h:=⟨Nat.le_refl _,fun _ _ _=>rfl,fun _ x=>x⟩
theorem Held.trans {W:Nat→Prop} {a b c:Heap} (u:Held W a b) (v:Held W b c):Held W a c:=
 ⟨Nat.le_trans u.1 v.1,fun i hi hw=>(v.2.1 i (Nat.lt_of_lt_of_le hi u.1) hw).trans (u.2.1 i hi hw),fun x hx=>v.2.2 x (u.2.2 x hx)⟩
theorem Held.mono {W V:Nat→Prop} {a b:Heap} (u:Held W a b) (hv:∀ i,i<a.size→V i→W i):Held V a b:=⟨u.1,fun i hi hw=>u.2.1 i hi (hv i hi hw),u.2.2⟩
theorem Held.of_chg {W F:Nat→Prop} {a b:Heap} (c:Chg F a b) (hn:∀ i,i<a.size→W i→¬ F i):Held W a b:=⟨c.1,fun i hi hw=>c.2.1 i hi (hn i hi hw),c.2.2⟩
theorem Held.of_ext {W:Nat→Prop} {a b:Heap} (e:Ext a b):Held W a b:=⟨e.1,fun i hi _=>e.2.1 i hi,e.2.2⟩
theorem Held.cell {W:Nat→Prop} {a b:Heap} (u:Held W a b) {x:Addr} {v:Value} (hc:Sw.cell a x=some v) (hw:W x.block):Sw.cell b x=some v:=by
 have hlt:=cell_lt hc
 unfold Sw.cell at hc ⊢
 rw [u.2.1 _ hlt hw]; exact hc
theorem frz_other {h:Heap} {i:Nat} {o o':Obj} (ho:h[i]? = some o) (h0:∀ c e f,o' ≠ .cells c e f) (a:Addr) (ha:frz h a=false):frz (h.setIfInBounds i o') a=false:=by
 unfold frz at ha ⊢
 by_cases hi:i=a.block
 ·subst hi
  have hlt:=(Array.getElem?_eq_some_iff.1 ho).1
  rw [Array.getElem?_setIfInBounds_self,if_pos hlt]
  cases o' with
  | cells c e f=>exact absurd rfl (h0 c e f)
  | _=>rfl
 ·rw [Array.getElem?_setIfInBounds_ne hi]; exact ha
theorem chg_set {h:Heap} {i:Nat} {o o':Obj} (ho:h[i]? = some o) (h0:∀ c e f,o' ≠ .cells c e f):Chg (own i 1) h (h.setIfInBounds i o'):=
 ⟨by simp,fun j hj hn=>by rw [Array.getElem?_setIfInBounds_ne]; intro e; exact hn ⟨by omega,by omega⟩,frz_other ho h0⟩
theorem set_same {h:Heap} {i:Nat} {o o':Obj} (ho:h[i]? = some o):(h.setIfInBounds i o')[i]? = some o':=by
 rw [Array.getElem?_setIfInBounds_self,if_pos (Array.getElem?_eq_some_iff.1 ho).1]
theorem set_size (h:Heap) (i:Nat) (o:Obj):(h.setIfInBounds i o).size=h.size:=by simp
theorem ext_pushO (h:Heap) (o:Obj) (h0:∀ c e f,o ≠ .cells c e f):Ext h (h.push o):=by
 refine ⟨by simp,fun i hi=>push_old h o hi,fun a ha=>?_⟩
 unfold frz at ha ⊢
 by_cases hi:a.block<h.size
 ·rw [push_old h o hi]; exact ha
 ·by_cases he:a.block=h.size
  ·rw [he,Array.getElem?_push_size]
   cases o with
   | cells c e f=>exact absurd rfl (h0 c e f)
   | _=>rfl
  ·rw [Array.getElem?_eq_none (by simp; omega)]
def IterG (P:Program) (it:Value) (N:Nat) (A:Nat→Heap→Heap→List Value→Prop) (Z:Nat→Prop) (m:Nat) (h0:Heap):Prop:=
 ∀ (h:Heap) (y:Value) (J:Nat→Heap→Prop) (F:Heap→Prop),h0.size≤h.size→Held Z h0 h→flat y=true →
  (∀ k a b,J k a→Chg (own h.size m) a b→J k b)→(∀ a b,F a→Chg (own h.size m) a b→F b) →
  (∀ k hp h1 args,k<N→J k hp→h.size≤hp.size→Chg (own h.size m) hp h1→h.size+m≤h1.size→Held Z h0 h1→A k hp h1 args →
   DynV P y args h1 fun vs h2=>∃ b,vs=[.bool b]∧Held (fun i=>own h.size m i∨(Z i∧i<h0.size)) h1 h2∧(b=true→J (k+1) h2)∧(b=false→F h2)) →
  J 0 h→DynE P it [y] h fun vs h'=>vs=[]∧h.size≤h'.size∧Held Z h0 h'∧(J N h'∨F h')
theorem Held.step {Z V:Nat→Prop} {h0 a b:Heap} (u:Held Z h0 a) (v:Held V a b) (hv:∀ i,i<h0.size→Z i→V i):Held Z h0 b:=
 ⟨Nat.le_trans u.1 v.1,fun i hi hz=>(v.2.1 i (Nat.lt_of_lt_of_le hi u.1) (hv i hi hz)).trans (u.2.1 i hi hz),fun x hx=>v.2.2 x (u.2.2 x hx)⟩
theorem Held.chg {Z F:Nat→Prop} {h0 a b:Heap} (u:Held Z h0 a) (v:Chg F a b) (hv:∀ i,i<h0.size→Z i→¬ F i):Held Z h0 b:=
 ⟨Nat.le_trans u.1 v.1,fun i hi hz=>(v.2.1 i (Nat.lt_of_lt_of_le hi u.1) (hv i hi hz)).trans (u.2.1 i hi hz),fun x hx=>v.2.2 x (u.2.2 x hx)⟩
theorem recOf_zero {r:Loop} (h1:r.state = .ready) (h2:r.pending=none):recOf r 0=r:=by
 cases r; simp only at h1 h2; subst h1; subst h2; rfl
theorem wp_range {f:Value} {tys outs:List Ty} {asg:Ts.den tys→Prog} {body:Ts.den outs→Prog} {K:Nat→Prog} {N:Nat} {A:Nat→Heap→Heap→List Value→Prop} {Z:Nat→Prop} {m:Nat} {h0:Heap}
  (it:IterG P f N A Z m h0) (kz:Held Z h0 h) (J:Nat→Heap→Prop) (F:Nat→Heap→Prop)
  (sJ:∀ k a b,J k a→Chg (own h.size (m+2)) a b→J k b) (sF:∀ k a b,F k a→Chg (own h.size (m+2)) a b→F k b)
  (hA:∀ k hp h1 args,A k hp h1 args→∃ x,args=Ts.inj tys x)
  (hr:∀ k hp h1 x,k<N→J k hp→h.size+2≤hp.size→Chg (own h.size (m+2)) hp h1→h.size+2+m≤h1.size→Held Z h0 h1→A k hp h1 (Ts.inj tys x) →
   wp P (asg x) h1 fun tag vs h3=>tag=0∧∃ y,vs=Ts.inj outs y∧Held (fun i=>own h.size (m+2) i∨(Z i∧i<h0.size)) h1 h3 ∧
    ∀ h3',Chg (own h.size (m+2)) h3 h3'→h3'.size=h3.size→wp P (body y) h3' fun tag _ h4=>Held (fun i=>own h.size (m+2) i∨(Z i∧i<h0.size)) h3' h4∧(tag=0→J (k+1) h4)∧(tag≠0→F tag h4))
  (j0:J 0 h)
  (hk:∀ j h5,h.size+2≤h5.size→Held Z h0 h5→(j=0∧J N h5∨j≠0∧F j h5)→wp P (K j) h5 fun t vs h6=>Held (own h.size 1) h5 h6∧∀ h7,Chg (own h.size 1) h6 h7→h7.size=h6.size→Q t vs h7) :
  wp P (.range f tys outs asg body K) h Q:=by
 intro r hr1 hr2 hy
 have hs:((h.push (.deferred (some []))).push (.loop r)).size=h.size+2:=by simp
 have hd:((h.push (.deferred (some []))).push (.loop r))[h.size]? = some (.deferred (some [])):=by
  rw [push_old _ _ (by simp),Array.getElem?_push_size]
 have hl:((h.push (.deferred (some []))).push (.loop r))[h.size+1]? = some (.loop r):=by
  have:=Array.getElem?_push_size (xs:=h.push (.deferred (some []))) (x:=.loop r)
  simpa using this
 have e2:Ext h ((h.push (.deferred (some []))).push (.loop r)):=(ext_pushO h _ (by intro c e f x; cases x)).trans (ext_pushO _ _ (by intro c e f x; cases x))
 generalize (h.push (.deferred (some []))).push (.loop r)=h2 at hs hd hl e2 ⊢
 have zlt:h0.size≤h.size:=kz.1
 let rec':Nat→Heap→Prop:=fun j a=>a[h.size]? = some (.deferred (some []))∧a[h.size+1]? = some (.loop (recOf r j))
 have keepR:∀ j a b,rec' j a→h2.size≤a.size→Chg (own h2.size m) a b→rec' j b:=fun j a b x hl c=>
  ⟨(c.2.1 _ (by omega) fun o=>by have:=o.1; omega).trans x.1,(c.2.1 _ (by omega) fun o=>by have:=o.1; omega).trans x.2⟩
 have inner:∀ i,own h2.size m i→own h.size (m+2) i:=fun i o=>⟨by have:=o.1; omega,by have:=o.2; omega⟩
 have key:=it h2 (yieldV (h.size+1)) (fun k a=>J k a∧rec' 0 a∧h2.size≤a.size) (fun a=>∃ j,j≠0∧F j a∧rec' j a∧h2.size≤a.size) (by omega) (kz.step (V:=fun _=>True) (Held.of_ext e2) fun _ _ _=>trivial) rfl
  (fun k a b ⟨x,y,z⟩ c=>⟨sJ k a b x (c.mono fun i _ o=>inner i o),keepR _ _ _ y z c,Nat.le_trans z c.1⟩)
  (fun a b ⟨j,hj,x,y,z⟩ c=>⟨j,hj,sF j a b x (c.mono fun i _ o=>inner i o),keepR _ _ _ y z c,Nat.le_trans z c.1⟩)
  (fun k hp h1 args hk ⟨x,y,z⟩ hs1 c hs2 hz ha=>?_)
  ⟨sJ 0 h h2 j0 (Chg.of_ext e2),⟨hd,by rw [recOf_zero hr1 hr2]; exact hl⟩,Nat.le_refl _⟩
 ·refine DynE.mono key fun vs h5 ⟨_,hs5,hz5,hx⟩=>?_
  have fin:∀ j,rec' j h5→(j=0∧J N h5∨j≠0∧F j h5)→∃ j,h5[h.size+1]? = some (.loop (recOf r j)) ∧
    wp P (K j) (h5.setIfInBounds (h.size+1) (.loop (goneOf (recOf r j)))) fun t vs h6=>h6[h.size]? = some (.deferred (some []))∧Q t vs (h6.setIfInBounds h.size (.deferred none)):=fun j rj hj=>by
   refine ⟨j,rj.2,?_⟩
   have cs:=chg_set (o':=.loop (goneOf (recOf r j))) rj.2 (by intro c e f x; cases x)
   have csm:Chg (own h.size (m+2)) h5 (h5.setIfInBounds (h.size+1) (.loop (goneOf (recOf r j)))):=cs.mono fun i _ o=>⟨by have:=o.1; omega,by have:=o.2; omega⟩
   refine wp_mono _ (fun t vs h6 ⟨hh,hq⟩=>?b1) (hk j _ (by rw [set_size]; omega) (hz5.chg cs fun i hi _ o=>by have:=o.1; omega) ?b2)
   case b1=>
    have hd6:h6[h.size]? = some (.deferred (some [])):=by
     rw [hh.2.1 h.size (by rw [set_size]; omega) ⟨Nat.le_refl _,by omega⟩,Array.getElem?_setIfInBounds_ne (by omega)]; exact rj.1
    exact ⟨hd6,hq _ (chg_set hd6 (by intro c e f x; cases x)) (set_size ..)⟩
   case b2=>
    rcases hj with ⟨h1,h2⟩ | ⟨h1,h2⟩
    ·exact .inl ⟨h1,sJ _ _ _ h2 csm⟩
    ·exact .inr ⟨h1,sF _ _ _ h2 csm⟩
  rcases hx with ⟨hj,hr0,_⟩ | ⟨j,hj0,hf,hrj,_⟩
  ·exact fin 0 hr0 (.inl ⟨rfl,hj⟩)
  ·exact fin j hrj (.inr ⟨hj0,hf⟩)
 ·obtain ⟨xs,rfl⟩:=hA _ _ _ _ ha
  have y1:=keepR _ _ _ y z c
  have cm:Chg (own h.size (m+2)) hp h1:=c.mono fun i _ o=>inner i o
  refine hy xs h1 _ (by rw [y1.2,recOf_zero hr1 hr2]) (wp_mono _ (fun tag vs h3 ⟨ht,yy,hv,hh,hb⟩=>?_) (hr k hp h1 xs hk x (by omega) cm (by omega) hz ha))
  have hd3:h3[h.size]? = some (.deferred (some [])):=(hh.2.1 _ (by omega) (.inl ⟨by omega,by omega⟩)).trans y1.1
  have hl3:h3[h.size+1]? = some (.loop r):=by rw [hh.2.1 _ (by omega) (.inl ⟨by omega,by omega⟩),y1.2,recOf_zero hr1 hr2]
  have c3:=chg_set (o':=.loop (busyOf r)) hl3 (by intro c e f x; cases x)
  refine ⟨ht,yy,hv,hl3,wp_mono _ (fun tag2 vs2 h4 ⟨hh4,hj4,hf4⟩=>?_) (hb _ (c3.mono fun i _ o=>⟨by have:=o.1; omega,by have:=o.2; omega⟩) (set_size ..))⟩
  have hs3:=hh.1
  have hs4:=hh4.1
  rw [set_size] at hs4
  have hl4:h4[h.size+1]? = some (.loop (busyOf r)):=by
   rw [hh4.2.1 _ (by rw [set_size]; omega) (.inl ⟨by omega,by omega⟩)]; exact set_same hl3
  have hd4:h4[h.size]? = some (.deferred (some [])):=by
   rw [hh4.2.1 _ (by rw [set_size]; omega) (.inl ⟨by omega,by omega⟩),Array.getElem?_setIfInBounds_ne (by omega)]; exact hd3
  have c5:=chg_set (o':=.loop (recOf r tag2)) hl4 (by intro c e f x; cases x)
  have c5m:Chg (own h.size (m+2)) h4 (h4.setIfInBounds (h.size+1) (.loop (recOf r tag2))):=c5.mono fun i _ o=>⟨by have:=o.1; omega,by have:=o.2; omega⟩
  have rj:rec' tag2 (h4.setIfInBounds (h.size+1) (.loop (recOf r tag2))):=⟨by rw [Array.getElem?_setIfInBounds_ne (by omega)]; exact hd4,set_same hl4⟩
  refine ⟨hl4,(jumpOf tag2).isNone,rfl,?_,fun hb=>?_,fun hb=>?_⟩
  ·have a1:Held (fun i=>own h2.size m i∨(Z i∧i<h0.size)) h1 h3:=hh.mono fun i _ o=>o.imp (inner i) id
   have a2:Held (fun i=>own h2.size m i∨(Z i∧i<h0.size)) h3 _:=Held.of_chg c3 fun i _ o q=>by rcases o with o | o <;> (have:=o.1; have:=o.2; have:=q.1; have:=q.2; omega)
   have a3:Held (fun i=>own h2.size m i∨(Z i∧i<h0.size)) _ h4:=hh4.mono fun i _ o=>o.imp (inner i) id
   have a4:Held (fun i=>own h2.size m i∨(Z i∧i<h0.size)) h4 _:=Held.of_chg c5 fun i _ o q=>by rcases o with o | o <;> (have:=o.1; have:=o.2; have:=q.1; have:=q.2; omega)
   exact ((a1.trans a2).trans a3).trans a4
  ·have h0':tag2=0:=by
    match tag2,hb with
    | 0,_=>rfl
    | 1,hb=>simp [jumpOf] at hb
    | n+2,hb=>simp [jumpOf] at hb
   subst h0'
   exact ⟨sJ _ _ _ (hj4 rfl) c5m,rj,by rw [set_size]; omega⟩
  ·have h0':tag2≠0:=by rintro rfl; simp [jumpOf] at hb
   exact ⟨tag2,h0',sF _ _ _ (hf4 h0') c5m,rj,by rw [set_size]; omega⟩
end Go.Sw
