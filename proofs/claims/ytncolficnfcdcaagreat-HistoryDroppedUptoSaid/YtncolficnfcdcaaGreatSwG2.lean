/-
  A book: End.
-/
import Derived.Test.YtncolficnfcdcaaGreatSwG1
set_option linter.unusedVariables false
set_option linter.unusedSimpArgs false
set_option maxRecDepth 100000
namespace Go.Sw.Hist
open Go.Sw.Any Go.Sw.Codec Go.Sw.Piece
open Go.Sw.Tree (iv s_putAll s_newP s_getP s_getT s_putP eqI_self Placed cell_own wp_whileG minI_eq)
variable {P:Program} {S:Ids} {h:Heap} {Q:Nat→List Value→Heap→Prop} {n k:Nat} {rho:Nat→Nat} {X:Bk}
def zr (h:Heap) (rho:Nat→Nat):Nat→Nat:=fun i=>if i<h.size then rho i else 0
theorem zr_old {i:Nat} (hi:i<h.size):zr h rho i=rho i:=if_pos hi
theorem zr_new {i:Nat} (hi:h.size≤i):zr h rho i=0:=if_neg (by omega)
theorem StepR.ofExt {h':Heap} (e:Ext h h'):StepR k h rho h' (zr h rho):=⟨Chg.of_ext e,fun i hi _=>zr_old hi,fun i hi hj=>by
 by_cases hlt:i<h.size
 ·rw [zr_old hlt]; rcases hj with hj | hj
  ·omega
  ·exact .inr hj
 ·exact .inl (zr_new (by omega))⟩
theorem BookR.zr {h':Heap} (r:BookR S n h rho k X) (e:Ext h h'):BookR S n h' (zr h rho) k X:=
 r.other (Chg.of_ext (F:=fun _=>False) e) (fun _ _ x=>x.elim) fun i hi _=>zr_old hi
theorem c_EndShut {at_:Int} (r:BookR S n h rho k X) (hn:X.now=none):wp P (F_Book_End S (some X.b) at_) h fun tg vs h'=>tg=0∧vs=[i64v 71]∧h'=h:=by
 unfold F_Book_End
 exact r.rd (b:=.ptr) none (by simp [bkC,hn,B.inj]) (wp_ifB (fun _=>s_ret ⟨rfl,rfl,rfl⟩) fun hc=>by cases hc)
def putU (X:Bk) (g:Grp):List Grp:=if X.depth<(X.U.2.length:Int)+1 then (X.U.2++[g]).drop 1 else X.U.2++[g]
abbrev endB (X:Bk) (g:Grp) (q:Sl):Bk:={ X with T:=keepT X.T,U:=(q,putU X g),R:=(⟨none,0,0⟩,[]),now:=none,state:=X.last+1,last:=X.last+1 }
structure GrpOf (X:Bk) (o:Opn) (at_:Int) (g:Grp):Prop where
 sb:g.sb=o.sb
 sh:g.sh=X.T.cur
 bg:g.bg=o.bg
 en:g.en=at_
 mv:g.mv=o.mv
 old:g.old=o.old
 fresh:g.fresh=X.last+1
structure EndR (X:Bk) (o:Opn) (at_:Int) (X':Bk):Prop where
 no:o.ch=false→X'={ X with now:=none }
 yes:o.ch=true→∃ g q,GrpOf X o at_ g∧X'=endB X g q
theorem s_loadG {o:Opn} {bs:List B} (x:Bs.den bs) {K:Bs.den bs→Prog} (oo:Own n 1 h ⟨some o.o,10,10⟩ (opnC o)) (hx:Bs.inj bs x=(opnC o).take 7) (hk:wp P (K x) h Q):wp P (.load (.agg bs) (shiftTo (some o.o) 0) K) h Q:=by
 refine ⟨o.o.add 0,rfl,x,cells_iff.2 fun j v hj=>?_,hk⟩
 rw [add_zero']
 have hj:(Bs.inj bs x)[j]? = some v:=hj
 rw [hx,List.getElem?_take] at hj
 split at hj
 ·exact cells_iff.1 oo.cells j v hj
 ·cases hj
open Classical in
theorem c_End (C:ClH P S) {o:Opn} {at_:Int} (r:BookR S n h rho k X) (hn:X.now=some o) (hl0:0≤X.last) (hl1:X.last≤4611686018427387904) (hU:X.U.2.length≤1099511627776) :
  wp P (F_Book_End S (some X.b) at_) h fun tg vs h'=>tg=0∧((¬ insideB X at_∧vs=[i64v 2]∧Ext h h')∨(insideB X at_∧vs=[i64v 0]∧∃ rho' X',StepR k h rho h' rho'∧BookR S n h' rho' k X'∧EndR X o at_ X')):=by
 unfold F_Book_End
 have ro:=r.nw o hn
 have hbl:X.b.block<h.size:=(r.ob.lt rfl).2
 have hnh:n≤h.size:=Nat.le_trans (r.ob.lt rfl).1 (Nat.le_of_lt hbl)
 have c6:(bkC X)[6]? = some (.pointer (some o.o)):=by simp [bkC,hn]
 have hne:o.o.block≠X.b.block:=fun e=>by have h1:=ro.ro; have h2:=r.rb; rw [e] at h1; omega
 refine r.rd (b:=.ptr) (some o.o) c6 (wp_ifB (fun hc=>by cases hc) fun _=>?_)
 refine wp_call (c_inside (at_:=at_) r.ob rfl r.t) fun ⟨(b1:Bool),_⟩ h1 e1 hb=>wp_ifB (fun hc=>s_ret ⟨rfl, .inl ⟨fun hx=>?_,rfl,e1⟩⟩) fun hc=>?_
 ·rw [notB_iff] at hc
  have:=hb.2 hx
  dsimp only at this hc
  rw [this] at hc; cases hc
 rw [notB_not] at hc
 have hin:insideB X at_:=hb.1 hc
 have hs1:=e1.1
 have st1:=StepR.ofExt (k:=k) (rho:=rho) e1
 have hz1:∀ i,h1.size≤i→Hist.zr h rho i=0:=fun i hi=>zr_new (by omega)
 have r1:=r.zr e1
 generalize Hist.zr h rho=rho1 at st1 hz1 r1
 clear r ro
 have ro:=r1.nw o hn
 have rb1:=r1.rb
 have hbl1:X.b.block<h1.size:=(r1.ob.lt rfl).2
 refine s_deferv (r1.rd (b:=.ptr) (some o.o) c6 (wp_grd rfl (wp_grd rfl (wp_load1 (b:=.bool) (o.o.add 9) o.ch rfl (cells_iff.1 ro.ob.cells 9 _ rfl) ?_))))
 refine wp_ifB (fun hc=>?_) fun hc=>?_
 ·rw [notB_iff] at hc
  refine s_ret (s_shut C r1.ob fun h2 ob2 c2=>⟨rfl, .inr ⟨hin,rfl,rho1,{ X with now:=none },?_,?_,⟨fun _=>rfl,fun hx=>by rw [hc] at hx; cases hx⟩⟩⟩)
  ·exact st1.trans (StepR.of c2 (fun i hi e=>by rw [e,rb1]; omega) fun i hi1 hi2=>hz1 i hi1)
  ·exact {
    t:=r1.tK c2 fun i hi e=>by rw [e]; omega
    rt:=r1.rt
    mp:=r1.mpK c2 fun i hi e=>by rw [e]; omega
    rm:=r1.rm
    ow:=r1.owK c2 fun i hi e=>by rw [e]; omega
    rwd:=r1.rwd
    ou:=r1.ouK c2 fun i hi e=>by rw [e]; omega
    ru:=r1.ru
    orr:=r1.orK c2 fun i hi e=>by rw [e]; omega
    rr:=r1.rr
    gs:=r1.gsK c2 (fun i hi e=>by rw [e]; omega) (fun _ _ h=>h) rfl fun s hs=>hs
    nw:=fun o' ho'=>by cases ho'
    ob:=by
     have e:bkC { X with now:=none }=(bkC X).set 6 (.pointer none):=by simp [bkC]
     show Own n 1 h2 ⟨some X.b,10,10⟩ (bkC { X with now:=none })
     rw [e]; exact ob2
    rb:=rb1 }
 rw [notB_not] at hc
 refine r1.rd (b:=.int .i64) X.last rfl (wp_grd rfl (wp_grd rfl ?_))
 rw [add_ok (by omega) (by omega)]
 refine s_setC' (i64v (X.last+1)) r1.ob (by simp [bkC]) rfl fun h2 ob2 u2=>?_
 have c2:Chg (fun i=>i=X.b.block) h1 h2:=Chg.of_upd u2 fun a ha _=>by cases ha; rfl
 have oo2:=c2.own ro.ob fun a ha e=>by cases ha; exact hne e
 have rdb:∀ {h':Heap} {vs:List Value} {b:B} {i:Nat} (y:b.den) {K:b.den→Prog} {Q:Nat→List Value→Heap→Prop},Own n 1 h' ⟨some X.b,10,10⟩ vs→vs[i]? = some (b.inj y)→wp P (K y) h' Q→wp P (grd (someB (some X.b)) <| grd (someB (some X.b)) <| .load (.one b) (shiftTo (some X.b) i) K) h' Q:=
  @fun h' vs b i y K Q ob hv hk=>wp_grd rfl (wp_grd rfl (wp_load1 (b:=b) (X.b.add i) y rfl (cells_iff.1 ob.cells _ _ hv) hk))
 have hs2:=c2.1
 refine rdb (b:=.ptr) (some o.o) ob2 (by simp [bkC,hn,B.inj]) (wp_grd rfl (wp_grd rfl (s_loadG (some o.bef,none,o.bg,0,o.mv.1,o.old,0,()) oo2 rfl ?_)))
 dsimp only
 refine fun elem=>?_
 have e3:Ext h2 (h2.push (.cells [.pointer none, .pointer none,i64v 0,i64v 0, .slice none 0 0,i64v 0,i64v 0].toArray elem)):=Ext.push ..
 have og3:Own h2.size 1 (h2.push (.cells [.pointer none, .pointer none,i64v 0,i64v 0, .slice none 0 0,i64v 0,i64v 0].toArray elem)) ⟨some ⟨h2.size,0,none⟩,7,7⟩ [.pointer none, .pointer none,i64v 0,i64v 0, .slice none 0 0,i64v 0,i64v 0]:=own_alloc rfl (by decide) (by decide)
 generalize h2.push (.cells [.pointer none, .pointer none,i64v 0,i64v 0, .slice none 0 0,i64v 0,i64v 0].toArray elem)=h3 at e3 og3 ⊢
 have hs3:h2.size<h3.size:=(og3.lt rfl).2
 refine s_putV [.pointer (some o.bef), .pointer none,i64v o.bg,i64v 0,slv o.mv.1,i64v o.old,i64v 0] og3 rfl (by intro v hv; simp only [List.mem_cons,List.not_mem_nil,or_false] at hv; rcases hv with rfl | rfl | rfl | rfl | rfl | rfl | rfl <;> rfl) fun h4 og4 u4 z4=>?_
 let F:Nat→Prop:=fun i=>i=X.b.block∨∃ a,X.U.1.base=some a∧a.block=i
 have c24:Chg (fun i=>i=X.b.block) h1 h4:=(c2.ext e3).upd u4 fun x hx hlt=>by cases hx; exact absurd hlt (by dsimp only; omega)
 have c24':Chg (fun i=>i=h2.size) h2 h4:=(Chg.of_ext e3).upd u4 fun x hx _=>by cases hx; rfl
 have ob4:=c24'.own ob2 fun a ha e=>by cases ha; omega
 have t4:TextR S n h4 X.T:=r1.tK c24 fun i hi e=>by rw [e]; omega
 refine rdb (b:=.ptr) (some X.T.p) ob4 rfl (rdb (b:=.int .i64) (X.last+1) ob4 rfl ?_)
 refine wp_call (c_Snap t4) fun ⟨(sp:Option Addr),_⟩ h5 e5 hsn=>?_
 obtain ⟨sn,rfl,sn5⟩:=hsn
 have sn5:SnapR h4.size h5 sn X.T.p X.T.cur:=sn5
 dsimp only
 have X5:∀ {m size:Nat} {s:Sl} {vs:List Value},Own m size h4 s vs→Own m size h5 s vs:=fun ho=>(Chg.of_ext (F:=fun _=>False) e5).own ho fun _ _ x=>x
 have ob5:=X5 ob4
 have hs5:=e5.1
 refine s_ckC (cells_iff.1 ob5.cells 9 _ rfl) ?_
 refine s_setC' (.pointer (some sn)) (X5 og4) (by simp) rfl fun h6 og6 u6=>s_setC' (i64v at_) og6 (by simp) rfl fun h7 og7 u7=>s_setC' (i64v (X.last+1)) og7 (by simp) rfl fun h8 og8 u8=>?_
 simp only [List.set_cons_zero,List.set_cons_succ] at og8
 have c58:Chg (fun i=>i=h2.size) h5 h8:=((Chg.of_upd (F:=fun i=>i=h2.size) u6 fun a ha _=>by cases ha; rfl).trans (Chg.of_upd (F:=fun i=>i=h2.size) u7 fun a ha _=>by cases ha; rfl) fun _ _ x=>x).trans (Chg.of_upd (F:=fun i=>i=h2.size) u8 fun a ha _=>by cases ha; rfl) fun _ _ x=>x
 have hs8:=c58.1
 have snb:h4.size≤sn.block∧sn.block<h5.size:=sn5.lt rfl
 have sn8:=c58.own sn5 fun a ha e=>by cases ha; omega
 have ob8:=c58.own ob5 fun a ha e=>by cases ha; omega
 have c18:Chg (fun i=>i=X.b.block) h1 h8:=(c24.ext e5).trans c58 fun i hi e=>by omega
 refine rdb (b:=.int .i64) (X.last+1) ob8 rfl (wp_grd rfl (wp_grd rfl (s_setC' (i64v (X.last+1)) ob8 (by simp [bkC]) rfl fun h9 ob9 u9=>wp_grd rfl (wp_grd rfl (s_setC' (.slice none 0 0) ob9 (by simp [bkC]) rfl fun h10 ob10 u10=>?_)))))
 have cb:∀ {g g':Heap} {m c:Nat},Upd ⟨some X.b,m,c⟩ g g'→Chg (fun i=>i=X.b.block) g g':=fun u=>Chg.of_upd u fun a ha _=>by cases ha; rfl
 have c810:Chg (fun i=>i=X.b.block) h8 h10:=(cb u9).trans (cb u10) fun _ _ x=>x
 have hs10:=c810.1
 have c110:Chg (fun i=>i=X.b.block) h1 h10:=c18.trans c810 fun _ _ x=>x
 have og10:=c810.own og8 fun a ha e=>by cases ha; have e:h2.size=X.b.block:=e; omega
 have sn10:=c810.own sn8 fun a ha e=>by cases ha; have e:sn.block=X.b.block:=e; omega
 refine rdb (b:=.sl) X.U.1 ob10 (by simp [bkC,B.inj]) ?_
 refine fun elem=>?_
 have e11:Ext h10 (h10.push (.cells [.pointer (some ⟨h2.size,0,none⟩)].toArray elem)):=Ext.push ..
 have rd11:Rd 1 (h10.push (.cells [.pointer (some ⟨h2.size,0,none⟩)].toArray elem)) ⟨some ⟨h10.size,0,none⟩,1,1⟩ [.pointer (some ⟨h2.size,0,none⟩)]:=rd_alloc rfl
 generalize h10.push (.cells [.pointer (some ⟨h2.size,0,none⟩)].toArray elem)=h11 at e11 rd11 ⊢
 have hs11:=e11.1
 have c111:=c110.ext e11
 have ou11:Own n 1 h11 X.U.1 (ptrs X.U.2):=r1.ouK c111 fun i hi e=>by rw [e]; omega
 have hul:X.U.1.len=X.U.2.length:=by have:=ou11.1; simpa [ptrs] using this
 have hur:∀ a,X.U.1.base=some a→rho1 a.block=k+4∧a.block<h1.size:=fun a ha=>⟨r1.ru a ha,(r1.ou.lt ha).2⟩
 refine wp_appendE ou11 (by omega) rd11 (by intro v hv; rw [List.mem_singleton.1 hv]; rfl) rfl (by dsimp only; omega) (by dsimp only; omega) fun q h12 oq12 l12 u12 b12 _=>?_
 have c12:Chg (fun i=>∃ a,X.U.1.base=some a∧a.block=i) h11 h12:=Chg.of_upd u12 fun a ha _=>⟨a,ha,rfl⟩
 have hs12:=c12.1
 have X11:∀ {m size:Nat} {s:Sl} {vs:List Value},Own m size h10 s vs→Own m size h11 s vs:=fun ho=>(Chg.of_ext (F:=fun _=>False) e11).own ho fun _ _ x=>x
 have ob12:=c12.own (X11 ob10) fun a ha ⟨y,hy,e⟩=>by cases ha; have h1:=(hur y hy).1; rw [e] at h1; omega
 have og12:=c12.own (X11 og10) fun a ha ⟨y,hy,e⟩=>by cases ha; have h1:=(hur y hy).2; have e:y.block=h2.size:=e; omega
 have sn12:=c12.own (X11 sn10) fun a ha ⟨y,hy,e⟩=>by cases ha; have h1:=(hur y hy).2; omega
 have hqb:∀ a,q.base=some a→(rho1 a.block=k+4∧a.block<h1.size)∨h11.size≤a.block:=fun a ha=>(b12 a ha).imp (hur a) id
 have hqne:∀ a,q.base=some a→a.block≠X.b.block∧a.block≠h2.size∧a.block≠sn.block:=fun a ha=>by
  rcases hqb a ha with ⟨h1,h2⟩ | h1
  ·refine ⟨fun e=>?_,by omega,by omega⟩
   rw [e] at h1; omega
  ·omega
 refine wp_grd rfl (wp_grd rfl (s_setC' (slv q) ob12 (by simp [bkC]) rfl fun h13 ob13 u13=>?_))
 have c13:=cb u13
 have hs13:=c13.1
 have oq13:=c13.own oq12 fun a ha e=>(hqne a ha).1 e
 have og13:=c13.own og12 fun a ha e=>by cases ha; have e:h2.size=X.b.block:=e; omega
 have sn13:=c13.own sn12 fun a ha e=>by cases ha; have e:sn.block=X.b.block:=e; omega
 have c1F:Chg F h1 h13:=((c111.mono (G:=F) fun i _ x=>.inl x).trans (c12.mono (G:=F) fun i _ x=>.inr x) fun _ _ x=>x).trans (c13.mono (G:=F) fun i _ x=>.inl x) fun _ _ x=>x
 let g:Grp:={ pt:=⟨h2.size,0,none⟩,bef:=o.bef,beh:=sn,sb:=o.sb,sh:=X.T.cur,bg:=o.bg,en:=at_,mv:=o.mv,old:=o.old,fresh:=X.last+1 }
 have hq13:Own n 1 h13 q (ptrs (X.U.2++[g])):=by
  have:ptrs (X.U.2++[g])=ptrs X.U.2++[.pointer (some ⟨h2.size,0,none⟩)]:=by simp [ptrs,g]
  rw [this]; exact oq13
 let V:Sl→List Value:=fun q'=>((((((bkC X).set 9 (i64v (X.last+1))).set 7 (i64v (X.last+1))).set 3 (.slice none 0 0)).set 2 (slv q')))
 have ob13:Own n 1 h13 ⟨some X.b,10,10⟩ (V q):=ob13
 refine wp_bind (fun tg vs h'=>tg=0∧vs=[]∧∃ q',Own n 1 h' q' (ptrs (putU X g))∧q'.base=q.base∧Own n 1 h' ⟨some X.b,10,10⟩ (V q')∧Chg (fun i=>i=X.b.block∨∃ a,q.base=some a∧a.block=i) h13 h') ?_ ?_
 ·refine rdb (b:=.sl) q ob13 (by simp [V,bkC,B.inj]) (rdb (b:=.int .i64) X.depth ob13 (by simp [V,bkC,B.inj]) ?_)
  have hql:q.len=X.U.2.length+1:=by rw [l12,hul]
  refine wp_ifB (fun hd=>?_) fun hd=>?_
  ·rw [gtI_iff,natI_def,hql] at hd
   have hput:putU X g=(X.U.2++[g]).drop 1:=if_pos (by omega)
   refine rdb (b:=.sl) q ob13 (by simp [V,bkC,B.inj]) ?_
   obtain ⟨g0,gs0,hg0⟩:∃ g0 gs0,X.U.2++[g]=g0::gs0:=by
    cases hh:X.U.2 with
    | nil=>exact ⟨g,[],rfl⟩
    | cons a l=>exact ⟨a,l++[g],rfl⟩
   rw [hg0] at hq13
   refine wp_callF (c_Delete (v:=.pointer (some g0.pt)) (vs:=ptrs gs0) hq13 (by intro u hu; obtain ⟨y,_,rfl⟩:=List.mem_map.1 hu; rfl)) fun ⟨(q':Sl),_⟩ h14 c14 hx=>?_
   obtain ⟨hq14,hqb14⟩:=hx
   have hqb14:q'.base=q.base:=hqb14
   have hq14:Own n 1 h14 q' (ptrs gs0):=hq14
   dsimp only
   have ob14:=c14.own ob13 fun a ha ⟨y,hy,e⟩=>by cases ha; exact (hqne y hy).1 e
   refine wp_grd rfl (wp_grd rfl (s_setC' (slv q') ob14 (by simp [V,bkC]) rfl fun h15 ob15 u15=>?_))
   have c15:=cb u15
   refine s_ret ⟨rfl,rfl,q',?_,hqb14,?_,(c14.mono fun i _ x=>.inr x).trans c15 fun i _ x=>.inl x⟩
   ·rw [hput,hg0]
    exact c15.own hq14 fun a ha e=>(hqne a (by rw [← hqb14]; exact ha)).1 e
   ·have:V q'=(V q).set 2 (slv q'):=by simp [V,bkC]
    rw [this]; exact ob15
  ·rw [gtI_not,natI_def,hql] at hd
   have hput:putU X g=X.U.2++[g]:=if_neg (by omega)
   exact s_ret ⟨rfl,rfl,q,by rw [hput]; exact hq13,rfl,ob13,Chg.refl _ _⟩
 rintro tg vs h15 ⟨rfl,rfl,q',hq15,hqb15,ob15,c15⟩
 refine s_tag (s_cast0 (s_ret (s_shut C ob15 fun h16 ob16 c16=>⟨rfl, .inr ⟨hin,rfl,?_⟩⟩)))
 have hs15:=c15.1
 have hs16:=c16.1
 let G:Nat→Prop:=fun i=>i=X.b.block∨∃ a,q.base=some a∧a.block=i
 have c16G:Chg G h13 h16:=(c15.mono (G:=G) fun _ _ x=>x).trans (c16.mono (G:=G) fun i _ e=>.inl e) fun _ _ x=>x
 have cT:Chg F h1 h16:=c1F.trans c16G fun i hi hg=>by
  rcases hg with rfl | ⟨a,ha,rfl⟩
  ·exact .inl rfl
  ·rcases b12 a ha with h | h
   ·exact .inr ⟨a,h,rfl⟩
   ·omega
 have hF:∀ i,i<h1.size→F i→rho1 i=k+1∨rho1 i=k+4:=fun i hi hf=>by
  rcases hf with rfl | ⟨a,ha,rfl⟩
  ·exact .inl rb1
  ·exact .inr (hur a ha).1
 have og16:=c16G.own og13 fun a ha hg=>by
  cases ha
  rcases hg with e | ⟨y,hy,e⟩
  ·have e:h2.size=X.b.block:=e; omega
  ·exact (hqne y hy).2.1 e
 have sn16:=c16G.own sn13 fun a ha hg=>by
  cases ha
  rcases hg with e | ⟨y,hy,e⟩
  ·omega
  ·exact (hqne y hy).2.2 e
 have hq16:=c16.own hq15 fun a ha e=>(hqne a (by rw [← hqb15]; exact ha)).1 e
 let rho2:Nat→Nat:=fun i=>if i<h1.size then (if rho1 i=k+7 then 0 else rho1 i) else if (∃ a,q.base=some a∧a.block=i) then k+4 else 0
 have hold:∀ i,i<h1.size→rho2 i=if rho1 i=k+7 then 0 else rho1 i:=fun i hi=>if_pos hi
 have hsame:∀ j,j≠k+7→∀ i,i<h1.size→rho1 i=j→rho2 i=j:=fun j hj i hi e=>by rw [hold i hi,e,if_neg hj]
 have hnew:∀ i,h1.size≤i→(∀ a,q.base=some a→a.block≠i)→rho2 i=0:=fun i hi hq=>by
  show (if _ then _ else _)=0
  rw [if_neg (by omega),if_neg]
  rintro ⟨a,ha,e⟩
  exact hq a ha e
 have hqr:∀ a,q.base=some a→rho2 a.block=k+4:=fun a ha=>by
  rcases hqb a ha with ⟨h1,h2⟩ | h1
  ·exact hsame _ (by omega) _ h2 h1
  ·show (if _ then _ else _)=_
   rw [if_neg (by omega),if_pos ⟨a,ha,rfl⟩]
 have r0:rho2 h2.size=0:=hnew _ hs2 fun a ha e=>(hqne a ha).2.1 e
 have rs0:rho2 sn.block=0:=hnew _ (by omega) fun a ha e=>(hqne a ha).2.2 e
 have gR:GrpR n h16 rho2 (keepT X.T) g:={
  ob:=own_mono (by omega) og16
  s1:=cT.own ro.sn fun a ha hf=>by cases ha; have h1:=hF _ (ro.sn.lt rfl).2 hf; have h2:=ro.rs; omega
  s2:=own_mono (by omega) sn16
  k1:=List.mem_cons_of_mem _ ro.ks
  k2:=List.mem_cons_self ..
  mv:=ro.mv.keep cT (fun i hi hf=>⟨by have:=hF i hi hf; omega,fun a ha e=>by have h1:=ro.mv.role a ha; have:=hF i hi hf; rw [e] at h1; omega⟩) (hsame 0 (by omega)) fun a ha=>by
   rw [hold _ (ro.mv.own.lt ha).2,if_pos (ro.mv.role a ha)]
  r0:=⟨r0,hsame 0 (by omega) _ (ro.sn.lt rfl).2 ro.rs,rs0⟩ }
 refine ⟨rho2,endB X g q',st1.trans ⟨cT.mono fun i hi hf=>by have:=hF i hi hf; omega,fun i hi ho=>hsame _ (by omega) i hi rfl,fun i hi hj=>?_⟩,?_,⟨fun hx=>absurd (hc.symm.trans hx) (by decide),fun _=>⟨g,q',⟨rfl,rfl,rfl,rfl,rfl,rfl,rfl⟩,rfl⟩⟩⟩
 ·by_cases hlt:i<h1.size
  ·rw [hold i hlt]
   split
   ·exact .inl rfl
   ·rcases hj with hj | hj
    ·omega
    ·exact .inr hj
  ·show (if _ then _ else _)=0∨_<(if _ then _ else _)∧(if _ then _ else _)≤_
   rw [if_neg hlt]
   split
   ·exact .inr (by omega)
   ·exact .inl rfl
 ·have gold:∀ g',g'∈X.U.2∨g'∈X.R.2→GrpR n h16 rho2 (keepT X.T) g':=r1.gsK cT (fun i hi hf=>by have:=hF i hi hf; omega) (hsame 0 (by omega)) rfl fun s hs=>List.mem_cons_of_mem _ hs
  exact {
   t:=(r1.tK cT fun i hi hf=>by have:=hF i hi hf; omega).keep
   rt:=r1.rtK (hsame _ (by omega))
   mp:=r1.mpK cT fun i hi hf=>by have:=hF i hi hf; omega
   rm:=r1.rmK (hsame _ (by omega))
   ow:=r1.owK cT fun i hi hf=>by have:=hF i hi hf; omega
   rwd:=r1.rwK (hsame _ (by omega))
   ou:=hq16
   ru:=fun a ha=>hqr a (by rw [← hqb15]; exact ha)
   orr:=Own.nil _ _ _
   rr:=fun a ha=>by cases ha
   gs:=fun g' hg'=>by
    rcases hg' with hg' | hg'
    ·have hg':g'∈putU X g:=hg'
     have hm:g'∈X.U.2++[g]:=by
      unfold putU at hg'
      split at hg'
      ·exact List.mem_of_mem_drop hg'
      ·exact hg'
     rcases List.mem_append.1 hm with hm | hm
     ·exact gold g' (.inl hm)
     ·rw [List.mem_singleton.1 hm]; exact gR
    ·cases hg'
   nw:=fun o' ho'=>by cases ho'
   ob:=by
    have:bkC (endB X g q')=(V q').set 6 (.pointer none):=by simp [bkC,V]
    show Own n 1 h16 ⟨some X.b,10,10⟩ (bkC (endB X g q'))
    rw [this]; exact ob16
   rb:=hsame _ (by omega) _ hbl1 rb1 }
end Go.Sw.Hist

set_option linter.unusedVariables false
set_option linter.unusedSimpArgs false
set_option maxRecDepth 100000
namespace Go.Sw.Hist
open Go.Sw.Any Go.Sw.Codec Go.Sw.Piece
open Go.Sw.Tree (iv s_putAll s_newP s_getP s_getT s_putP eqI_self Placed cell_own wp_whileG minI_eq)
variable {P:Program} {S:Ids} {h:Heap} {Q:Nat→List Value→Heap→Prop} {n k:Nat} {rho:Nat→Nat} {X:Bk}
def Mch:Int→List (List MvD)→Int→Prop
 | a,[],b=>0≤a∧a≤65536∧a=b
 | a,m::l,b=>0≤a∧a≤65536∧PlM a 0 m∧m.length≤70000∧Mch (a+sumD m) l b
theorem Mch.lo {b:Int}:∀ {l:List (List MvD)} {a:Int},Mch a l b→0≤a∧a≤65536
 | [],_,⟨h0,h1,_⟩=>⟨h0,h1⟩
 | m::l,_,⟨h0,h1,_⟩=>⟨h0,h1⟩
def MsIn (L:Int) (ms:Ents) (ws:List Int):Prop:=(∀ e∈ms,0≤e.2.1∧e.2.1≤L)∧∀ v∈ws,v≤L
theorem fol_in {L:Int} {m:List MvD} {ms:Ents} {ws:List Int} (hL:0≤L) (hp:PlM L 0 m) (hm:MsIn L ms ws):MsIn (L+sumD m) (folM m ms) (folW m ws):=by
 have hs:=sumD_lo hp hL
 refine ⟨fun e he=>?_,fun v hv=>?_⟩
 ·obtain ⟨x,hx,rfl⟩:=List.mem_map.1 he
  have:=hm.1 x hx
  exact goL_in hp this.1 this.2
 ·obtain ⟨x,hx,rfl⟩:=List.mem_map.1 hv
  have:=hm.2 x hx
  unfold wv
  split
  ·omega
  ·split
   ·exact (goL_in hp (by omega) this).2
   ·omega
theorem inv_n {len:Int}:∀ {l:List MvD} {at_ sh:Int},PlM len at_ l→0≤at_→∀ e∈invL sh l,e.2.2.1≤len
 | [],_,_,_,_=>fun e he=>by cases he
 | x::l,at_,sh,⟨a,b,c,d,f⟩,h0=>fun e he=>by
  rcases List.mem_cons.1 he with rfl | he
  ·show x.2.1-x.1≤len; omega
  ·exact inv_n f (by omega) e he
theorem inv_len:∀ {l:List MvD} {sh:Int},(invL sh l).length=l.length
 | [],_=>rfl
 | x::l,sh=>by simp [invL,inv_len (l:=l)]
theorem inv_mb {L:Int} {m:List MvD} (h0:0≤L) (h1:L≤65536) (h2:L+sumD m≤65536) (hp:PlM L 0 m) (hl:m.length≤70000):MvB (invL 0 m)∧PlM (L+sumD m) 0 (invL 0 m):=by
 have hi:=invL_pl (sh:=0) hp
 rw [Int.add_zero,Int.zero_add] at hi
 exact ⟨⟨by rw [inv_len]; omega,PlM.mb (by omega) hi (Int.le_refl _) fun e he=>by have:=inv_n hp (Int.le_refl _) e he; omega⟩,hi⟩
theorem MsIn.w {L:Int} {ms:Ents} {ws:List Int} (hm:MsIn L ms ws) (hL:L≤65536):(∀ e∈ms,0≤e.2.1∧e.2.1≤2199023255552)∧∀ v∈ws,v≤2199023255552:=
 ⟨fun e he=>by have:=hm.1 e he; omega,fun v hv=>by have:=hm.2 v hv; omega⟩
def undoM (l:List (List MvD)) (ms:Ents):Ents:=l.foldr (fun m s=>folM (invL 0 m) s) ms
def undoW (l:List (List MvD)) (ws:List Int):List Int:=l.foldr (fun m s=>folW (invL 0 m) s) ws
def redoW (l:List (List MvD)) (ws:List Int):List Int:=l.foldl (fun s m=>folW m s) ws
abbrev mvs (g:Grp):List (List MvD):=g.mv.2.map (·.2)
theorem Mch.cut {b:Int}:∀ {l:List (List MvD)} {a:Int} (i:Nat),Mch a l b→∃ c,Mch a (l.take i) c∧Mch c (l.drop i) b
 | l,a,0,h=>⟨a,by simpa [Mch] using h.lo,by simpa using h⟩
 | [],a,i+1,h=>⟨a,⟨h.1,h.2.1,rfl⟩,h⟩
 | m::l,a,i+1,⟨h0,h1,h2,h3,h4⟩=>by
  obtain ⟨c,c1,c2⟩:=Mch.cut i h4
  exact ⟨c,⟨h0,h1,h2,h3,c1⟩,c2⟩
theorem Mch.undo {b:Int} {ms:Ents} {ws:List Int}:∀ {l:List (List MvD)} {a:Int},Mch a l b→MsIn b ms ws→MsIn a (undoM l ms) (undoW l ws)
 | [],_,⟨_,_,e⟩,hm=>e ▸ hm
 | m::l,a,⟨h0,h1,h2,h3,h4⟩,hm=>by
  have ih:=Mch.undo h4 hm
  have hb:=inv_mb h0 h1 h4.lo.2 h2 h3
  have:=fol_in h4.lo.1 hb.2 ih
  rw [sumD_inv,show a+sumD m + -sumD m=a by omega] at this
  exact this
theorem Own.cut1 {n:Nat} {s:Sl} {vs:List Value} {v:Value} (o:Own n 1 h s (vs++[v])):Own n 1 h ⟨s.base,vs.length,s.cap⟩ vs:=by
 obtain ⟨o1,o2,o3,o4⟩:=o
 simp only [List.length_append,List.length_singleton,Nat.mul_one] at o1
 refine ⟨by simp,by dsimp only; omega,o3,?_⟩
 cases hb:s.base with
 | none=>rw [hb] at o4; exact o4
 | some a=>
  rw [hb] at o4
  obtain ⟨e0,e1,e2,cs,elem,e3,e4,e5⟩:=o4
  exact ⟨e0,e1,e2,cs,elem,e3,e4,fun i v hi=>e5 i v (by rw [List.getElem?_append_left (List.getElem?_eq_some_iff.1 hi).1]; exact hi)⟩
theorem s_rdAt {s:Sl} {vs:List Value} {b:B} {i:Nat} (y:b.den) {K:b.den→Prog} (hr:Rd 1 h s vs) (hi:vs[i]? = some (b.inj y)) (hk:wp P (K y) h Q) :
  wp P (grd (andB (someB s.base) (inB (i:Int) s.len)) <| .load (.one b) (shiftTo s.base (mulN (toN (i:Int)) 1)) K) h Q:=by
 obtain ⟨a,e,c⟩:=hr.2 i _ hi
 have hlt:=(List.getElem?_eq_some_iff.1 hi).1
 have hl:=hr.1
 refine wp_grd (andB_iff.2 ⟨by rw [e]; rfl,inB_is.2 ⟨by omega,by omega⟩⟩) ?_
 rw [mulN_def,toN_def,Int.toNat_natCast,Nat.mul_one,e]
 exact wp_load1 (a.add i) y rfl c hk
theorem c_UndoOpen {o:Opn} (r:BookR S n h rho k X) (hn:X.now=some o):wp P (F_Book_Undo S (some X.b)) h fun tg vs h'=>tg=0∧vs=[i64v 0,i64v 70]∧h'=h:=by
 unfold F_Book_Undo
 exact r.rd (b:=.ptr) (some o.o) (by simp [bkC,hn,B.inj]) (wp_ifB (fun _=>s_ret ⟨rfl,rfl,rfl⟩) fun hc=>by cases hc)
theorem c_UndoOld (r:BookR S n h rho k X) (hn:X.now=none) (hU:X.U.2=[]):wp P (F_Book_Undo S (some X.b)) h fun tg vs h'=>tg=0∧vs=[i64v 0,i64v 72]∧h'=h:=by
 unfold F_Book_Undo
 have hul:X.U.1.len=0:=by have:=r.ou.1; rw [hU] at this; simpa [ptrs] using this
 exact r.rd (b:=.ptr) none (by simp [bkC,hn,B.inj]) (wp_ifB (fun hc=>by cases hc) fun _=>r.rd (b:=.sl) X.U.1 rfl (wp_ifB (fun _=>s_ret ⟨rfl,rfl,rfl⟩) fun hc=>by rw [hul] at hc; cases hc))
abbrev undoB (X:Bk) (T':TX) (u q:Sl) (us:List Grp) (g:Grp):Bk:={ X with T:=T',U:=(u,us),R:=(q,X.R.2++[g]),ms:=undoM (mvs g) X.ms,ws:=undoW (mvs g) X.ws,state:=g.old }
theorem s_bfollow {x:Mvs} (r:BookR S n h rho k X) (hx:MvO n h x.1 x.2) (h0:∀ a,x.1.base=some a→rho a.block≠k+2∧rho a.block≠k+3) (hb:MvB x.2) (hl:∀ e∈X.ms,0≤e.2.1∧e.2.1≤2199023255552) (hws:∀ v∈X.ws,v≤2199023255552) {K:Unit→Prog}
  (hk:∀ h',Chg (fun i=>rho i=k+2∨rho i=k+3) h h'→BookR S n h' rho k (folB x.2 X)→wp P (K ()) h' Q):wp P (.call (F_Book_follow S (some X.b) x.1) [] K) h Q:=by
 refine wp_callF (c_bfollow (x:=x) r hx.ok (fun h' c=>(hx.chg c fun a ha hf=>?_).ok) hb hl hws) fun _ h1 c1 r1=>hk h1 (c1.mono fun i hi hf=>?_) r1
 ·rcases hf with e | ⟨y,hy,e⟩
  ·exact (h0 a ha).1 (by rw [e]; exact r.rm)
  ·exact (h0 a ha).2 (by rw [← e]; exact r.rwd y hy)
 ·rcases hf with rfl | ⟨y,hy,rfl⟩
  ·exact .inl r.rm
  ·exact .inr (r.rwd y hy)
open Classical in
theorem c_Undo {us:List Grp} {g:Grp} {L0 L1:Int} (r:BookR S n h rho k X) (hn:X.now=none) (hU:X.U.2=us++[g]) (hc:Mch L0 (mvs g) L1) (hm:MsIn L1 X.ms X.ws) (hR:X.R.2.length≤1099511627776) (hUl:us.length≤1099511627776) (hml:g.mv.2.length≤1099511627776) :
  wp P (F_Book_Undo S (some X.b)) h fun tg vs h'=>tg=0∧vs=[i64v g.bg,i64v 0]∧∃ rho' T' u q,StepR k h rho h' rho'∧BookR S n h' rho' k (undoB X T' u q us g)∧Nxt X.T T' h.size∧T'.cur=g.sb∧T'.A=X.T.A:=by
 unfold F_Book_Undo
 have hbl:X.b.block<h.size:=(r.ob.lt rfl).2
 have hnh:n≤h.size:=Nat.le_trans (r.ob.lt rfl).1 (Nat.le_of_lt hbl)
 have hul:X.U.1.len=us.length+1:=by have:=r.ou.1; rw [hU] at this; simpa [ptrs] using this
 have hrl:X.R.1.len=X.R.2.length:=by have:=r.orr.1; simpa [ptrs] using this
 have ou:Own n 1 h X.U.1 (ptrs us++[.pointer (some g.pt)]):=by have:=r.ou; rw [hU] at this; simpa [ptrs] using this
 have hcap:=ou.2.1
 refine r.rd (b:=.ptr) none (by simp [bkC,hn,B.inj]) (wp_ifB (fun hx=>by cases hx) fun _=>r.rd (b:=.sl) X.U.1 rfl (wp_ifB (fun hx=>?_) fun _=>?_))
 ·rw [hul,eqI_iff,natI_def] at hx; omega
 have hsub:subI .i64 (natI X.U.1.len) 1=(us.length:Int):=by rw [natI_def,hul,sub_ok (by omega) (by omega)]; omega
 simp only [hsub]
 refine r.rd (b:=.sl) X.U.1 rfl (s_rdAt (b:=.ptr) (some g.pt) ou.rd (by rw [List.getElem?_append_right (by simp [ptrs])]; simp [ptrs,B.inj]) ?_)
 refine r.rd (b:=.sl) X.U.1 rfl (wp_grd (leB_ok (by omega) (by omega)) (r.rd (b:=.sl) X.R.1 rfl ?_))
 refine fun elem=>?_
 have e1:Ext h (h.push (.cells [.pointer (some g.pt)].toArray elem)):=Ext.push ..
 have rd1:Rd 1 (h.push (.cells [.pointer (some g.pt)].toArray elem)) ⟨some ⟨h.size,0,none⟩,1,1⟩ [.pointer (some g.pt)]:=rd_alloc rfl
 generalize h.push (.cells [.pointer (some g.pt)].toArray elem)=h1 at e1 rd1 ⊢
 have r1:=r.ext e1
 have hs1:=e1.1
 refine s_ckC (cells_iff.1 r1.ob.cells 3 _ rfl) (s_ckC (cells_iff.1 r1.ob.cells 2 _ rfl) ?_)
 refine wp_appendE r1.orr (by omega) rd1 (by intro v hv; rw [List.mem_singleton.1 hv]; rfl) rfl (by dsimp only; omega) (by dsimp only; omega) fun q h2 oq2 l2 u2 b2 _=>?_
 have c2:Chg (fun i=>∃ a,X.R.1.base=some a∧a.block=i) h1 h2:=Chg.of_upd u2 fun a ha _=>⟨a,ha,rfl⟩
 have hs2:=c2.1
 have hrr:∀ a,X.R.1.base=some a→rho a.block=k+5∧a.block<h.size:=fun a ha=>⟨r.rr a ha,(r.orr.lt ha).2⟩
 have ob2:=c2.own r1.ob fun a ha ⟨y,hy,e⟩=>by cases ha; have h1:=(hrr y hy).1; have h2:=r.rb; rw [e] at h1; omega
 refine s_ckC (cells_iff.1 ob2.cells 2 _ rfl) (wp_grd rfl (wp_grd rfl ?_))
 have hcut:(.slice (cutBase X.U.1.base X.U.1.cap 0 1) (subN (toN (us.length:Int)) 0) (subN X.U.1.cap 0):Value)=slv ⟨X.U.1.base,us.length,X.U.1.cap⟩:=by
  rw [cutBase_zero]; simp [subN,toN]
 rw [hcut]
 refine s_setC' (slv ⟨X.U.1.base,us.length,X.U.1.cap⟩) ob2 (by simp [bkC]) rfl fun h3 ob3 u3=>wp_grd rfl (wp_grd rfl (s_setC' (slv q) ob3 (by simp [bkC]) rfl fun h4 ob4 u4=>?_))
 have cb:∀ {g g':Heap} {m c:Nat},Upd ⟨some X.b,m,c⟩ g g'→Chg (fun i=>i=X.b.block) g g':=fun u=>Chg.of_upd u fun a ha _=>by cases ha; rfl
 have c24:Chg (fun i=>i=X.b.block) h2 h4:=(cb u3).trans (cb u4) fun _ _ x=>x
 let F:Nat→Prop:=fun i=>i=X.b.block∨∃ a,X.R.1.base=some a∧a.block=i
 have c4:Chg F h h4:=(Chg.pre e1 (c2.mono (G:=F) fun i _ x=>.inr x)).trans (c24.mono (G:=F) fun i _ x=>.inl x) fun _ _ x=>x
 have hs4:=c24.1
 have hF:∀ i,i<h.size→F i→rho i=k+1∨rho i=k+5:=fun i hi hf=>by
  rcases hf with rfl | ⟨a,ha,rfl⟩
  ·exact .inl r.rb
  ·exact .inr (hrr a ha).1
 let rho1:Nat→Nat:=fun i=>if i<h.size then rho i else if (∃ a,q.base=some a∧a.block=i) then k+5 else 0
 have hold:∀ i,i<h.size→rho1 i=rho i:=fun i hi=>if_pos hi
 have hsame:∀ j i,i<h.size→rho i=j→rho1 i=j:=fun j i hi e=>by rw [hold i hi]; exact e
 have hqr:∀ a,q.base=some a→rho1 a.block=k+5:=fun a ha=>by
  rcases b2 a ha with hb | hb
  ·exact hsame _ _ (hrr a hb).2 (hrr a hb).1
  ·show (if _ then _ else _)=_
   rw [if_neg (by omega),if_pos ⟨a,ha,rfl⟩]
 have hz1:∀ i,h4.size≤i→rho1 i=0:=fun i hi=>by
  show (if _ then _ else _)=0
  rw [if_neg (by omega),if_neg]
  rintro ⟨a,ha,e⟩
  have:=(oq2.lt ha).2
  omega
 have st1:StepR k h rho h4 rho1:=⟨c4.mono fun i hi hf=>by have:=hF i hi hf; omega,fun i hi _=>hold i hi,fun i hi hj=>by
  by_cases hlt:i<h.size
  ·rw [hold i hlt]; rcases hj with hj | hj
   ·omega
   ·exact .inr hj
  ·show (if _ then _ else _)=0∨_<(if _ then _ else _)∧(if _ then _ else _)≤_
   rw [if_neg hlt]
   split
   ·exact .inr (by omega)
   ·exact .inl rfl⟩
 let X1:Bk:={ X with U:=(⟨X.U.1.base,us.length,X.U.1.cap⟩,us),R:=(q,X.R.2++[g]) }
 have hmem:∀ g',g'∈us∨g'∈X.R.2++[g]→g'∈X.U.2∨g'∈X.R.2:=fun g' hg=>by
  rw [hU]
  rcases hg with hg | hg
  ·exact .inl (List.mem_append_left _ hg)
  ·rcases List.mem_append.1 hg with hg | hg
   ·exact .inr hg
   ·exact .inl (List.mem_append_right _ hg)
 have r4:BookR S n h4 rho1 k X1:={
  t:=r.tK c4 fun i hi hf=>by have:=hF i hi hf; omega
  rt:=r.rtK (hsame _)
  mp:=r.mpK c4 fun i hi hf=>by have:=hF i hi hf; omega
  rm:=r.rmK (hsame _)
  ow:=r.owK c4 fun i hi hf=>by have:=hF i hi hf; omega
  rwd:=r.rwK (hsame _)
  ou:=by
   have:=Own.cut1 (c4.own ou fun a ha hf=>by have h1:=hF _ (ou.lt ha).2 hf; have h2:=r.ru a ha; omega)
   have e:(ptrs us).length=us.length:=by simp [ptrs]
   rw [e] at this; exact this
  ru:=fun a ha=>hsame _ _ (r.ou.lt ha).2 (r.ru a ha)
  orr:=by
   have:=c24.own oq2 fun a ha e=>by
    rcases b2 a ha with hb | hb
    ·have h1:=(hrr a hb).1; have h2:=r.rb; rw [e] at h1; omega
    ·omega
   show Own n 1 h4 q (ptrs (X.R.2++[g]))
   rw [show ptrs (X.R.2++[g])=ptrs X.R.2++[.pointer (some g.pt)] by simp [ptrs]]; exact this
  rr:=hqr
  gs:=fun g' hg'=>(r.gs g' (hmem g' hg')).keep c4 (fun i hi hf=>by have:=hF i hi hf; omega) (hsame _) rfl fun s hs=>hs
  nw:=r.nwK c4 (fun i hi hf=>by have:=hF i hi hf; omega) (fun i hi _=>hold i hi) rfl fun s hs=>hs
  ob:=by
   have:bkC X1=((bkC X).set 2 (slv ⟨X.U.1.base,us.length,X.U.1.cap⟩)).set 3 (slv q):=by simp [bkC,X1]
   show Own n 1 h4 ⟨some X.b,10,10⟩ (bkC X1)
   rw [this]; exact ob4
  rb:=hsame _ _ hbl r.rb }
 have hgm:g∈X1.U.2∨g∈X1.R.2:=.inr (List.mem_append_right _ (List.mem_singleton.2 rfl))
 have g4:=r4.gs g hgm
 refine r4.rd (X:=X1) (b:=.ptr) (some X.T.p) rfl (wp_grd rfl (wp_grd rfl (wp_load1 (b:=.ptr) (g.pt.add 0) (some g.bef) rfl (cells_iff.1 g4.ob.cells 0 _ rfl) ?_)))
 refine wp_callW (c_Back r4.t (by omega) g4.k1 g4.s1) fun tg vs h5 hx=>?_
 obtain ⟨rfl,rfl,c5,T',t5,nx,hcur,hA⟩:=hx
 refine ⟨rfl,(0,()),rfl,?_⟩
 obtain ⟨rho2,st2,ag2,r5⟩:=r4.text c5 t5 nx
 have g5:=r5.gs g hgm
 have hs5:=c5.1
 have ml:g.mv.1.len=g.mv.2.length:=by have:=g5.mv.own.1; simpa using this
 refine wp_grd rfl (wp_grd rfl (wp_load1 (b:=.sl) (g.pt.add 4) g.mv.1 rfl (cells_iff.1 g5.ob.cells 4 _ rfl) ?_))
 have hi0:subI .i64 (natI g.mv.1.len) 1=(g.mv.2.length:Int)-1:=by rw [natI_def,ml,sub_ok (by omega) (by omega)]
 rw [hi0]
 have nxF:Nxt X.T T' h.size:=⟨nx.p,nx.enc,nx.limit,nx.kept,nx.zm,fun i hi=>(nx.zn i hi).imp id fun h=>by have:=c4.1; omega,fun x hx=>(nx.adc x hx).imp id fun h=>by have:=c4.1; omega⟩
 let Y:Ents→List Int→Bk:=fun ms ws=>{ X1 with T:=T',ms:=ms,ws:=ws }
 refine wp_while (fun (s:Int×Unit) h'=>∃ i:Nat,s.1=(i:Int)-1∧i≤g.mv.2.length∧∃ rho',StepR k h5 rho2 h' rho'∧BookR S n h' rho' k (Y (undoM ((mvs g).drop i) X.ms) (undoW ((mvs g).drop i) X.ws))) (fun s _=>(s.1+1).toNat)
  (fun t vs h'=>t=2∧vs=[]∧∃ rho',StepR k h5 rho2 h' rho'∧BookR S n h' rho' k (Y (undoM (mvs g) X.ms) (undoW (mvs g) X.ws)))
  ⟨g.mv.2.length,rfl,Nat.le_refl _,rho2,StepR.refl _ _ _,by
   have:(mvs g).drop g.mv.2.length=[]:=List.drop_eq_nil_of_le (by simp)
   rw [this]; exact r5⟩ ?_ ?_
 ·rintro ⟨(s:Int),u⟩ h6 ⟨i,hs,hi,rho3,st3,r6⟩
  dsimp only at hs ⊢
  subst hs
  refine wp_ifB (fun hx=>?_) fun hx=>?_
  ·rw [geI_iff] at hx
   obtain ⟨j,rfl⟩:∃ j,i=j+1:=⟨i-1,by omega⟩
   have hj:((j+1:Nat):Int)-1=(j:Int):=by omega
   rw [hj]
   have hjl:j<g.mv.2.length:=by omega
   have g6:=r6.gs g hgm
   obtain ⟨m,hmj⟩:∃ m,g.mv.2[j]? = some m:=⟨g.mv.2[j],List.getElem?_eq_getElem hjl⟩
   have hmm:=List.mem_of_getElem? hmj
   obtain ⟨mo,m0,mb⟩:=g6.mv.each m hmm
   refine wp_grd rfl (wp_grd rfl (wp_load1 (b:=.sl) (g.pt.add 4) g.mv.1 rfl (cells_iff.1 g6.ob.cells 4 _ rfl) ?_))
   refine s_rdAt (b:=.sl) m.1 g6.mv.own.rd (by rw [List.getElem?_map,hmj]; rfl) ?_
   refine wp_call (c_inverse (x:=m) mo.ok mb) fun ⟨(y:Sl),_⟩ h7 e7 hy=>?_
   have hy:MvO h6.size h7 y (invL 0 m.2):=hy
   dsimp only
   have hs6:n≤h6.size:=by have:=(r6.ob.lt rfl).1; have:=(r6.ob.lt rfl).2; omega
   have r7:=r6.zr e7
   obtain ⟨c,hc1,hc2⟩:=hc.cut j
   have hdr:(mvs g).drop j=m.2::(mvs g).drop (j+1):=by
    have hl2:j<(mvs g).length:=by simpa using hjl
    rw [List.drop_eq_getElem_cons hl2]
    congr 1
    have:=(List.getElem?_eq_some_iff.1 hmj).2
    simp [mvs,this]
   rw [hdr] at hc2
   obtain ⟨d0,d1,d2,d3,d4⟩:=hc2
   have hmi:=d4.undo hm
   have hmb:=inv_mb d0 d1 d4.lo.2 d2 d3
   have hw:=hmi.w d4.lo.2
   refine s_bfollow (x:=(y,invL 0 m.2)) r7 ⟨own_mono hs6 hy.own,hy.fit⟩ (fun a ha=>?_) hmb.1 hw.1 hw.2 fun h8 c8 r8=>?_
   ·have:=(hy.own.lt ha).1
    rw [zr_new this]; omega
   ·rw [sub_ok (by omega) (by omega)]
    refine s_ret ⟨fun _=>⟨((j:Int)-1,()),rfl,⟨j,rfl,by omega,_,(st3.trans (StepR.ofExt e7)).trans (StepR.of c8 (fun i _ hi=>by omega) fun i h1 h2=>zr_new (by have:=e7.1; omega)),?_⟩,by dsimp only; omega⟩,fun hh=>absurd rfl hh⟩
    rw [hdr]; exact r8
  ·rw [geI_not] at hx
   have:i=0:=by omega
   subst this
   exact s_ret ⟨fun hh=>absurd hh (by decide),fun _=>⟨rfl,rfl,rho3,st3,r6⟩⟩
 ·rintro tg vs h6 ⟨rfl,rfl,rho3,st3,r6⟩
  have g6:=r6.gs g hgm
  refine s_tag (s_cast0 (wp_grd rfl (wp_grd rfl (wp_load1 (b:=.int .i64) (g.pt.add 5) g.old rfl (cells_iff.1 g6.ob.cells 5 _ rfl) ?_))))
  have r6':=r6.zr (Ext.refl h6)
  refine r6'.wrI (undoB X T' ⟨X.U.1.base,us.length,X.U.1.cap⟩ q us g) (i:=7) (by decide) rfl rfl rfl rfl rfl rfl rfl rfl rfl rfl rfl fun h7 r7 c7=>?_
  have g7:=r7.gs g hgm
  refine wp_grd rfl (wp_grd rfl (wp_load1 (b:=.int .i64) (g.pt.add 2) g.bg rfl (cells_iff.1 g7.ob.cells 2 _ rfl) ?_))
  have hb3:Hist.zr h6 rho3 X.b.block=k+1:=r6'.rb
  exact s_ret ⟨rfl,rfl,Hist.zr h6 rho3,T',_,q,(((st1.trans st2).trans st3).trans (StepR.ofExt (Ext.refl h6))).trans (StepR.of c7 (fun i hi e=>by subst e; rw [hb3]; omega) fun i h1 h2=>zr_new h1),r7,nxF,hcur,hA⟩
end Go.Sw.Hist

set_option linter.unusedVariables false
set_option linter.unusedSimpArgs false
set_option maxRecDepth 100000
namespace Go.Sw.Hist
open Go.Sw.Any Go.Sw.Codec Go.Sw.Piece
open Go.Sw.Tree (iv s_putAll s_newP s_getP s_getT s_putP eqI_self Placed cell_own wp_whileG minI_eq)
variable {P:Program} {S:Ids} {h:Heap} {Q:Nat→List Value→Heap→Prop} {n k:Nat} {rho:Nat→Nat} {X:Bk}
end Go.Sw.Hist

set_option linter.unusedVariables false
set_option linter.unusedSimpArgs false
set_option maxRecDepth 100000
namespace Go.Sw.Piece
open Go.Sw.Any Go.Sw.Codec
variable {P:Program} {S:Ids} {h:Heap} {Q:Nat→List Value→Heap→Prop}
abbrev putLen (e:EdD):Nat:=e.2.2.1.2.length
def strip (e:EdD):EdD:=(e.1,e.2.1,(⟨none,0,0⟩,e.2.2.1.2),())
theorem strip_put (es:List EdD):putsOf (es.map strip)=putsOf es:=by simp [putsOf,List.flatMap_map,strip]
theorem strip_plc {len:Int}:∀ {es:List EdD} {a:Int},Plc len a (es.map strip)↔Plc len a es
 | [],_=>Iff.rfl
 | e::es,a=>by simp only [List.map_cons,Plc,strip_plc (es:=es)]; exact Iff.rfl
theorem strip_all (E:List El):∀ es:List EdD,allE E (es.map strip)=allE E es
 | []=>rfl
 | e::es=>by rw [List.map_cons,allE_cons,allE_cons,strip_all E es]; rfl
theorem ints_wt {k:IntKind} (x:Sl×List Int):(Sh.list (.int k)).wt x=x.2.length+1:=by
 have:∀ l:List Int,(l.map (Sh.int k).wt).sum=l.length:=by
  intro l
  induction l with
  | nil=>rfl
  | cons y l ih=>rw [List.map_cons,List.sum_cons,ih,List.length_cons,Nat.add_comm]; rfl
 simp only [Sh.wt]
 have h2:=this x.2
 exact congrArg (· + 1) h2
theorem ed_wt (e:EdD):putLen e+1≤EdSh.wt e:=by
 have h1:=ints_wt (k:=.i64) e.2.2.1
 have h2:putLen e=e.2.2.1.2.length:=rfl
 simp only [Sh.wt] at h1 ⊢
 omega
theorem eds_wt (x:Eds):x.2.length≤(Sh.list EdSh).wt x∧(putsOf x.2).length≤(Sh.list EdSh).wt x∧∀ e,e∈x.2→putLen e≤(Sh.list EdSh).wt x:=by
 have:∀ l:List EdD,l.length≤(l.map EdSh.wt).sum∧(putsOf l).length≤(l.map EdSh.wt).sum∧∀ e,e∈l→putLen e≤(l.map EdSh.wt).sum:=by
  intro l
  induction l with
  | nil=>exact ⟨Nat.le_refl _,Nat.le_refl _,fun e he=>by cases he⟩
  | cons y l ih=>
   have h1:=ed_wt y
   have h2:(putsOf (y::l)).length=putLen y+(putsOf l).length:=by simp [putsOf]
   rw [List.map_cons,List.sum_cons,List.length_cons,h2]
   refine ⟨by omega,by omega,fun e he=>?_⟩
   rcases List.mem_cons.1 he with rfl | he
   ·omega
   ·have:=ih.2.2 e he; omega
 have h1:=this x.2
 have e:(Sh.list EdSh).wt x=(x.2.map EdSh.wt).sum+1:=rfl
 rw [e]
 exact ⟨by omega,by omega,fun e he=>by have:=h1.2.2 e he; omega⟩
theorem sum_mem_le {α:Type} (f:α→Nat) {l:List α} {y:α} (hy:y∈l):f y≤(l.map f).sum:=by
 induction l with
 | nil=>cases hy
 | cons z l ih=>
  rw [List.map_cons,List.sum_cons]
  rcases List.mem_cons.1 hy with rfl | hy
  ·omega
  ·have:=ih hy; omega
theorem sum_le_sum {α:Type} (f g:α→Nat):∀ l:List α,(∀ y,y∈l→f y≤g y)→(l.map f).sum≤(l.map g).sum
 | [],_=>Nat.le_refl _
 | y::l,h=>by
  rw [List.map_cons,List.sum_cons,List.map_cons,List.sum_cons]
  have:=h y (List.mem_cons_self ..); have:=sum_le_sum f g l fun z hz=>h z (List.mem_cons_of_mem _ hz); omega
theorem all_take {E:List El}:∀ {es:List EdD} {a:Int} {k:Nat},Plc E.length a es→(k:Int)≤a→(allE E es).take k=E.take k
 | [],_,_,_,_=>rfl
 | e::es,a,k,⟨h1,h2,h3,h4⟩,hk=>by
  have h5:=all_take (E:=E) (es:=es) (k:=e.1.toNat) h4 (by omega)
  rw [allE_cons]
  unfold one1
  rw [h5,List.append_assoc,List.take_append_of_le_length (by rw [List.length_take]; omega),List.take_take,show min k e.1.toNat=k by omega]
theorem size_put {enc:Int} {l:List Int} (hf:fitsE enc l):(sizeL enc l:Int)=(l.flatMap (putF enc)).length:=by
 induction l with
 | nil=>rfl
 | cons a l ih=>
  have h1:=putF_len (hf a (List.mem_cons_self ..))
  have h2:=ih fun b hb=>hf b (List.mem_cons_of_mem _ hb)
  have h3:sizeL enc (a::l)=sizeF enc a+sizeL enc l:=by simp [sizeL]
  rw [h3,List.flatMap_cons,List.length_append,h2]; omega
theorem map_new (l:List Int):(l.map fun a=>((a, -1):El)).map (fun x:El=>x.1)=l:=by
 rw [List.map_map]
 conv=>rhs; rw [← List.map_id l]
 rfl
theorem blen_new {enc:Int} {l:List Int}:blen enc (l.map fun a=>((a, -1):El))=(l.flatMap (putF enc)).length:=by
 unfold blen; rw [map_new]
theorem blen_take_drop (enc:Int) (E:List El) (k:Nat):blen enc E=blen enc (E.take k)+blen enc (E.drop k):=by rw [← blen_append,List.take_append_drop]
def goneB (enc:Int) (E:List El) (es:List EdD):Int:=(es.map fun e=>(blen enc (E.take e.2.1.toNat):Int)-blen enc (E.take e.1.toNat)).sum
theorem blen_all {enc:Int} {E:List El}:∀ {es:List EdD} {a:Int},0≤a→Plc E.length a es→fitsE enc (putsOf es)→(blen enc (allE E es):Int)=blen enc E+sizeL enc (putsOf es)-goneB enc E es
 | [],_,_,_,_=>by simp [allE,putsOf,goneB,sizeL]
 | e::es,a,h0,⟨h1,h2,h3,h4⟩,hf=>by
  have hp:putsOf (e::es)=e.2.2.1.2++putsOf es:=by simp [putsOf]
  rw [hp] at hf ⊢
  have hf1:fitsE enc e.2.2.1.2:=fun x hx=>hf x (List.mem_append_left _ hx)
  have hf2:fitsE enc (putsOf es):=fun x hx=>hf x (List.mem_append_right _ hx)
  have ih:=blen_all (E:=E) (es:=es) (by omega) h4 hf2
  have s1:sizeL enc (e.2.2.1.2++putsOf es)=sizeL enc e.2.2.1.2+sizeL enc (putsOf es):=by simp [sizeL]
  have g1:goneB enc E (e::es)=((blen enc (E.take e.2.1.toNat):Int)-blen enc (E.take e.1.toNat))+goneB enc E es:=by simp [goneB]
  have s2:=size_put hf1
  rw [allE_cons,s1,g1]
  unfold one1
  rw [all_take h4 (by omega),blen_append,blen_append,blen_new]
  have h5:=blen_take_drop enc (allE E es) e.2.1.toNat
  rw [all_take h4 (by omega)] at h5
  omega
theorem offs_tk {enc:Int}:∀ {l:List Int},fitsE enc l→offs (l.map (tk enc))=(l.flatMap (putF enc)).length
 | [],_=>rfl
 | a::l,hf=>by
  have h1:=putF_len (hf a (List.mem_cons_self ..))
  rw [List.map_cons,offs_cons,offs_tk fun b hb=>hf b (List.mem_cons_of_mem _ hb),List.flatMap_cons,List.length_append]
  show (sizeF enc a).toNat+_=_; omega
theorem offs_els {enc:Int} (he:known enc) {ps:List Pc} (hb:∀ q,q∈ps→isBytes q.2) (k:Nat):offs ((toksL enc ps).take k)=blen enc ((els enc ps).take k):=by
 obtain ⟨h1,_,h3⟩:=toksL_els he hb
 rw [h1, ← List.map_take, ← List.map_take,offs_tk fun a ha=>h3 a (by obtain ⟨x,hx,rfl⟩:=List.mem_map.1 ha; exact List.mem_map.2 ⟨x,List.mem_of_mem_take hx,rfl⟩)]
 rfl
theorem gone_els {enc:Int} (he:known enc) {ps:List Pc} (hb:∀ q,q∈ps→isBytes q.2) (es:List EdD):goneE (toksL enc ps) es=goneB enc (els enc ps) es:=by
 unfold goneE goneB
 congr 1
 refine List.map_congr_left fun e _=>?_
 rw [offs_els he hb,offs_els he hb]
def Okay (enc limit:Int) (E:List El) (es:List EdD):Prop:=Plc E.length 0 es∧fitsE enc (putsOf es)∧(blen enc (allE E es):Int)≤limit
theorem ref_okay {enc limit r:Int} (he:known enc) {ps:List Pc} (hb:∀ q,q∈ps→isBytes q.2) {es:List EdD} (h:RefR enc limit (toksL enc ps) es r):(r=0↔es.length≤70000∧Okay enc limit (els enc ps) es):=by
 have hl:(toksL enc ps).length=(els enc ps).length:=(els_len ..).symm
 have h0:(offs (toksL enc ps):Int)=blen enc (els enc ps):=by
  have:=offs_els he hb (toksL enc ps).length
  rw [List.take_length,hl,List.take_length] at this; exact congrArg _ this
 have key:Plc (els enc ps).length 0 es→fitsE enc (putsOf es)→(blen enc (allE (els enc ps) es):Int)=offs (toksL enc ps)+sizeL enc (putsOf es)-goneE (toksL enc ps) es:=fun a b=>by
  rw [blen_all (Int.le_refl 0) a b,gone_els he hb,h0]
 cases h with
 | many h=>exact ⟨fun h=>(by cases h),fun h2=>by omega⟩
 | place a b=>exact ⟨fun h=>(by cases h),fun h2=>absurd (hl ▸ h2.2.1) b⟩
 | fit a b c=>exact ⟨fun h=>(by cases h),fun h2=>absurd h2.2.2.1 c⟩
 | full a b c d=>rw [hl] at b; exact ⟨fun h=>(by cases h),fun h2=>by have:=key b c; have:=h2.2.2.2; omega⟩
 | ok a b c d=>rw [hl] at b; exact ⟨fun _=>⟨a,b,c,by rw [key b c]; exact d⟩,fun _=>rfl⟩
def tg (x:El):Bool:=decide (x.2 ≠ -1)
theorem Plc.le {L:Int}:∀ {es:List EdD} {a:Int},Plc L a es→∀ e,e∈es→e.1≤e.2.1
 | e::es,a,⟨h1,h2,h3,h4⟩,x,hx=>by
  rcases List.mem_cons.1 hx with rfl | hx
  ·exact h2
  ·exact Plc.le h4 x hx
end Go.Sw.Piece

set_option linter.unusedVariables false
set_option linter.unusedSimpArgs false
set_option maxRecDepth 100000
namespace Go.Sw.Hist
open Go.Sw.Any Go.Sw.Codec Go.Sw.Piece
def OkE (enc limit:Int) (E:List El):Prop:=(∀ a,a∈E.map (·.1)→0<sizeF enc a)∧(blen enc E:Int)≤limit
theorem blen_ge {enc:Int}:∀ {E:List El},(∀ a,a∈E.map (·.1)→0<sizeF enc a)→E.length≤blen enc E
 | [],_=>Nat.zero_le _
 | x::E,h=>by
  have ih:=blen_ge (E:=E) fun a ha=>h a (List.mem_cons_of_mem _ ha)
  have h1:=putF_len (h x.1 (List.mem_cons_self ..))
  have h2:=h x.1 (List.mem_cons_self ..)
  have e:blen enc (x::E)=(putF enc x.1).length+blen enc E:=by unfold blen; rw [List.map_cons,List.flatMap_cons,List.length_append]
  rw [e,List.length_cons]; omega
theorem OkE.len {enc limit:Int} {E:List El} (h:OkE enc limit E):(E.length:Int)≤limit:=by have:=blen_ge h.1; have:=h.2; omega
theorem mem_one {E:List El} {e:EdD} {x:El} (h:x∈one1 E e):x∈E∨x.1∈e.2.2.1.2:=by
 unfold one1 at h
 rcases List.mem_append.1 h with h | h
 ·rcases List.mem_append.1 h with h | h
  ·exact .inl (List.mem_of_mem_take h)
  ·obtain ⟨a,ha,rfl⟩:=List.mem_map.1 h
   exact .inr ha
 ·exact .inl (List.mem_of_mem_drop h)
theorem mem_all {E:List El}:∀ {c:List EdD} {x:El},x∈allE E c→x∈E∨x.1∈putsOf c
 | [],x,h=>.inl h
 | e::c,x,h=>by
  rw [allE_cons] at h
  have hp:putsOf (e::c)=e.2.2.1.2++putsOf c:=by simp [putsOf]
  rw [hp]
  rcases mem_one h with h | h
  ·rcases mem_all h with h | h
   ·exact .inl h
   ·exact .inr (List.mem_append_right _ h)
  ·exact .inr (List.mem_append_left _ h)
theorem OkE.all {enc limit:Int} {E:List El} {c:List EdD} (h:OkE enc limit E) (o:Okay enc limit E c):OkE enc limit (allE E c):=by
 refine ⟨fun a ha=>?_,o.2.2⟩
 obtain ⟨x,hx,rfl⟩:=List.mem_map.1 ha
 rcases mem_all hx with hx | hx
 ·exact h.1 _ (List.mem_map.2 ⟨x,hx,rfl⟩)
 ·exact o.2.1 _ hx
def playC (E:List El) (cs:List (List EdD)):List El:=cs.foldl allE E
def OkC (enc limit:Int):List El→List (List EdD)→Prop
 | _,[]=>True
 | E,c::cs=>c.length≤70000∧Okay enc limit E c∧OkC enc limit (allE E c) cs
theorem playC_snoc (E:List El) (cs:List (List EdD)) (c:List EdD):playC E (cs++[c])=allE (playC E cs) c:=by simp [playC]
theorem OkC.snoc {enc limit:Int} {c:List EdD} (hl:c.length≤70000):∀ {cs:List (List EdD)} {E:List El},OkC enc limit E cs→Okay enc limit (playC E cs) c→OkC enc limit E (cs++[c])
 | [],_,_,o=>⟨hl,o,trivial⟩
 | d::cs,E,⟨h1,h2,h3⟩,o=>⟨h1,h2,OkC.snoc hl h3 o⟩
theorem OkC.ok {enc limit:Int}:∀ {cs:List (List EdD)} {E:List El},OkE enc limit E→OkC enc limit E cs→OkE enc limit (playC E cs)
 | [],_,h,_=>h
 | c::cs,E,h,⟨_,h2,h3⟩=>show OkE enc limit (playC (allE E c) cs) from OkC.ok (h.all h2) h3
abbrev mvC' (c:List EdD):List MvD:=c.map mvOf
theorem OkC.mch {enc limit:Int} (hl:limit≤65536):∀ {cs:List (List EdD)} {E:List El},OkE enc limit E→OkC enc limit E cs→Mch E.length (cs.map mvC') (playC E cs).length
 | [],E,h,_=>⟨by omega,by have:=h.len; omega,rfl⟩
 | c::cs,E,h,⟨h1,h2,h3⟩=>by
  refine ⟨by omega,by have:=h.len; omega,plM_of h2.1,by rw [List.length_map]; exact h1,?_⟩
  have:=allE_len h2.1 (Int.le_refl _)
  rw [← this]
  exact OkC.mch hl (h.all h2) h3
theorem eff_no {E:List El} {e:EdD} (he:e.1≤e.2.1) (h:effE e=false):one1 E e=E:=by
 unfold effE at h
 rw [Bool.or_eq_false_iff,decide_eq_false_iff_not,decide_eq_false_iff_not] at h
 have hn:e.2.2.1.2=[]:=List.eq_nil_of_length_eq_zero (by omega)
 unfold one1
 rw [hn,show e.2.1=e.1 by omega]; simp
theorem eff_all {E:List El}:∀ {c:List EdD},(∀ e∈c,e.1≤e.2.1)→c.any effE=false→allE E c=E
 | [],_,_=>rfl
 | e::c,hp,h=>by
  rw [List.any_cons,Bool.or_eq_false_iff] at h
  rw [allE_cons,eff_all (fun x hx=>hp x (List.mem_cons_of_mem _ hx)) h.2,eff_no (hp e (List.mem_cons_self ..)) h.1]
def effC (cs:List (List EdD)):Bool:=cs.any fun c=>c.any effE
theorem eff_play {enc limit:Int}:∀ {cs:List (List EdD)} {E:List El},OkC enc limit E cs→effC cs=false→playC E cs=E
 | [],_,_,_=>rfl
 | c::cs,E,⟨_,h2,h3⟩,h=>by
  unfold effC at h
  rw [List.any_cons,Bool.or_eq_false_iff] at h
  have h4:=eff_all (E:=E) h2.1.le h.1
  rw [h4] at h3
  have:=eff_play h3 h.2
  show playC (allE E c) cs=E
  rw [h4]; exact this
theorem strip_mv (c:List EdD):mvC' (c.map strip)=mvC' c:=by unfold mvC'; rw [List.map_map]; rfl
theorem strip_eff (c:List EdD):(c.map strip).any effE=c.any effE:=by rw [List.any_map]; rfl
theorem strip_okay {enc limit:Int} {E:List El} {c:List EdD}:Okay enc limit E (c.map strip)↔Okay enc limit E c:=by
 unfold Okay; rw [strip_plc,strip_put,strip_all]
structure GM where
 chs:List (List EdD)
 bg:Int
 en:Int
 st:Int
def playG (E:List El) (l:List GM):List El:=l.foldl (fun E g=>playC E g.chs) E
def OkG (enc limit:Int):List El→List GM→Prop
 | _,[]=>True
 | E,g::l=>OkC enc limit E g.chs∧OkG enc limit (playC E g.chs) l
def stG (s:Int) (l:List GM):Int:=l.foldl (fun _ g=>g.st) s
theorem playG_snoc (E:List El) (l:List GM) (g:GM):playG E (l++[g])=playC (playG E l) g.chs:=by simp [playG]
theorem playG_append (E:List El) (l m:List GM):playG E (l++m)=playG (playG E l) m:=by simp [playG]
theorem stG_snoc (s:Int) (l:List GM) (g:GM):stG s (l++[g])=g.st:=by simp [stG]
theorem stG_append (s:Int) (l m:List GM):stG s (l++m)=stG (stG s l) m:=by simp [stG]
theorem OkG.append {enc limit:Int}:∀ {l m:List GM} {E:List El},OkG enc limit E (l++m)↔OkG enc limit E l∧OkG enc limit (playG E l) m
 | [],m,E=>by simp [OkG,playG]
 | g::l,m,E=>by
  have:=OkG.append (l:=l) (m:=m) (E:=playC E g.chs) (enc:=enc) (limit:=limit)
  simp only [List.cons_append,OkG,this,and_assoc]
  exact Iff.rfl
theorem OkG.ok {enc limit:Int}:∀ {l:List GM} {E:List El},OkE enc limit E→OkG enc limit E l→OkE enc limit (playG E l)
 | [],_,h,_=>h
 | g::l,E,h,⟨h1,h2⟩=>show OkE enc limit (playG (playC E g.chs) l) from OkG.ok (OkC.ok h h1) h2
structure GrpM (enc:Int) (E:List El) (s:Int) (g:Grp) (m:GM):Prop where
 eb:els enc g.sb.ps=E
 ee:els enc g.sh.ps=playC E m.chs
 mv:mvs g=m.chs.map mvC'
 bg:g.bg=m.bg
 en:g.en=m.en
 old:g.old=s
 fr:g.fresh=m.st
inductive Chain (enc:Int):List El→Int→List Grp→List GM→Prop where
 | nil (E:List El) (s:Int):Chain enc E s [] []
 | cons {E:List El} {s:Int} {g:Grp} {m:GM} {gs:List Grp} {ms:List GM}:GrpM enc E s g m→Chain enc (playC E m.chs) m.st gs ms→Chain enc E s (g::gs) (m::ms)
theorem Chain.len {enc:Int} {E:List El} {s:Int} {gs:List Grp} {ms:List GM} (c:Chain enc E s gs ms):gs.length=ms.length:=by
 induction c with
 | nil=>rfl
 | cons _ _ ih=>simp [ih]
theorem Chain.snoc {enc:Int} {E:List El} {s:Int} {gs:List Grp} {ms:List GM} {g:Grp} {m:GM} (c:Chain enc E s gs ms) (h:GrpM enc (playG E ms) (stG s ms) g m):Chain enc E s (gs++[g]) (ms++[m]):=by
 induction c with
 | nil E s=>exact .cons h (.nil _ _)
 | cons h1 _ ih=>exact .cons h1 (ih h)
theorem Chain.last {enc:Int} {g:Grp}:∀ {gs:List Grp} {E:List El} {s:Int} {ms:List GM},Chain enc E s (gs++[g]) ms→∃ ms' m,ms=ms'++[m]∧Chain enc E s gs ms'∧GrpM enc (playG E ms') (stG s ms') g m
 | [],E,s,ms,c=>by
  cases c with
  | cons h1 c=>
   cases c
   exact ⟨[],_,rfl, .nil _ _,h1⟩
 | x::gs,E,s,ms,c=>by
  cases c with
  | cons h1 c=>
   obtain ⟨ms',m,rfl,c1,c2⟩:=Chain.last c
   exact ⟨_::ms',m,rfl, .cons h1 c1,c2⟩
theorem Chain.un {enc:Int} {E:List El} {s:Int} {gs:List Grp} {ms:List GM} {m:GM} (c:Chain enc E s gs (ms++[m])):∃ gs' g,gs=gs'++[g]∧Chain enc E s gs' ms∧GrpM enc (playG E ms) (stG s ms) g m:=by
 have hl:=c.len
 rcases List.eq_nil_or_concat gs with rfl | ⟨gs',g,rfl⟩
 ·simp at hl
 ·rw [List.concat_eq_append] at c
  obtain ⟨ms',m',e,c1,c2⟩:=c.last
  obtain ⟨rfl,e2⟩:=List.append_inj_left' e rfl,List.append_inj_right' e rfl
  cases e2
  exact ⟨gs',g,by rw [List.concat_eq_append],c1,c2⟩
end Go.Sw.Hist

set_option linter.unusedVariables false
set_option linter.unusedSimpArgs false
set_option maxRecDepth 100000
namespace Go.Sw.Hist
open Go.Sw.Any Go.Sw.Codec Go.Sw.Piece
abbrev MkL:=List (Int×Int)
structure NowM where
 chs:List (List EdD)
 bg:Int
 om:MkL
 ow:List Int
structure Mo where
 E0:List El
 depth:Int
 lost:List GM
 done:List GM
 next:List GM
 now:Option NowM
 marks:MkL
 watched:List Int
 saved:Int
 last:Int
def Mo.C (M:Mo):List El:=playG M.E0 (M.lost++M.done)
def Mo.st (M:Mo):Int:=stG 0 (M.lost++M.done)
def Mo.ch (M:Mo):List (List EdD):=(M.now.map (·.chs)).getD []
def Mo.E (M:Mo):List El:=playC M.C M.ch
def Mo.all (M:Mo):List GM:=M.lost++M.done++M.next
def Mo.sz (M:Mo):Nat:=M.last.toNat+(M.all.map (·.chs.length)).sum+M.ch.length
def Mo.ins (M:Mo) (a:Int):Prop:=0≤a∧a≤M.E.length
def folP (x:List MvD) (l:MkL):MkL:=l.map fun e=>(e.1,(goL e.2 x).1)
def undoP (l:List (List MvD)) (ms:MkL):MkL:=l.foldr (fun m s=>folP (invL 0 m) s) ms
def redoP (l:List (List MvD)) (ms:MkL):MkL:=l.foldl (fun s m=>folP m s) ms
def putP (name a:Int):MkL→MkL
 | []=>[(name,a)]
 | e::l=>if e.1<name then e::putP name a l else if e.1=name then (name,a)::l else (name,a)::e::l
def Mo.chg (M:Mo) (q:NowM) (es:List EdD):Mo:={ M with now:=some { q with chs:=q.chs++[es.map strip] },marks:=folP (mvC' es) M.marks,watched:=folW (mvC' es) M.watched }
def Mo.keep (M:Mo) (q:NowM) (a:Int):Mo:=
 let l:=M.done++[⟨q.chs,q.bg,a,M.last+1⟩]
 { M with now:=none,next:=[],last:=M.last+1,lost:=if M.depth<(M.done.length:Int)+1 then M.lost++l.take 1 else M.lost,done:=if M.depth<(M.done.length:Int)+1 then l.drop 1 else l }
def Mo.back (M:Mo) (ds:List GM) (g:GM):Mo:={ M with done:=ds,next:=g::M.next,marks:=undoP (g.chs.map mvC') M.marks,watched:=undoW (g.chs.map mvC') M.watched }
structure MoOk (enc limit:Int) (M:Mo) (N:Nat):Prop where
 en:known enc
 li:0≤limit∧limit≤65536
 dp:1≤M.depth∧M.depth≤200
 e0:OkE enc limit M.E0
 ok:OkG enc limit M.E0 M.all
 okn:OkC enc limit M.C M.ch
 la:0≤M.last
 nums:∀ g∈M.all,0<g.st∧g.st≤M.last
 mono:M.all.Pairwise fun a b=>a.st<b.st
 mi:∀ e∈M.marks,0≤e.2∧e.2≤M.E.length
 so:M.marks.Pairwise fun a b=>a.1<b.1
 mb:M.marks.length≤N
 wk:∀ v∈M.watched,v≤M.E.length
 wl:M.watched.length≤N
 nw:∀ q,M.now=some q→(∀ e∈q.om,0≤e.2∧e.2≤M.C.length)∧(q.om.Pairwise fun a b=>a.1<b.1)∧q.om.length≤N∧(∀ v∈q.ow,v≤M.C.length)∧q.ow.length≤N
 sz:M.sz≤N
 nm:(∀ k∈M.marks.map (·.1),isN k)∧∀ q,M.now=some q→∀ k∈q.om.map (·.1),isN k
variable {enc limit:Int} {M:Mo} {N:Nat}
theorem MoOk.mono' {N':Nat} (o:MoOk enc limit M N) (hN:N≤N'):MoOk enc limit M N':=
 ⟨o.en,o.li,o.dp,o.e0,o.ok,o.okn,o.la,o.nums,o.mono,o.mi,o.so,Nat.le_trans o.mb hN,o.wk,Nat.le_trans o.wl hN,fun q hq=>let ⟨a,b,c,d,e⟩:=o.nw q hq; ⟨a,b,Nat.le_trans c hN,d,Nat.le_trans e hN⟩,Nat.le_trans o.sz hN,o.nm⟩
theorem MoOk.okC (o:MoOk enc limit M N):OkE enc limit M.C:=OkG.ok o.e0 (OkG.append.1 o.ok).1
theorem MoOk.okE (o:MoOk enc limit M N):OkE enc limit M.E:=OkC.ok o.okC o.okn
theorem Mo.E_shut (hn:M.now=none):M.E=M.C:=by unfold Mo.E Mo.ch; rw [hn]; rfl
theorem MoOk.len (o:MoOk enc limit M N):(M.E.length:Int)≤65536:=by have:=o.okE.len; have:=o.li; omega
def emb (l:MkL):Ents:=l.map fun e=>(e.1,e.2,0)
theorem emb_fol (x:List MvD) (l:MkL):folM x (emb l)=emb (folP x l):=by simp [folM,emb,folP]
theorem emb_undo:∀ (l:List (List MvD)) (ms:MkL),undoM l (emb ms)=emb (undoP l ms)
 | [],ms=>rfl
 | m::l,ms=>by show folM (invL 0 m) (undoM l (emb ms))=emb (folP (invL 0 m) (undoP l ms)); rw [emb_undo l ms,emb_fol]
theorem emb_in {L:Int} {ms:MkL} {ws:List Int}:MsIn L (emb ms) ws↔(∀ e∈ms,0≤e.2∧e.2≤L)∧∀ v∈ws,v≤L:=by
 unfold MsIn emb
 refine and_congr ⟨fun h e he=>h _ (List.mem_map.2 ⟨e,he,rfl⟩),fun h e he=>?_⟩ Iff.rfl
 obtain ⟨x,hx,rfl⟩:=List.mem_map.1 he
 exact h x hx
theorem MoOk.ms (o:MoOk enc limit M N):MsIn M.E.length (emb M.marks) M.watched:=emb_in.2 ⟨o.mi,o.wk⟩
theorem fol_key (x:List MvD) (l:MkL):(folP x l).map (·.1)=l.map (·.1):=by simp [folP]
theorem undo_key:∀ (l:List (List MvD)) (ms:MkL),(undoP l ms).map (·.1)=ms.map (·.1)
 | [],ms=>rfl
 | m::l,ms=>by show (folP (invL 0 m) (undoP l ms)).map _=_; rw [fol_key,undo_key l]
theorem so_key {a b:MkL} (h:b.map (·.1)=a.map (·.1)) (ha:a.Pairwise fun x y=>x.1<y.1):b.Pairwise fun x y=>x.1<y.1:=by
 have h1:(a.map (·.1)).Pairwise fun x y=>x<y:=List.pairwise_map.2 ha
 rw [← h] at h1
 exact List.pairwise_map.1 h1
theorem len_key {a b:MkL} (h:b.map (·.1)=a.map (·.1)):b.length=a.length:=by have:=congrArg List.length h; simpa using this
theorem undoW_len:∀ (l:List (List MvD)) (ws:List Int),(undoW l ws).length=ws.length
 | [],_=>rfl
 | m::l,ws=>by show (folW (invL 0 m) (undoW l ws)).length=_; unfold folW; rw [List.length_map,undoW_len l]
theorem MoOk.begin (o:MoOk enc limit M N) (hn:M.now=none) (a:Int):MoOk enc limit { M with now:=some ⟨[],a,M.marks,M.watched⟩ } N:=by
 have he:=Mo.E_shut hn
 refine ⟨o.en,o.li,o.dp,o.e0,o.ok,trivial,o.la,o.nums,o.mono,?_,o.so,o.mb,?_,o.wl,fun q hq=>?_,?_,o.nm.1,fun q hq=>by cases hq; exact o.nm.1⟩
 ·have:=o.mi; rw [he] at this; exact this
 ·have:=o.wk; rw [he] at this; exact this
 ·cases hq
  have h1:=o.mi; have h2:=o.wk
  rw [he] at h1 h2
  exact ⟨h1,o.so,o.mb,h2,o.wl⟩
 ·have:=o.sz; unfold Mo.sz Mo.ch at this ⊢; rw [hn] at this; exact this
theorem Mo.chg_E {q:NowM} (hn:M.now=some q) (es:List EdD):(M.chg q es).E=allE M.E es:=by
 unfold Mo.E Mo.ch Mo.chg
 rw [hn]
 show playC M.C (q.chs++[es.map strip])=_
 rw [playC_snoc,strip_all]; rfl
theorem MoOk.chg {q:NowM} {es:List EdD} (o:MoOk enc limit M N) (hn:M.now=some q) (hl:es.length≤70000) (hok:Okay enc limit M.E es):MoOk enc limit (M.chg q es) (N+1):=by
 have hE:=Mo.chg_E hn es
 have hch:M.ch=q.chs:=by unfold Mo.ch; rw [hn]; rfl
 have hlen:=allE_len hok.1 (Int.le_refl _)
 have hm:=fol_in (by omega) (plM_of hok.1) o.ms
 rw [← hlen,emb_fol] at hm
 have hm:=emb_in.1 hm
 have hk:=fol_key (mvC' es) M.marks
 refine ⟨o.en,o.li,o.dp,o.e0,o.ok,?_,o.la,o.nums,o.mono,?_,so_key hk o.so,?_,?_,?_,fun q' hq=>?_,?_,(by show ∀ k∈(folP (mvC' es) M.marks).map (·.1),isN k; rw [hk]; exact o.nm.1),fun q' hq=>by cases hq; exact o.nm.2 q hn⟩
 ·show OkC enc limit M.C (q.chs++[es.map strip])
  refine OkC.snoc (by rw [List.length_map]; exact hl) (by have:=o.okn; rw [hch] at this; exact this) (strip_okay.2 ?_)
  have:M.E=playC M.C q.chs:=by unfold Mo.E; rw [hch]
  rw [← this]; exact hok
 ·rw [hE]; exact hm.1
 ·have:=len_key hk; have h2:=o.mb; show (folP (mvC' es) M.marks).length≤_; omega
 ·rw [hE]; exact hm.2
 ·show (folW _ _).length≤_; unfold folW; rw [List.length_map]; have:=o.wl; omega
 ·have:=o.nw q hn
  cases hq
  exact ⟨this.1,this.2.1,Nat.le_succ_of_le this.2.2.1,this.2.2.2.1,Nat.le_succ_of_le this.2.2.2.2⟩
 ·have:=o.sz
  unfold Mo.sz at this ⊢
  rw [hch] at this
  show M.last.toNat+(M.all.map (·.chs.length)).sum+(q.chs++[es.map strip]).length≤N+1
  rw [List.length_append,List.length_singleton]; omega
theorem MoOk.endNo {q:NowM} (o:MoOk enc limit M N) (hn:M.now=some q) (he:effC q.chs=false):MoOk enc limit { M with now:=none } N:=by
 have hch:M.ch=q.chs:=by unfold Mo.ch; rw [hn]; rfl
 have hE:M.E=M.C:=by have:=o.okn; rw [hch] at this; unfold Mo.E; rw [hch]; exact eff_play this he
 refine ⟨o.en,o.li,o.dp,o.e0,o.ok,trivial,o.la,o.nums,o.mono,?_,o.so,o.mb,?_,o.wl,fun q' hq=>(by cases hq),?_,o.nm.1,fun q' hq=>by cases hq⟩
 ·have:=o.mi; rw [hE] at this; exact this
 ·have:=o.wk; rw [hE] at this; exact this
 ·have:=o.sz; unfold Mo.sz at this ⊢; exact Nat.le_trans (by show M.last.toNat+(M.all.map (·.chs.length)).sum+0≤_; omega) this
theorem Mo.keep_done {q:NowM} {a:Int}:(M.keep q a).lost++(M.keep q a).done=M.lost++M.done++[⟨q.chs,q.bg,a,M.last+1⟩]:=by
 unfold Mo.keep
 dsimp only
 split
 ·rw [List.append_assoc,List.take_append_drop,List.append_assoc]
 ·rw [List.append_assoc]
theorem Mo.keep_all {q:NowM} {a:Int}:(M.keep q a).all=M.lost++M.done++[⟨q.chs,q.bg,a,M.last+1⟩]:=by
 unfold Mo.all
 rw [Mo.keep_done]
 show _++[]=_
 rw [List.append_nil]
theorem Mo.keep_C {q:NowM} {a:Int} (hn:M.now=some q):(M.keep q a).C=M.E:=by
 unfold Mo.C
 rw [Mo.keep_done,playG_snoc]
 unfold Mo.E Mo.ch
 rw [hn]; rfl
theorem Mo.keep_st {q:NowM} {a:Int}:(M.keep q a).st=M.last+1:=by
 unfold Mo.st
 rw [Mo.keep_done,stG_snoc]
theorem MoOk.keep {q:NowM} {a:Int} (o:MoOk enc limit M N) (hn:M.now=some q):MoOk enc limit (M.keep q a) (N+1):=by
 have hch:M.ch=q.chs:=by unfold Mo.ch; rw [hn]; rfl
 have hE:(M.keep q a).E=M.E:=by rw [Mo.E_shut rfl,Mo.keep_C hn]
 have hall:∀ g∈M.lost++M.done,g∈M.all:=fun g hg=>List.mem_append_left _ hg
 refine ⟨o.en,o.li,o.dp,o.e0,?_,trivial,?_,fun g hg=>?_,?_,?_,o.so,Nat.le_succ_of_le o.mb,?_,Nat.le_succ_of_le o.wl,fun q' hq=>(by cases hq),?_,o.nm.1,fun q' hq=>by cases hq⟩
 ·rw [Mo.keep_all]
  refine OkG.append.2 ⟨(OkG.append.1 o.ok).1,?_,trivial⟩
  have:=o.okn; rw [hch] at this; exact this
 ·show 0≤M.last+1; have:=o.la; omega
 ·rw [Mo.keep_all] at hg
  show 0<g.st∧g.st≤M.last+1
  have:=o.la
  rcases List.mem_append.1 hg with hg | hg
  ·have:=o.nums g (hall g hg); omega
  ·rw [List.mem_singleton.1 hg]; dsimp only; omega
 ·rw [Mo.keep_all]
  refine List.pairwise_append.2 ⟨(List.pairwise_append.1 o.mono).1,List.pairwise_singleton _ _,fun x hx y hy=>?_⟩
  rw [List.mem_singleton.1 hy]
  have:=o.nums x (hall x hx)
  dsimp only; omega
 ·rw [hE]; exact o.mi
 ·rw [hE]; exact o.wk
 ·have:=o.sz
  have hla:=o.la
  unfold Mo.sz at this ⊢
  rw [Mo.keep_all]
  rw [hch] at this
  unfold Mo.all at this
  show (M.last+1).toNat+_+0≤N+1
  rw [List.map_append,List.sum_append_nat] at this ⊢
  simp only [List.map_cons,List.map_nil,List.sum_cons,List.sum_nil] at this ⊢
  omega
theorem MoOk.drop {q:NowM} (o:MoOk enc limit M N) (hn:M.now=some q):MoOk enc limit { M with now:=none,marks:=q.om,watched:=q.ow } N:=by
 obtain ⟨h1,h2,h3,h4,h5⟩:=o.nw q hn
 refine ⟨o.en,o.li,o.dp,o.e0,o.ok,trivial,o.la,o.nums,o.mono,h1,h2,h3,h4,h5,fun q' hq=>(by cases hq),?_,o.nm.2 q hn,fun q' hq=>by cases hq⟩
 have:=o.sz; unfold Mo.sz at this ⊢; exact Nat.le_trans (by show M.last.toNat+(M.all.map (·.chs.length)).sum+0≤_; omega) this
theorem Mo.back_all {ds:List GM} {g:GM} (hd:M.done=ds++[g]):(M.back ds g).all=M.all:=by unfold Mo.all Mo.back; rw [hd]; simp
theorem Mo.C_last {ds:List GM} {g:GM} (hd:M.done=ds++[g]):M.C=playC (playG M.E0 (M.lost++ds)) g.chs:=by unfold Mo.C; rw [hd, ← List.append_assoc,playG_snoc]
theorem Mo.back_C {ds:List GM} {g:GM}:(M.back ds g).C=playG M.E0 (M.lost++ds):=rfl
theorem Mo.back_E {ds:List GM} {g:GM} (hn:M.now=none):(M.back ds g).E=playG M.E0 (M.lost++ds):=Mo.E_shut hn
theorem MoOk.mchU {ds:List GM} {g:GM} (o:MoOk enc limit M N) (hn:M.now=none) (hd:M.done=ds++[g]):Mch (playG M.E0 (M.lost++ds)).length (g.chs.map mvC') M.E.length:=by
 have h1:=o.ok
 unfold Mo.all at h1
 rw [hd, ← List.append_assoc,List.append_assoc (M.lost++ds)] at h1
 obtain ⟨h2,h3⟩:=OkG.append.1 h1
 have:=OkC.mch o.li.2 (OkG.ok o.e0 h2) h3.1
 rw [Mo.E_shut hn,Mo.C_last hd]; exact this
theorem MoOk.back {ds:List GM} {g:GM} (o:MoOk enc limit M N) (hn:M.now=none) (hd:M.done=ds++[g]):MoOk enc limit (M.back ds g) N:=by
 have hm:=(o.mchU hn hd).undo o.ms
 rw [emb_undo] at hm
 have hm:=emb_in.1 hm
 have hE:=Mo.back_E (ds:=ds) (g:=g) hn
 have hk:=undo_key (g.chs.map mvC') M.marks
 refine ⟨o.en,o.li,o.dp,o.e0,?_,?_,o.la,?_,?_,?_,so_key hk o.so,?_,?_,?_,fun q hq=>?_,?_,(by show ∀ k∈(undoP (g.chs.map mvC') M.marks).map (·.1),isN k; rw [hk]; exact o.nm.1),fun q hq=>by have hq:M.now=some q:=hq; rw [hn] at hq; cases hq⟩
 ·rw [Mo.back_all hd]; exact o.ok
 ·have:(M.back ds g).ch=[]:=by unfold Mo.ch Mo.back; rw [hn]; rfl
  rw [this]; trivial
 ·rw [Mo.back_all hd]; exact o.nums
 ·rw [Mo.back_all hd]; exact o.mono
 ·rw [hE]; exact hm.1
 ·have:=len_key hk; have h2:=o.mb; show (undoP _ _).length≤_; omega
 ·rw [hE]; exact hm.2
 ·show (undoW _ _).length≤_; rw [undoW_len]; exact o.wl
 ·have hq:M.now=some q:=hq
  rw [hn] at hq; cases hq
 ·have:=o.sz
  unfold Mo.sz at this ⊢
  rw [Mo.back_all hd]; exact this
theorem put_mem {name a:Int}:∀ {l:MkL} {e:Int×Int},e∈putP name a l→e=(name,a)∨e∈l
 | [],e,h=>.inl (List.mem_singleton.1 h)
 | x::l,e,h=>by
  unfold putP at h
  split at h
  ·rcases List.mem_cons.1 h with rfl | h
   ·exact .inr (List.mem_cons_self ..)
   ·exact (put_mem h).imp id (List.mem_cons_of_mem _)
  ·split at h
   ·rcases List.mem_cons.1 h with rfl | h
    ·exact .inl rfl
    ·exact .inr (List.mem_cons_of_mem _ h)
   ·rcases List.mem_cons.1 h with rfl | h
    ·exact .inl rfl
    ·exact .inr h
theorem put_so {name a:Int}:∀ {l:MkL},(l.Pairwise fun x y=>x.1<y.1)→(putP name a l).Pairwise fun x y=>x.1<y.1
 | [],_=>List.pairwise_singleton _ _
 | x::l,h=>by
  obtain ⟨h1,h2⟩:=List.pairwise_cons.1 h
  unfold putP
  split
  ·refine List.pairwise_cons.2 ⟨fun y hy=>?_,put_so h2⟩
   rcases put_mem hy with rfl | hy
   ·dsimp only; omega
   ·exact h1 y hy
  ·split
   ·exact List.pairwise_cons.2 ⟨fun y hy=>by have:=h1 y hy; dsimp only; omega,h2⟩
   ·refine List.pairwise_cons.2 ⟨fun y hy=>?_,h⟩
    rcases List.mem_cons.1 hy with rfl | hy
    ·dsimp only; omega
    ·have:=h1 y hy; dsimp only; omega
theorem put_len {name a:Int}:∀ {l:MkL},(putP name a l).length≤l.length+1
 | []=>Nat.le_refl _
 | x::l=>by
  have:=put_len (name:=name) (a:=a) (l:=l)
  unfold putP
  split
  ·simp only [List.length_cons]; omega
  ·split <;> simp only [List.length_cons] <;> omega
theorem MoOk.setMark (o:MoOk enc limit M N) {name a:Int} (hname:isN name) (ha:M.ins a):MoOk enc limit { M with marks:=putP name a M.marks } (N+1):=by
 refine ⟨o.en,o.li,o.dp,o.e0,o.ok,o.okn,o.la,o.nums,o.mono,fun e he=>?_,put_so o.so,?_,o.wk,Nat.le_succ_of_le o.wl,fun q hq=>?_,Nat.le_succ_of_le o.sz,fun k hk=>?_,o.nm.2⟩
 ·rcases put_mem he with rfl | he
  ·exact ha
  ·exact o.mi e he
 ·have:=put_len (name:=name) (a:=a) (l:=M.marks); have:=o.mb; show (putP name a M.marks).length≤_; omega
 ·obtain ⟨h1,h2,h3,h4,h5⟩:=o.nw q hq
  exact ⟨h1,h2,Nat.le_succ_of_le h3,h4,Nat.le_succ_of_le h5⟩
 ·obtain ⟨e,he,rfl⟩:=List.mem_map.1 hk
  rcases put_mem he with rfl | he
  ·exact hname
  ·exact o.nm.1 _ (List.mem_map.2 ⟨e,he,rfl⟩)
theorem MoOk.watch (o:MoOk enc limit M N) {l:List Int} (hl:∀ v∈l,M.ins v):MoOk enc limit { M with watched:=l } (N+l.length):=by
 refine ⟨o.en,o.li,o.dp,o.e0,o.ok,o.okn,o.la,o.nums,o.mono,o.mi,o.so,Nat.le_trans o.mb (Nat.le_add_right _ _),fun v hv=>(hl v hv).2,Nat.le_add_left _ _,fun q hq=>?_,Nat.le_trans o.sz (Nat.le_add_right _ _),o.nm⟩
 obtain ⟨h1,h2,h3,h4,h5⟩:=o.nw q hq
 exact ⟨h1,h2,Nat.le_trans h3 (Nat.le_add_right _ _),h4,Nat.le_trans h5 (Nat.le_add_right _ _)⟩
end Go.Sw.Hist

set_option linter.unusedVariables false
set_option linter.unusedSimpArgs false
set_option maxRecDepth 100000
namespace Go.Sw.Hist
open Go.Sw.Any Go.Sw.Codec Go.Sw.Piece
variable {P:Program} {S:Ids} {h:Heap} {Q:Nat→List Value→Heap→Prop} {n k:Nat} {rho:Nat→Nat} {X:Bk}
instance (M:Mo) (a:Int):Decidable (M.ins a):=inferInstanceAs (Decidable (_∧_))
structure OpnM (enc:Int) (M:Mo) (o:Opn) (q:NowM):Prop where
 eb:els enc o.sb.ps=M.C
 mv:o.mv.2.map (·.2)=q.chs.map mvC'
 bg:o.bg=q.bg
 old:o.old=M.st
 ch:o.ch=effC q.chs
 ms:(o.ms.map kv).Perm q.om
 ws:o.ws=q.ow
def NowR (enc:Int) (M:Mo):Option Opn→Option NowM→Prop
 | none,none=>True
 | some o,some q=>OpnM enc M o q
 | _,_=>False
structure Lnk (X:Bk) (M:Mo) (N:Nat):Prop where
 E:els X.T.enc X.T.cur.ps=M.E
 u:Chain X.T.enc (playG M.E0 M.lost) (stG 0 M.lost) X.U.2 M.done
 r:Chain X.T.enc M.C M.st X.R.2.reverse M.next
 now:NowR X.T.enc M X.now M.now
 ms:(X.ms.map kv).Perm M.marks
 ws:X.ws=M.watched
 st:X.state=M.st
 sv:X.saved=M.saved
 la:X.last=M.last
 dp:X.depth=M.depth
 A:X.T.A.length≤4*N
structure Inv (X:Bk) (M:Mo) (N:Nat):Prop where
 ok:MoOk X.T.enc X.T.limit M N
 lk:Lnk X M N
structure Sm (X X':Bk):Prop where
 b:X'.b=X.b
 p:X'.T.p=X.T.p
 enc:X'.T.enc=X.T.enc
 limit:X'.T.limit=X.T.limit
 depth:X'.depth=X.depth
theorem Sm.refl (X:Bk):Sm X X:=⟨rfl,rfl,rfl,rfl,rfl⟩
theorem Sm.trans {X Y Z:Bk} (a:Sm X Y) (b:Sm Y Z):Sm X Z:=⟨b.b.trans a.b,b.p.trans a.p,b.enc.trans a.enc,b.limit.trans a.limit,b.depth.trans a.depth⟩
def BPost (S:Ids) (n k:Nat) (X:Bk) (h:Heap) (rho:Nat→Nat) (h':Heap) (M':Mo) (N':Nat):Prop:=
 ∃ rho' X',StepR k h rho h' rho'∧BookR S n h' rho' k X'∧Inv X' M' N'∧Sm X X'
theorem kv_fol (x:List MvD) (ms:Ents):(folM x ms).map kv=folP x (ms.map kv):=by simp [folM,folP,kv]
theorem kv_undo:∀ (l:List (List MvD)) (ms:Ents),(undoM l ms).map kv=undoP l (ms.map kv)
 | [],_=>rfl
 | m::l,ms=>by show (folM (invL 0 m) (undoM l ms)).map kv=folP (invL 0 m) (undoP l (ms.map kv)); rw [kv_fol,kv_undo l]
theorem perm_fol (x:List MvD) {a b:MkL} (h:a.Perm b):(folP x a).Perm (folP x b):=h.map _
theorem perm_undo:∀ (l:List (List MvD)) {a b:MkL},a.Perm b→(undoP l a).Perm (undoP l b)
 | [],_,_,h=>h
 | m::l,_,_,h=>perm_fol _ (perm_undo l h)
theorem Inv.msX {M:Mo} {N:Nat} (i:Inv X M N):MsIn M.E.length X.ms X.ws:=by
 refine ⟨fun e he=>?_,fun v hv=>i.ok.wk v (by rw [← i.lk.ws]; exact hv)⟩
 exact i.ok.mi (kv e) (i.lk.ms.mem_iff.1 (List.mem_map.2 ⟨e,he,rfl⟩))
theorem Inv.mono {M:Mo} {N N':Nat} (i:Inv X M N) (hN:N≤N'):Inv X M N':=
 ⟨i.ok.mono' hN,⟨i.lk.E,i.lk.u,i.lk.r,i.lk.now,i.lk.ms,i.lk.ws,i.lk.st,i.lk.sv,i.lk.la,i.lk.dp,by have:=i.lk.A; omega⟩⟩
theorem BPost.ext {M:Mo} {N:Nat} {h':Heap} (r:BookR S n h rho k X) (i:Inv X M N) (e:Ext h h'):BPost S n k X h rho h' M N:=
 ⟨_,X,StepR.ofExt e,r.zr e,i,Sm.refl X⟩
theorem Inv.noneM {M:Mo} {N:Nat} (i:Inv X M N) (hn:X.now=none):M.now=none:=by
 have:=i.lk.now
 rw [hn] at this
 cases hm:M.now with
 | none=>rfl
 | some q=>rw [hm] at this; exact this.elim
theorem Inv.someM {M:Mo} {N:Nat} {o:Opn} (i:Inv X M N) (hn:X.now=some o):∃ q,M.now=some q∧OpnM X.T.enc M o q:=by
 have:=i.lk.now
 rw [hn] at this
 cases hm:M.now with
 | none=>rw [hm] at this; exact this.elim
 | some q=>rw [hm] at this; exact ⟨q,rfl,this⟩
theorem Inv.someX {M:Mo} {N:Nat} {q:NowM} (i:Inv X M N) (hm:M.now=some q):∃ o,X.now=some o∧OpnM X.T.enc M o q:=by
 cases hn:X.now with
 | none=>rw [i.noneM hn] at hm; cases hm
 | some o=>obtain ⟨q',h1,h2⟩:=i.someM hn; rw [hm] at h1; cases h1; exact ⟨o,rfl,h2⟩
theorem Inv.ins {M:Mo} {N:Nat} (i:Inv X M N) (a:Int):insideB X a↔M.ins a:=by unfold insideB Mo.ins; rw [i.lk.E]
theorem Inv.wsl {M:Mo} {N:Nat} (i:Inv X M N):X.ws.length≤N:=by rw [i.lk.ws]; exact i.ok.wl
def Mo.beginR (M:Mo) (a:Int):Int×Mo:=if M.now.isSome then (70,M) else if M.ins a then (0,{ M with now:=some ⟨[],a,M.marks,M.watched⟩ }) else (2,M)
theorem v_Begin {M:Mo} {N:Nat} {a:Int} (r:BookR S n h rho k X) (i:Inv X M N) (hN:N≤68719476736) :
  wp P (F_Book_Begin S (some X.b) a) h fun tg vs h'=>tg=0∧vs=[i64v (M.beginR a).1]∧BPost S n k X h rho h' (M.beginR a).2 N:=by
 cases hn:X.now with
 | some o=>
  obtain ⟨q,hm,_⟩:=i.someM hn
  refine wp_mono _ (fun tg vs h' ⟨h1,h2,h3⟩=>?_) (c_BeginOpen (at_:=a) r hn)
  unfold Mo.beginR
  rw [hm,if_pos (show (some q).isSome=true from rfl),h3]
  exact ⟨h1,h2,BPost.ext r i (Ext.refl _)⟩
 | none=>
  have hm:=i.noneM hn
  refine wp_mono _ (fun tg vs h' ⟨h1,h2⟩=>?_) (c_Begin (at_:=a) r hn (by have:=i.wsl; omega))
  unfold Mo.beginR
  rw [hm,if_neg (by decide)]
  rcases h2 with ⟨h2,h3,h4⟩ | ⟨h2,h3,rho',o,B⟩
  ·rw [i.ins] at h2
   rw [if_neg h2]
   exact ⟨h1,h3,BPost.ext r i h4⟩
  ·rw [i.ins] at h2
   rw [if_pos h2]
   have hE:=Mo.E_shut hm
   refine ⟨h1,h3,rho',_,B.st,B.r,⟨i.ok.begin hm a,?_⟩,⟨rfl,rfl,rfl,rfl,rfl⟩⟩
   refine ⟨?_,i.lk.u,i.lk.r,?_,i.lk.ms,i.lk.ws,i.lk.st,i.lk.sv,i.lk.la,i.lk.dp,i.lk.A⟩
   ·have:=i.lk.E; rw [hE] at this; exact this
   ·show OpnM X.T.enc _ o _
    refine ⟨?_,?_,B.bg,?_,B.ch,?_,?_⟩
    ·rw [B.sb]; have:=i.lk.E; rw [hE] at this; exact this
    ·rw [B.mv]; rfl
    ·rw [B.old]; exact i.lk.st
    ·exact B.ms.trans i.lk.ms
    ·rw [B.ws]; exact i.lk.ws
theorem Inv.small {M:Mo} {N:Nat} (i:Inv X M N) (r:BookR S n h rho k X):(bytesL X.T.cur.ps).length≤X.T.limit:=by
 have h1:=blen_state r.t.cur r.t.enc
 have h2:=i.ok.okE.2
 rw [i.lk.E] at h1
 omega
theorem sz_ch {M:Mo} {N:Nat} (hs:M.sz≤N):M.ch.length≤N:=by unfold Mo.sz at hs; omega
theorem v_Change (Me:Meth0 P S) {M:Mo} {N:Nat} {q:NowM} {x:Eds} (r:BookR S n h rho k X) (i:Inv X M N) (hm:M.now=some q) (hok:∀ h',Chg (fun i=>k<rho i∧rho i≤k+10) h h'→(Sh.list EdSh).ok h' x)
  (hz:∀ e,e∈x.2→e.2.2.1.2≠[]→∀ a,e.2.2.1.1.base=some a→rho a.block≤k∨k+10<rho a.block) (hN:N+1+(putsOf x.2).length≤68719476736) :
  wp P (F_Book_Change S (some X.b) x.1) h fun tg vs h'=>tg=0∧∃ e,vs=[i64v e]∧RefR X.T.enc X.T.limit (toksL X.T.enc X.T.cur.ps) x.2 e∧(e=0↔x.2.length≤70000∧Okay X.T.enc X.T.limit M.E x.2) ∧
   BPost S n k X h rho h' (if e=0 then M.chg q x.2 else M) (N+1+(putsOf x.2).length):=by
 obtain ⟨o,hn,om⟩:=i.someX hm
 have hch:M.ch=q.chs:=by unfold Mo.ch; rw [hm]; rfl
 have hml:o.mv.2.length=q.chs.length:=by have:=congrArg List.length om.mv; simpa using this
 have hsz:=sz_ch i.ok.sz
 rw [hch] at hsz
 have hlen:=i.ok.len
 have hA:=i.lk.A
 have hw:=i.msX.w hlen
 refine wp_mono _ (fun tg vs h' ⟨h1,e,rho',X',h2,B⟩=>?_) (c_BChange Me (o:=o) (x:=x) r hn hok hz (by omega) (i.small r) (by rw [i.lk.E]; omega) hw.1 hw.2 (by omega))
 have hre:=ref_okay r.t.enc r.t.cur.bytes B.ref
 rw [i.lk.E] at hre
 refine ⟨h1,e,h2,B.ref,hre,rho',X',B.st,B.r,?_,?_⟩
 ·have hAl:=B.len
  by_cases he:e=0
  ·rw [if_pos he]
   obtain ⟨qq,l,hX⟩:=B.yes he
   have hok':=(hre.1 he)
   have hE:els X.T.enc X'.T.cur.ps=allE M.E x.2:=by rw [B.els,if_pos he,i.lk.E]
   have ho:=(i.ok.chg hm hok'.1 hok'.2).mono' (N':=N+1+(putsOf x.2).length) (by omega)
   rw [hX] at hE hAl ⊢
   have e1:X'.T.enc=X.T.enc:=B.nx.enc
   have e2:X'.T.limit=X.T.limit:=B.nx.limit
   refine ⟨by show MoOk X'.T.enc X'.T.limit _ _; rw [e1,e2]; exact ho,?_⟩
   refine ⟨?_,?_,?_,?_,?_,?_,i.lk.st,i.lk.sv,i.lk.la,i.lk.dp,?_⟩
   ·show els X'.T.enc X'.T.cur.ps=_
    rw [e1,Mo.chg_E hm]; exact hE
   ·show Chain X'.T.enc _ _ _ _; rw [e1]; exact i.lk.u
   ·show Chain X'.T.enc _ _ _ _; rw [e1]; exact i.lk.r
   ·show OpnM X'.T.enc _ _ _
    rw [e1]
    refine ⟨om.eb,?_,om.bg,om.old,?_,om.ms,om.ws⟩
    ·show (o.mv.2++[(l,x.2.map mvOf)]).map (·.2)=(q.chs++[x.2.map strip]).map mvC'
     rw [List.map_append,List.map_append,om.mv,List.map_singleton,List.map_singleton,strip_mv]
    ·show (o.ch || x.2.any effE)=effC (q.chs++[x.2.map strip])
     rw [om.ch]
     unfold effC
     rw [List.any_append,List.any_cons,List.any_nil,Bool.or_false,strip_eff]
   ·show ((folM (x.2.map mvOf) X.ms).map kv).Perm (folP (mvC' x.2) M.marks)
    rw [kv_fol]; exact perm_fol _ i.lk.ms
   ·show folW (x.2.map mvOf) X.ws=folW (mvC' x.2) M.watched
    rw [i.lk.ws]
   ·dsimp only at hAl ⊢; omega
  ·rw [if_neg he]
   have hX:=B.no he
   have hE:els X.T.enc X'.T.cur.ps=M.E:=by rw [B.els,if_neg he,i.lk.E]
   rw [hX] at hE hAl ⊢
   have e1:X'.T.enc=X.T.enc:=B.nx.enc
   have e2:X'.T.limit=X.T.limit:=B.nx.limit
   have ho:=i.ok.mono' (N':=N+1+(putsOf x.2).length) (by omega)
   refine ⟨by show MoOk X'.T.enc X'.T.limit _ _; rw [e1,e2]; exact ho,?_⟩
   refine ⟨?_,?_,?_,?_,i.lk.ms,i.lk.ws,i.lk.st,i.lk.sv,i.lk.la,i.lk.dp,?_⟩
   ·show els X'.T.enc X'.T.cur.ps=_; rw [e1]; exact hE
   ·show Chain X'.T.enc _ _ _ _; rw [e1]; exact i.lk.u
   ·show Chain X'.T.enc _ _ _ _; rw [e1]; exact i.lk.r
   ·show NowR X'.T.enc _ _ _; rw [e1]; exact i.lk.now
   ·dsimp only at hAl ⊢; omega
 ·by_cases he:e=0
  ·obtain ⟨qq,l,hX⟩:=B.yes he
   exact ⟨by rw [hX],B.nx.p,B.nx.enc,B.nx.limit,by rw [hX]⟩
  ·exact ⟨by rw [B.no he],B.nx.p,B.nx.enc,B.nx.limit,by rw [B.no he]⟩
theorem up_len {last:Int}:∀ {l:List GM} {a:Int},(∀ g∈l,a<g.st∧g.st≤last)→(l.Pairwise fun x y=>x.st<y.st)→0≤a→a≤last→(l.length:Int)≤last-a
 | [],_,_,_,_,_=>by simp; omega
 | g::l,a,h,p,h0,h1=>by
  obtain ⟨p1,p2⟩:=List.pairwise_cons.1 p
  have hg:=h g (List.mem_cons_self ..)
  have:=up_len (l:=l) (a:=g.st) (fun x hx=>⟨p1 x hx,(h x (List.mem_cons_of_mem _ hx)).2⟩) p2 (by omega) (by omega)
  rw [List.length_cons]; push_cast; omega
theorem all_le {enc limit:Int} {M:Mo} {N:Nat} (o:MoOk enc limit M N):M.all.length≤M.last.toNat:=by
 have:=up_len (last:=M.last) (l:=M.all) (a:=0) o.nums o.mono (Int.le_refl _) o.la
 have:=o.la
 omega
theorem done_le {enc limit:Int} {M:Mo} {N:Nat} (o:MoOk enc limit M N):M.done.length≤M.last.toNat:=by
 have:=all_le o; unfold Mo.all at this; rw [List.length_append,List.length_append] at this; omega
theorem next_le {enc limit:Int} {M:Mo} {N:Nat} (o:MoOk enc limit M N):M.next.length≤M.last.toNat:=by
 have:=all_le o; unfold Mo.all at this; rw [List.length_append,List.length_append] at this; omega
def Mo.endR (M:Mo) (a:Int):Int×Mo:=match M.now with
 | none=>(71,M)
 | some q=>if M.ins a then (0,if effC q.chs then M.keep q a else { M with now:=none }) else (2,M)
theorem v_End (C:ClH P S) {M:Mo} {N:Nat} {a:Int} (r:BookR S n h rho k X) (i:Inv X M N) (hN:N≤68719476736) :
  wp P (F_Book_End S (some X.b) a) h fun tg vs h'=>tg=0∧vs=[i64v (M.endR a).1]∧BPost S n k X h rho h' (M.endR a).2 (N+1):=by
 have i1:=i.mono (N':=N+1) (Nat.le_succ _)
 cases hn:X.now with
 | none=>
  have hm:=i.noneM hn
  refine wp_mono _ (fun tg vs h' ⟨h1,h2,h3⟩=>?_) (c_EndShut (at_:=a) r hn)
  unfold Mo.endR
  rw [hm,h3]
  exact ⟨h1,h2,BPost.ext r i1 (Ext.refl _)⟩
 | some o=>
  obtain ⟨q,hm,om⟩:=i.someM hn
  have hch:M.ch=q.chs:=by unfold Mo.ch; rw [hm]; rfl
  have hsz:=i.ok.sz
  have hla:=i.ok.la
  have hul:=i.lk.u.len
  have hdl:M.done.length≤N∨True:=.inr trivial
  have hd:M.done.length≤M.last.toNat:=done_le i.ok
  have hl2:M.last.toNat≤N:=by unfold Mo.sz at hsz; omega
  refine wp_mono _ (fun tg vs h' ⟨h1,h2⟩=>?_) (c_End C (o:=o) (at_:=a) r hn (by rw [i.lk.la]; exact hla) (by rw [i.lk.la]; omega) (by rw [hul]; omega))
  unfold Mo.endR
  rw [hm]
  dsimp only
  rcases h2 with ⟨h2,h3,h4⟩ | ⟨h2,h3,rho',X',st,r',er⟩
  ·rw [i.ins] at h2
   rw [if_neg h2]
   exact ⟨h1,h3,BPost.ext r i1 h4⟩
  ·rw [i.ins] at h2
   rw [if_pos h2]
   refine ⟨h1,h3,rho',X',st,r',?_⟩
   cases hc:effC q.chs with
   | false=>
    have hX:=er.no (by rw [om.ch,hc])
    rw [if_neg (by decide),hX]
    have hE:M.E=M.C:=by have:=i.ok.okn; rw [hch] at this; unfold Mo.E; rw [hch]; exact eff_play this hc
    refine ⟨⟨(i1.ok.endNo hm hc),?_,i.lk.u,i.lk.r,trivial,i.lk.ms,i.lk.ws,i.lk.st,i.lk.sv,i.lk.la,i.lk.dp,i1.lk.A⟩,⟨rfl,rfl,rfl,rfl,rfl⟩⟩
    have:=i.lk.E; rw [hE] at this; exact this
   | true=>
    obtain ⟨g,q',hg,hX⟩:=er.yes (by rw [om.ch,hc])
    rw [if_pos rfl,hX]
    have gm:GrpM X.T.enc (playG (playG M.E0 M.lost) M.done) (stG (stG 0 M.lost) M.done) g ⟨q.chs,q.bg,a,M.last+1⟩:=by
     refine ⟨?_,?_,?_,?_,hg.en,?_,?_⟩
     ·rw [hg.sb,om.eb, ← playG_append]; rfl
     ·rw [hg.sh,i.lk.E, ← playG_append]; unfold Mo.E; rw [hch]; rfl
     ·show g.mv.2.map (·.2)=_; rw [hg.mv,om.mv]
     ·rw [hg.bg,om.bg]
     ·rw [hg.old,om.old, ← stG_append]; rfl
     ·rw [hg.fresh,i.lk.la]
    have hu:=i.lk.u.snoc gm
    have hE:(M.keep q a).E=M.E:=by rw [Mo.E_shut rfl,Mo.keep_C hm]
    refine ⟨⟨i.ok.keep hm,?_,?_,?_,trivial,i.lk.ms,i.lk.ws,?_,i.lk.sv,?_,i.lk.dp,i1.lk.A⟩,⟨rfl,rfl,rfl,rfl,rfl⟩⟩
    ·rw [hE]; exact i.lk.E
    ·show Chain X.T.enc (playG M.E0 (M.keep q a).lost) (stG 0 (M.keep q a).lost) (putU X g) (M.keep q a).done
     unfold putU Mo.keep
     dsimp only
     rw [i.lk.dp,hul]
     split
     ·revert hu
      cases hx:X.U.2++[g] with
      | nil=>intro hu; simp at hx
      | cons g0 gs=>
       cases hy:M.done++[(⟨q.chs,q.bg,a,M.last+1⟩:GM)] with
       | nil=>simp at hy
       | cons m0 ms=>
        intro hu
        cases hu with
        | cons c1 c2=>
         show Chain X.T.enc (playG M.E0 (M.lost++[m0])) (stG 0 (M.lost++[m0])) gs ms
         rw [playG_snoc,stG_snoc]; exact c2
     ·exact hu
    ·show Chain X.T.enc _ _ [] []
     exact .nil _ _
    ·rw [Mo.keep_st, ← i.lk.la]
    ·show X.last+1=M.last+1; rw [i.lk.la]
end Go.Sw.Hist

set_option linter.unusedVariables false
set_option linter.unusedSimpArgs false
set_option maxRecDepth 100000
namespace Go.Sw.Hist
open Go.Sw.Any Go.Sw.Codec Go.Sw.Piece
variable {P:Program} {S:Ids} {h:Heap} {Q:Nat→List Value→Heap→Prop} {n k:Nat} {rho:Nat→Nat} {X:Bk}
theorem NowR.re {enc:Int} {M M':Mo} (hC:M'.C=M.C) (hs:M'.st=M.st):∀ {a:Option Opn} {b:Option NowM},NowR enc M a b→NowR enc M' a b
 | none,none,_=>trivial
 | some o,some q,h=>⟨by rw [hC]; exact h.eb,h.mv,h.bg,by rw [hs]; exact h.old,h.ch,h.ms,h.ws⟩
def Mo.dropR (M:Mo):Int×Int×Mo:=match M.now with
 | none=>(0,71,M)
 | some q=>(q.bg,0,{ M with now:=none,marks:=q.om,watched:=q.ow })
theorem v_Drop (C:ClH P S) {M:Mo} {N:Nat} (r:BookR S n h rho k X) (i:Inv X M N) :
  wp P (F_Book_Drop S (some X.b)) h fun tg vs h'=>tg=0∧vs=[i64v M.dropR.1,i64v M.dropR.2.1]∧BPost S n k X h rho h' M.dropR.2.2 N:=by
 cases hn:X.now with
 | none=>
  have hm:=i.noneM hn
  refine wp_mono _ (fun tg vs h' ⟨h1,h2,h3⟩=>?_) (c_DropShut r hn)
  unfold Mo.dropR
  rw [hm,h3]
  exact ⟨h1,h2,BPost.ext r i (Ext.refl _)⟩
 | some o=>
  obtain ⟨q,hm,om⟩:=i.someM hn
  refine wp_mono _ (fun tg vs h' ⟨h1,h2,rho',T',st,r',nx,hcur,hA⟩=>?_) (c_Drop C (o:=o) r hn)
  unfold Mo.dropR
  rw [hm]
  refine ⟨h1,by rw [h2,om.bg],rho',_,st,r',?_,⟨rfl,nx.p,nx.enc,nx.limit,rfl⟩⟩
  have e1:T'.enc=X.T.enc:=nx.enc
  have e2:T'.limit=X.T.limit:=nx.limit
  refine ⟨by show MoOk T'.enc T'.limit _ _; rw [e1,e2]; exact i.ok.drop hm,?_⟩
  refine ⟨?_,?_,?_,trivial,om.ms,om.ws,i.lk.st,i.lk.sv,i.lk.la,i.lk.dp,?_⟩
  ·show els T'.enc T'.cur.ps=_
   rw [e1,hcur]; exact om.eb
  ·show Chain T'.enc _ _ _ _; rw [e1]; exact i.lk.u
  ·show Chain T'.enc _ _ _ _; rw [e1]; exact i.lk.r
  ·show T'.A.length≤_; rw [hA]; exact i.lk.A
def lastG:List GM→Option (List GM×GM)
 | []=>none
 | [g]=>some ([],g)
 | g::l=>(lastG l).map fun x=>(g::x.1,x.2)
theorem lastG_snoc:∀ (ds:List GM) (g:GM),lastG (ds++[g])=some (ds,g)
 | [],g=>rfl
 | x::ds,g=>by
  have:=lastG_snoc ds g
  cases ds with
  | nil=>rfl
  | cons y ds=>
   show (lastG (y::ds++[g])).map _=_
   rw [this]; rfl
theorem lastG_cases (l:List GM):l=[]∨∃ ds g,l=ds++[g]∧lastG l=some (ds,g):=by
 rcases List.eq_nil_or_concat l with h | ⟨ds,g,h⟩
 ·exact .inl h
 ·rw [List.concat_eq_append] at h
  exact .inr ⟨ds,g,h,by rw [h,lastG_snoc]⟩
def Mo.undoR (M:Mo):Int×Int×Mo:=if M.now.isSome then (0,70,M) else match lastG M.done with
 | none=>(0,72,M)
 | some (ds,g)=>(g.bg,0,M.back ds g)
theorem chs_le {M:Mo} {N:Nat} {g:GM} (hs:M.sz≤N) (hg:g∈M.all):g.chs.length≤N:=by
 have:=sum_mem_le (fun g:GM=>g.chs.length) hg
 unfold Mo.sz at hs
 omega
theorem v_Undo {M:Mo} {N:Nat} (r:BookR S n h rho k X) (i:Inv X M N) (hN:N≤68719476736) :
  wp P (F_Book_Undo S (some X.b)) h fun tg vs h'=>tg=0∧vs=[i64v M.undoR.1,i64v M.undoR.2.1]∧BPost S n k X h rho h' M.undoR.2.2 N:=by
 cases hn:X.now with
 | some o=>
  obtain ⟨q,hm,_⟩:=i.someM hn
  refine wp_mono _ (fun tg vs h' ⟨h1,h2,h3⟩=>?_) (c_UndoOpen r hn)
  unfold Mo.undoR
  rw [hm,if_pos (show (some q).isSome=true from rfl),h3]
  exact ⟨h1,h2,BPost.ext r i (Ext.refl _)⟩
 | none=>
  have hm:=i.noneM hn
  rcases lastG_cases M.done with hd | ⟨ds,g,hd,hl⟩
  ·have hU:X.U.2=[]:=List.eq_nil_of_length_eq_zero (by rw [i.lk.u.len,hd]; rfl)
   refine wp_mono _ (fun tg vs h' ⟨h1,h2,h3⟩=>?_) (c_UndoOld r hn hU)
   unfold Mo.undoR
   rw [hm,if_neg (by decide),hd,h3]
   exact ⟨h1,h2,BPost.ext r i (Ext.refl _)⟩
  ·have hu:=i.lk.u
   rw [hd] at hu
   obtain ⟨us,x,hU,c1,gm⟩:=hu.un
   rw [← playG_append, ← stG_append] at gm
   have hg:g∈M.all:=by unfold Mo.all; rw [hd]; simp
   have hla:M.last.toNat≤N:=by have:=i.ok.sz; unfold Mo.sz at this; omega
   have hdl:=done_le i.ok
   have hnl:=next_le i.ok
   have hrl:=i.lk.r.len
   rw [List.length_reverse] at hrl
   have hgl:=chs_le i.ok.sz hg
   have hul:us.length≤M.done.length:=by have:=c1.len; rw [this,hd]; simp
   have hmvs:mvs x=g.chs.map mvC':=gm.mv
   have hml:x.mv.2.length=g.chs.length:=by have:=congrArg List.length hmvs; simpa using this
   have hmch:=i.ok.mchU hm hd
   rw [← hmvs] at hmch
   refine wp_mono _ (fun tg vs h' ⟨h1,h2,rho',T',u,q,st,r',nx,hcur,hA⟩=>?_) (c_Undo r hn hU hmch i.msX (by omega) (by omega) (by omega))
   unfold Mo.undoR
   rw [hm,if_neg (by decide),hl]
   refine ⟨h1,by rw [h2,gm.bg],rho',_,st,r',?_,⟨rfl,nx.p,nx.enc,nx.limit,rfl⟩⟩
   have e1:T'.enc=X.T.enc:=nx.enc
   have e2:T'.limit=X.T.limit:=nx.limit
   refine ⟨by show MoOk T'.enc T'.limit _ _; rw [e1,e2]; exact i.ok.back hm hd,?_⟩
   refine ⟨?_,?_,?_,?_,?_,?_,?_,i.lk.sv,i.lk.la,i.lk.dp,?_⟩
   ·show els T'.enc T'.cur.ps=(M.back ds g).E
    rw [e1,hcur,Mo.back_E hm]; exact gm.eb
   ·show Chain T'.enc _ _ us ds; rw [e1]; exact c1
   ·show Chain T'.enc _ _ (X.R.2++[x]).reverse (g::M.next)
    rw [e1,List.reverse_append]
    refine .cons ?_ ?_
    ·exact gm
    ·rw [Mo.back_C, ← Mo.C_last hd]
     have:M.st=g.st:=by unfold Mo.st; rw [hd, ← List.append_assoc,stG_snoc]
     rw [← this]; exact i.lk.r
   ·show NowR _ _ X.now M.now; rw [hn,hm]; trivial
   ·show ((undoM (mvs x) X.ms).map kv).Perm (undoP (g.chs.map mvC') M.marks)
    rw [kv_undo,hmvs]; exact perm_undo _ i.lk.ms
   ·show undoW (mvs x) X.ws=undoW (g.chs.map mvC') M.watched
    rw [hmvs,i.lk.ws]
   ·exact gm.old
   ·show T'.A.length≤_; rw [hA]; exact i.lk.A
open Classical in
noncomputable def Mo.setR (M:Mo) (name a:Int):Int×Mo:=if isN name then if M.ins a then (0,{ M with marks:=putP name a M.marks }) else (2,M) else (74,M)
theorem put_perm {name a:Int}:∀ {l:MkL},(l.Pairwise fun x y=>x.1<y.1)→(putP name a l).Perm ((name,a)::l.filter fun e=>decide (e.1≠name))
 | [],_=>List.Perm.refl _
 | x::l,h=>by
  obtain ⟨h1,h2⟩:=List.pairwise_cons.1 h
  have keep:(∀ e∈l,e.1≠name)→l.filter (fun e=>decide (e.1≠name))=l:=fun hk=>List.filter_eq_self.2 fun e he=>decide_eq_true (hk e he)
  unfold putP
  by_cases c1:x.1<name
  ·rw [if_pos c1,List.filter_cons_of_pos (by simp; omega)]
   exact ((put_perm h2).cons x).trans (List.Perm.swap _ _ _)
  ·rw [if_neg c1]
   by_cases c2:x.1=name
   ·rw [if_pos c2,List.filter_cons_of_neg (by simp [c2]),keep fun e he=>by have:=h1 e he; omega]
   ·rw [if_neg c2,List.filter_cons_of_pos (by simp [c2]),keep fun e he=>by have:=h1 e he; omega]
theorem mset_kv {name a:Int}:∀ {l:Ents},(l.map (·.1)).Nodup→name∈l.map (·.1)→((mset name a l).map kv).Perm ((name,a)::(l.map kv).filter fun e=>decide (e.1≠name))
 | [],_,h=>by cases h
 | x::l,hn,h=>by
  simp only [List.map_cons,List.nodup_cons] at hn
  simp only [mset,List.map_cons]
  by_cases c:x.1=name
  ·rw [if_pos c,List.map_cons,List.filter_cons_of_neg (by simp [kv,c])]
   have:(l.map kv).filter (fun e=>decide (e.1≠name))=l.map kv:=List.filter_eq_self.2 fun e he=>by
    obtain ⟨y,hy,rfl⟩:=List.mem_map.1 he
    refine decide_eq_true fun e=>hn.1 ?_
    rw [c, ← e]; exact List.mem_map_of_mem (f:=(·.1)) hy
   rw [this, ← c]
  ·rw [if_neg c,List.map_cons,List.filter_cons_of_pos (by simp [kv,c])]
   have hm:name∈l.map (·.1):=by
    rcases List.mem_cons.1 h with h | h
    ·exact absurd h.symm c
    ·exact h
   exact ((mset_kv hn.2 hm).cons (kv x)).trans (List.Perm.swap _ _ _)
theorem mput_kv {name a:Int} {l:Ents} {c:Nat} (hn:(l.map (·.1)).Nodup):((mputL name a l c).map kv).Perm ((name,a)::(l.map kv).filter fun e=>decide (e.1≠name)):=by
 unfold mputL
 cases hm:mfind name l with
 | some v=>
  rw [if_pos (show (some v).isSome=true from rfl)]
  obtain ⟨b,hb⟩:=(mfind_some hn).1 hm
  exact mset_kv hn (List.mem_map_of_mem (f:=(·.1)) hb)
 | none=>
  rw [if_neg (by decide)]
  have h1:=mfind_none.1 hm
  have:(l.map kv).filter (fun e=>decide (e.1≠name))=l.map kv:=List.filter_eq_self.2 fun e he=>by
   obtain ⟨y,hy,rfl⟩:=List.mem_map.1 he
   exact decide_eq_true fun e=>h1 (by rw [← e]; exact List.mem_map_of_mem (f:=(·.1)) hy)
  rw [this,List.map_append]
  exact List.perm_append_comm
theorem v_SetMark {M:Mo} {N:Nat} {name a:Int} (r:BookR S n h rho k X) (i:Inv X M N) (hfn:fitsI .i64 name) (hfa:fitsI .i64 a) :
  wp P (F_Book_SetMark S (some X.b) name a) h fun tg vs h'=>tg=0∧vs=[i64v (M.setR name a).1]∧BPost S n k X h rho h' (M.setR name a).2 (N+1):=by
 have i1:=i.mono (N':=N+1) (Nat.le_succ _)
 have r0:=r.zr (Ext.refl h)
 have hz0:StepR k h rho h (Hist.zr h rho):=StepR.ofExt (Ext.refl h)
 refine wp_mono _ (fun tg vs h' ⟨h1,h2⟩=>⟨h1,?_⟩) (c_SetMark (name:=name) (at_:=a) r0 hfn hfa)
 unfold Mo.setR
 rcases h2 with ⟨h2,h3,h4⟩ | ⟨h2,h5,h3,h4⟩ | ⟨h2,h5,h3,h4,c,h6,r'⟩
 ·rw [if_neg h2]; exact ⟨h3,BPost.ext r i1 h4⟩
 ·rw [i.lk.E] at h5
  have h5:¬ M.ins a:=h5
  rw [if_pos h2,if_neg h5]; exact ⟨h3,BPost.ext r i1 h4⟩
 ·rw [i.lk.E] at h5
  have h5:M.ins a:=h5
  rw [if_pos h2,if_pos h5]
  refine ⟨h3,_,_,hz0.trans (StepR.of h4 (fun j hj e=>?_) fun j hj _=>zr_new hj),r',⟨i.ok.setMark h2 h5,i.lk.E,i.lk.u,i.lk.r,NowR.re (by exact rfl) (by exact rfl) i.lk.now,?_,i.lk.ws,i.lk.st,i.lk.sv,i.lk.la,i.lk.dp,i1.lk.A⟩,⟨rfl,rfl,rfl,rfl,rfl⟩⟩
  ·rw [e,r0.rm]; omega
  ·obtain ⟨c',mo⟩:=r.mp.ok
   refine (mput_kv mo.keys).trans (List.Perm.trans ?_ (put_perm i.ok.so).symm)
   exact (i.lk.ms.filter _).cons _
instance (M:Mo) (l:List Int):Decidable (∀ v∈l,M.ins v):=inferInstance
def Mo.watchR (M:Mo) (l:List Int):Int×Mo:=if ∀ v∈l,M.ins v then (0,{ M with watched:=l }) else (2,M)
theorem v_Watch {M:Mo} {N:Nat} {s:Sl} {l:List Int} (r:BookR S n h rho k X) (i:Inv X M N) (hs:Lst .i64 h s l) (hl:l.length≤1099511627776) :
  wp P (F_Book_Watch S (some X.b) s) h fun tg vs h'=>tg=0∧vs=[i64v (M.watchR l).1]∧BPost S n k X h rho h' (M.watchR l).2 (N+l.length):=by
 have i1:=i.mono (N':=N+l.length) (Nat.le_add_right _ _)
 refine wp_mono _ (fun tg vs h' ⟨h1,h2⟩=>⟨h1,?_⟩) (c_Watch r hs hl)
 unfold Mo.watchR
 have he:(∀ v∈l,insideB X v)↔∀ v∈l,M.ins v:=forall_congr' fun v=>forall_congr' fun _=>i.ins v
 rw [he] at h2
 rcases h2 with ⟨h2,h3,h4⟩ | ⟨h2,h3,h4,rho',w',st,r'⟩
 ·rw [if_neg h2]; exact ⟨h3,BPost.ext r i1 h4⟩
 ·rw [if_pos h2]
  exact ⟨h3,rho',_,st,r',⟨i.ok.watch h2,i.lk.E,i.lk.u,i.lk.r,NowR.re (by exact rfl) (by exact rfl) i.lk.now,i.lk.ms,rfl,i.lk.st,i.lk.sv,i.lk.la,i.lk.dp,i1.lk.A⟩,⟨rfl,rfl,rfl,rfl,rfl⟩⟩
theorem v_Depth {M:Mo} {N:Nat} (r:BookR S n h rho k X) (i:Inv X M N):Gives P (F_Book_Depth S (some X.b)) [.one (.int .i64), .one (.int .i64)] h fun (y:Int×Int×Unit) _=>y.1=M.done.length∧y.2.1=M.next.length:=by
 refine (c_Depth r).mono fun y h' e hy=>?_
 have h1:=i.lk.u.len
 have h2:=i.lk.r.len
 rw [List.length_reverse] at h2
 rw [h1,h2] at hy
 exact hy
def Mo.dirty (M:Mo):Bool:=decide (M.st≠M.saved) || (M.now.map fun q=>effC q.chs).getD false
theorem v_Dirty {M:Mo} {N:Nat} (r:BookR S n h rho k X) (i:Inv X M N):Gives P (F_Book_Dirty S (some X.b)) [.one .bool] h fun (y:Bool×Unit) _=>y.1=M.dirty:=by
 refine (c_Dirty r).mono fun y h' e hy=>?_
 rw [hy]
 unfold dirtyB Mo.dirty
 rw [i.lk.st,i.lk.sv]
 congr 1
 cases hn:X.now with
 | none=>rw [i.noneM hn]; rfl
 | some o=>obtain ⟨q,hm,om⟩:=i.someM hn; rw [hm]; exact om.ch
theorem v_IsOpen {M:Mo} {N:Nat} (r:BookR S n h rho k X) (i:Inv X M N):Gives P (F_Book_IsOpen S (some X.b)) [.one .bool] h fun (y:Bool×Unit) _=>y.1=M.now.isSome:=by
 refine (c_IsOpen r).mono fun y h' e hy=>?_
 rw [hy]
 cases hn:X.now with
 | none=>rw [i.noneM hn]; rfl
 | some o=>obtain ⟨q,hm,om⟩:=i.someM hn; rw [hm]; rfl
theorem v_Watched {M:Mo} {N:Nat} (r:BookR S n h rho k X) (i:Inv X M N) (hN:N≤68719476736):Gives P (F_Book_Watched S (some X.b)) [.one .sl] h fun (y:Sl×Unit) h'=>OwnL h.size .i64 h' y.1 M.watched:=by
 refine (c_Watched r (by have:=i.wsl; omega)).mono fun y h' e hy=>?_
 rw [← i.lk.ws]; exact hy
end Go.Sw.Hist

set_option linter.unusedVariables false
set_option linter.unusedSimpArgs false
set_option maxRecDepth 100000
namespace Go.Sw.Hist
open Go.Sw.Any Go.Sw.Codec Go.Sw.Piece
variable {P:Program} {S:Ids} {h:Heap} {Q:Nat→List Value→Heap→Prop} {n k:Nat} {rho:Nat→Nat} {X:Bk}
theorem ok_ints {w:Sl} {l:List Int} (o:Lst .i64 h w l):(Sh.list (.int .i64)).ok h ((w,l):Sl×List Int):=by
 refine ⟨o.len,o.cap,o.max,fun i y hi=>?_⟩
 obtain ⟨a,ha,hc⟩:=o.rd.2 i (.int .i64 y) (by rw [List.getElem?_map,hi]; rfl)
 refine ⟨a,ha,cells_iff.2 fun j v hj=>?_,o.wf y (List.mem_of_getElem? hi)⟩
 cases j with
 | zero=>
  simp [Sh.cells] at hj; subst hj
  simpa [Sh.size,add_zero'] using hc
 | succ j=>simp [Sh.cells] at hj
theorem ok_edit {m:Nat} {w:Sl} {l:List Int} {a2:Addr} {f t:Int} (ow:Lst .i64 h w l) (o2:Own m 1 h ⟨some a2,3,3⟩ [i64v f,i64v t,slv w]) (hf:fitsI .i64 f) (ht:fitsI .i64 t) :
  (Sh.list EdSh).ok h (⟨some a2,1,1⟩,[((f,t,(w,l),()):EdD)]):=by
 refine ⟨rfl,Nat.le_refl _,(by decide:1<2 ^ 63),fun i y hi=>?_⟩
 have hlt:=(List.getElem?_eq_some_iff.1 hi).1
 simp at hlt
 subst hlt
 simp at hi
 subst hi
 refine ⟨a2,rfl,cells_iff.2 fun j v hj=>?_,⟨hf,ht,ok_ints ow,trivial⟩⟩
 rw [Nat.zero_mul,add_zero']
 refine cells_iff.1 o2.cells j v ?_
 match j,hj with
 | 0,hj=>exact hj
 | 1,hj=>exact hj
 | 2,hj=>exact hj
 | j+3,hj=>simp [Sh.cells] at hj
theorem s_ckSh {e:Sh} {x:Sl×List e.den} {y:e.den} {vs:List Value} {j:Int} {m:Nat} {K:Prog} (o:(Sh.list e).ok h x) (h0:0≤j) (hj:x.2[j.toNat]? = some y) (hm:m=e.size) (hz:vs=e.cells y) (hk:wp P K h Q) :
  wp P (.check (shiftTo x.1.base (mulN (toN j) m)) vs K) h Q:=by
 obtain ⟨o1,o2,o3,o4⟩:=o
 obtain ⟨a,ea,c,_⟩:=o4 _ _ hj
 refine ⟨⟨a.add (j.toNat*e.size),by rw [ea,hm]; rfl,by rw [hz]; exact c⟩,hk⟩
theorem c_num7 {a:Int}:Gives P (F_law7_num S a) [.one (.int .i64)] h fun (y:Int×Unit) _=>y.1=a:=by
 unfold F_law7_num Gives
 exact s_ret ⟨rfl,Ext.refl _,(a,()),rfl,rfl⟩
theorem s_change1 (Me:Meth0 P S) {M:Mo} {N m:Nat} {q:NowM} {f t:Int} {w:Sl} {l:List Int} (r:BookR S n h rho k X) (i:Inv X M N) (hm:M.now=some q) (ow:OwnL m .i64 h w l) (hw:∀ a,w.base=some a→rho a.block≤k∨k+10<rho a.block)
  (hok:Okay X.T.enc X.T.limit M.E [((f,t,(w,l),()):EdD)]) (hN:N+1+l.length≤68719476736) {K:Int×Unit→Prog}
  (hk:∀ h' rho' X',StepR k h rho h' rho'→BookR S n h' rho' k X'→Inv X' (M.chg q [(f,t,(w,l),())]) (N+1+l.length)→Sm X X'→wp P (K (0,())) h' Q) :
  wp P (.alloc [i64v f,i64v t,slv w] fun a=>.call (F_Book_Change S (some X.b) ⟨some a,1,1⟩) [.one (.int .i64)] K) h Q:=by
 refine fun elem=>?_
 have e1:Ext h (h.push (.cells [i64v f,i64v t,slv w].toArray elem)):=Ext.push ..
 have o1:Own h.size 1 (h.push (.cells [i64v f,i64v t,slv w].toArray elem)) ⟨some ⟨h.size,0,none⟩,3,3⟩ [i64v f,i64v t,slv w]:=own_alloc rfl (by decide) (by decide)
 generalize h.push (.cells [i64v f,i64v t,slv w].toArray elem)=h1 at e1 o1 ⊢
 have st1:=StepR.ofExt (k:=k) (rho:=rho) e1
 have r1:=r.zr e1
 have ow1:=(Chg.of_ext (F:=fun _=>False) e1).ownL ow fun _ _ x=>x
 have hlen:=i.ok.len
 obtain ⟨p1,p2,p3,_⟩:=hok.1
 have p1:0≤f:=p1
 have p2:f≤t:=p2
 have p3:t≤M.E.length:=p3
 have hputs:putsOf [((f,t,(w,l),()):EdD)]=l:=by simp [putsOf]
 have hzw:∀ a,w.base=some a→Hist.zr h rho a.block≤k∨k+10<Hist.zr h rho a.block:=fun a ha=>by
  rw [zr_old (ow.own.lt ha).2]; exact hw a ha
 refine wp_callW (v_Change Me (x:=(⟨some ⟨h.size,0,none⟩,1,1⟩,[(f,t,(w,l),())])) r1 i hm (fun h' c=>?_) (fun e he hne a ha=>?_) (by rw [hputs]; exact hN)) fun tg vs h2 hx=>?_
 ·refine ok_edit (c.ownL ow1 fun a ha hf=>by have:=hzw a ha; omega).lst (c.own o1 fun a ha hf=>?_) (fits_i64.2 (by omega)) (fits_i64.2 (by omega))
  cases ha
  have h0:Hist.zr h rho h.size=0:=zr_new (Nat.le_refl _)
  dsimp only at hf
  omega
 ·rw [List.mem_singleton.1 he] at ha
  exact hzw a ha
 ·obtain ⟨rfl,e,rfl,_,he,rho',X',st,r',i',sm⟩:=hx
  have h0:e=0:=he.2 ⟨by show 1≤70000; decide,hok⟩
  subst h0
  rw [if_pos rfl,hputs] at i'
  exact ⟨rfl,(0,()),rfl,hk h2 rho' X' (st1.trans st) r' i' sm⟩
theorem lett_fits {enc:Int} (he:known enc) (a:Int):0<sizeF enc (lett a):=by
 have:=lett_in a
 rw [fits_iff]
 unfold known at he
 omega
def cutE (E:List El) (c:EdD):EdD:=(slotF c.1 E.length,slotF c.1 E.length+slotF c.2.1 (min 3 (E.length-slotF c.1 E.length)),(⟨none,0,0⟩,c.2.2.1.2.map lett),())
def cutC:List El→List EdD→List (List EdD)
 | _,[]=>[]
 | E,c::cs=>[cutE E c]::cutC (allE E [cutE E c]) cs
theorem cutC_snoc (c:EdD):∀ (l:List EdD) (E:List El),cutC E (l++[c])=cutC E l++[[cutE (playC E (cutC E l)) c]]
 | [],E=>rfl
 | d::l,E=>by show [cutE E d]::cutC _ (l++[c])=_; rw [cutC_snoc c l]; rfl
theorem cut_okay {enc limit:Int} {E:List El} {c:EdD} (he:known enc) (hb:(blen enc E:Int)+4*c.2.2.1.2.length≤limit):Okay enc limit E [cutE E c]∧blen enc (allE E [cutE E c])≤blen enc E+4*c.2.2.1.2.length:=by
 have h1:=slot_in (i:=c.1) (n:=E.length) (by omega)
 have h2:=slot_in (i:=c.2.1) (n:=min 3 (E.length-slotF c.1 E.length)) (by omega)
 have hf:fitsE enc (c.2.2.1.2.map lett):=fun a ha=>by
  obtain ⟨x,_,rfl⟩:=List.mem_map.1 ha
  exact lett_fits he x
 have hb2:=blen_one (E:=E) (e:=cutE E c) hf h1.1 (by show slotF c.1 E.length≤slotF c.1 E.length+_; omega)
 have hl:(cutE E c).2.2.1.2.length=c.2.2.1.2.length:=by simp [cutE]
 rw [hl] at hb2
 have ha:allE E [cutE E c]=one1 E (cutE E c):=rfl
 refine ⟨⟨⟨h1.1,?_,?_,trivial⟩,?_,?_⟩,hb2⟩
 ·show slotF c.1 E.length≤slotF c.1 E.length+_; omega
 ·show slotF c.1 E.length+slotF c.2.1 (min 3 (E.length-slotF c.1 E.length))≤_; omega
 ·have:putsOf [cutE E c]=c.2.2.1.2.map lett:=by simp [putsOf,cutE]
  rw [this]; exact hf
 ·rw [ha]; omega
theorem cut_ok {enc limit:Int} (he:known enc):∀ {l:List EdD} {E:List El},(blen enc E:Int)+4*(putsOf l).length≤limit→OkC enc limit E (cutC E l)∧blen enc (playC E (cutC E l))≤blen enc E+4*(putsOf l).length
 | [],E,_=>⟨trivial,Nat.le_add_right _ _⟩
 | c::l,E,hb=>by
  have hp:(putsOf (c::l)).length=c.2.2.1.2.length+(putsOf l).length:=by simp [putsOf]
  rw [hp] at hb ⊢
  push_cast at hb
  obtain ⟨h1,h2⟩:=cut_okay (enc:=enc) (limit:=limit) (E:=E) (c:=c) he (by omega)
  obtain ⟨h3,h4⟩:=cut_ok (l:=l) (E:=allE E [cutE E c]) (limit:=limit) he (by omega)
  refine ⟨⟨by show 1≤70000; decide,h1,h3⟩,?_⟩
  show blen enc (playC (allE E [cutE E c]) (cutC _ l))≤_
  omega
theorem cut_eff:∀ {l:List EdD} {E:List El},(∃ c∈l,c.2.2.1.2≠[])→effC (cutC E l)=true
 | [],_,⟨c,hc,_⟩=>by cases hc
 | d::l,E,⟨c,hc,hn⟩=>by
  show (([cutE E d]).any effE || effC (cutC _ l))=true
  rcases List.mem_cons.1 hc with rfl | hc
  ·have:0<c.2.2.1.2.length:=List.length_pos_iff.2 hn
   have:effE (cutE E c)=true:=by unfold effE; simp [cutE,this]
   simp [this]
  ·rw [cut_eff ⟨c,hc,hn⟩]; simp
def Mo.mid (M:Mo) (cs:List (List EdD)) (bg:Int):Mo:={ M with now:=some ⟨cs,bg,M.marks,M.watched⟩,marks:=redoP (cs.map mvC') M.marks,watched:=redoW (cs.map mvC') M.watched }
def Mo.grp (M:Mo) (cs:List (List EdD)) (bg en:Int):Mo:=if effC cs then (M.mid cs bg).keep ⟨cs,bg,M.marks,M.watched⟩ en else { M.mid cs bg with now:=none }
theorem redoP_snoc (l:List (List MvD)) (m:List MvD) (ms:MkL):redoP (l++[m]) ms=folP m (redoP l ms):=by simp [redoP]
theorem redoW_snoc (l:List (List MvD)) (m:List MvD) (ms:List Int):redoW (l++[m]) ms=folW m (redoW l ms):=by simp [redoW]
theorem Mo.mid_chg (M:Mo) (cs:List (List EdD)) (bg:Int) (es:List EdD):(M.mid cs bg).chg ⟨cs,bg,M.marks,M.watched⟩ es=M.mid (cs++[es.map strip]) bg:=by
 unfold Mo.chg Mo.mid
 simp only [List.map_append,List.map_singleton,redoP_snoc,redoW_snoc,strip_mv]
end Go.Sw.Hist

set_option linter.unusedVariables false
set_option linter.unusedSimpArgs false
set_option maxRecDepth 100000
namespace Go.Sw.Hist
open Go.Sw.Any Go.Sw.Codec Go.Sw.Piece
variable {P:Program} {S:Ids} {h:Heap} {Q:Nat→List Value→Heap→Prop} {n k:Nat} {rho:Nat→Nat} {X:Bk}
theorem v_Len {M:Mo} {N:Nat} (r:BookR S n h rho k X) (i:Inv X M N):Gives P (F_Text_Len S (some X.T.p)) [.one (.int .i64)] h fun (y:Int×Unit) _=>y.1=M.E.length:=
 (c_Len r.t).mono fun y h' e hy=>by rw [hy,i.lk.E]
theorem putsOf_cons (c:EdD) (l:List EdD):(putsOf (c::l)).length=c.2.2.1.2.length+(putsOf l).length:=by simp [putsOf]
theorem putsOf_snoc (c:EdD) (l:List EdD):(putsOf (l++[c])).length=(putsOf l).length+c.2.2.1.2.length:=by simp [putsOf]
theorem c_group (Me:Meth0 P S) (C:ClH P S) {M:Mo} {N:Nat} {x:Eds} {at_:Int} (r:BookR S n h rho k X) (i:Inv X M N) (hn:M.now=none) (hx:∀ h',Chg (fun i=>k<rho i∧rho i≤k+10) h h'→(Sh.list EdSh).ok h' x)
  (hw:(blen X.T.enc M.E:Int)+4*(putsOf x.2).length≤X.T.limit) (hN:N+x.2.length+(putsOf x.2).length+1≤68719476736) :
  wp P (F_law7_group S (some X.b) x.1 at_) h fun tg vs h'=>tg=0∧vs=[.bool true]∧∃ bg en,BPost S n k X h rho h' (M.grp (cutC M.C x.2) bg en) (N+x.2.length+(putsOf x.2).length+1):=by
 unfold F_law7_group
 have hE:=Mo.E_shut hn
 have hlen:=i.ok.len
 have hok:=hx h (Chg.refl _ _)
 have hxl:=hok.len
 have hxm:x.2.length<2 ^ 63:=by have:=hok.2.1; have:=hok.2.2.1; omega
 refine wp_call (c_BText r) fun ⟨(p:Option Addr),_⟩ h1 e1 hp=>?_
 have hp:p=some X.T.p:=hp
 subst hp
 dsimp only
 have st1:=StepR.ofExt (k:=k) (rho:=rho) e1
 have r1:=r.zr e1
 refine wp_call (v_Len r1 i) fun ⟨(L:Int),_⟩ h2 e2 hL=>?_
 have hL:L=M.E.length:=hL
 subst hL
 dsimp only
 have st2:=st1.trans (StepR.ofExt e2)
 have r2:=r1.zr e2
 refine wp_call (c_slot (i:=at_) (n:=M.E.length) (by omega) (by omega)) fun ⟨(bg:Int),_⟩ h3 e3 hbg=>?_
 have hbg:bg=slotF at_ M.E.length:=hbg
 subst hbg
 dsimp only
 have st3:=st2.trans (StepR.ofExt e3)
 have r3:=r2.zr e3
 have hin:=slot_in (i:=at_) (n:=M.E.length) (by omega)
 refine wp_callW (v_Begin (a:=slotF at_ M.E.length) r3 i (by omega)) fun tg vs h4 hq=>?_
 obtain ⟨rfl,rfl,rho4,X4,st4,r4,i4,sm4⟩:=hq
 have hb:M.beginR (slotF at_ M.E.length)=(0,M.mid [] (slotF at_ M.E.length)):=by
  unfold Mo.beginR
  rw [hn,if_neg (by decide),if_pos (show M.ins (slotF at_ M.E.length) from hin)]
  rfl
 rw [hb] at i4 ⊢
 have st4:=st3.trans st4
 clear r1 r2 r3 st1 st2 st3
 refine ⟨rfl,(0,()),rfl,?_⟩
 refine wp_call (c_num7) fun ⟨(y:Int),_⟩ h5 e5 hy=>?_
 have hy:y=0:=hy
 subst hy
 refine wp_ifB (fun hc=>by cases hc) fun _=>?_
 have st5:=st4.trans (StepR.ofExt e5)
 have r5:=r4.zr e5
 generalize hbg:slotF at_ M.E.length=bg at i4 ⊢
 have hnl:natI x.1.len=(x.2.length:Int):=by rw [natI_def,hxl]
 rw [hnl]
 refine wp_while (fun (s:Int×Unit) h'=>∃ j:Nat,s.1=j∧j≤x.2.length∧∃ rho' X',StepR k h rho h' rho'∧BookR S n h' rho' k X'∧Inv X' (M.mid (cutC M.C (x.2.take j)) bg) (N+j+(putsOf (x.2.take j)).length)∧Sm X X') (fun s _=>((x.2.length:Int)-s.1).toNat)
  (fun t vs h'=>t=2∧vs=[]∧∃ rho' X',StepR k h rho h' rho'∧BookR S n h' rho' k X'∧Inv X' (M.mid (cutC M.C x.2) bg) (N+x.2.length+(putsOf x.2).length)∧Sm X X')
  ⟨0,rfl,Nat.zero_le _,_,X4,st5,r5,by simpa [putsOf,cutC] using i4,sm4⟩ ?_ ?_
 ·rintro ⟨(s:Int),u⟩ h6 ⟨j,hs,hj,rho6,X6,st6,r6,i6,sm6⟩
  dsimp only at hs ⊢
  subst hs
  refine wp_ifB (fun hc=>?_) fun hc=>?_
  ·rw [ltI_iff] at hc
   have hjl:j<x.2.length:=by omega
   obtain ⟨c,hcj⟩:∃ c,x.2[j]? = some c:=⟨x.2[j],List.getElem?_eq_getElem hjl⟩
   have hok6:=hx h6 st6.c
   have htk:x.2.take (j+1)=x.2.take j++[c]:=by rw [List.take_add_one,hcj]; rfl
   have hple:(putsOf (x.2.take j)).length+c.2.2.1.2.length≤(putsOf x.2).length:=by
    have h1:=putsOf_le x.2 (j+1)
    rw [htk,putsOf_snoc] at h1; exact h1
   have hcut:=cut_ok (enc:=X.T.enc) (limit:=X.T.limit) i.ok.en (l:=x.2.take j) (E:=M.C) (by rw [hE] at hw; omega)
   have hE6:(M.mid (cutC M.C (x.2.take j)) bg).E=playC M.C (cutC M.C (x.2.take j)):=rfl
   generalize hEE:playC M.C (cutC M.C (x.2.take j))=E at hE6 hcut
   have l6:=i6.ok.len
   rw [hE6] at l6
   refine s_atSh (e:=EdSh) (x:=x) (y:=c) hok6 (by omega) (by simpa using hcj) rfl (z:=(c.1,c.2.1,c.2.2.1.1,())) rfl ?_
   dsimp only
   rw [← sm6.p]
   refine wp_call (v_Len r6 i6) fun ⟨(L:Int),_⟩ h7 e7 hL=>?_
   have hL:L=E.length:=by rw [← hE6]; exact hL
   subst hL
   dsimp only
   refine s_ckSh (e:=EdSh) (x:=x) (y:=c) (hok6.ext e7) (by omega) (by simpa using hcj) rfl rfl ?_
   have hcl:Lst .i64 h7 c.2.2.1.1 c.2.2.1.2:=Sh.lst (Sh.ok.ext e7 (hok6.el hcj).2.2.1)
   refine wp_call (c_edit7 (c1:=c.1) (c2:=c.2.1) (n:=E.length) hcl (by omega) (by omega) (by omega)) fun ⟨⟨(f:Int),(t:Int),(w:Sl),_⟩,_⟩ h8 e8 hy=>?_
   obtain ⟨hf,ht,ow⟩:=hy
   have hf:f=slotF c.1 E.length:=hf
   have ht:t=slotF c.1 E.length+slotF c.2.1 (min 3 (E.length-slotF c.1 E.length)):=ht
   have ow:OwnL h7.size .i64 h8 w (c.2.2.1.2.map lett):=ow
   dsimp only
   have e68:=e7.trans e8
   have r8:=r6.zr e68
   have hstrip:[((f,t,(w,c.2.2.1.2.map lett),()):EdD)].map strip=[cutE E c]:=by rw [hf,ht]; rfl
   have hok8:Okay X6.T.enc X6.T.limit (M.mid (cutC M.C (x.2.take j)) bg).E [((f,t,(w,c.2.2.1.2.map lett),()):EdD)]:=by
    rw [← strip_okay,hstrip,sm6.enc,sm6.limit,hE6]
    refine (cut_okay i.ok.en ?_).1
    have h1:=hcut.2
    rw [hE] at hw
    omega
   rw [← sm6.b]
   refine s_change1 Me (q:=⟨cutC M.C (x.2.take j),bg,M.marks,M.watched⟩) r8 i6 rfl ow (fun a ha=>?_) hok8 (by rw [List.length_map]; omega) fun h9 rho9 X9 st9 r9 i9 sm9=>?_
   ·have:=(ow.own.lt ha).1
    rw [zr_new (by have:=e7.1; omega)]; omega
   rw [Mo.mid_chg,hstrip,List.length_map] at i9
   dsimp only
   refine wp_call (c_num7) fun ⟨(y:Int),_⟩ h10 e10 hy=>?_
   have hy:y=0:=hy
   subst hy
   refine wp_ifB (fun hc=>by cases hc) fun _=>?_
   rw [add_ok (by omega) (by omega)]
   refine s_ret ⟨fun _=>⟨((j:Int)+1,()),rfl,⟨j+1,by push_cast; rfl,by omega,_,X9,(((st6.trans (StepR.ofExt e68)).trans st9).trans (StepR.ofExt e10)),r9.zr e10,?_,sm6.trans sm9⟩,by dsimp only; omega⟩,fun hh=>absurd rfl hh⟩
   rw [htk,cutC_snoc,hEE,putsOf_snoc]
   exact i9.mono (by omega)
  ·rw [ltI_not] at hc
   have hj:j=x.2.length:=by omega
   subst hj
   rw [List.take_length] at i6
   exact s_ret ⟨fun hh=>absurd hh (by decide),fun _=>⟨rfl,rfl,rho6,X6,st6,r6,i6,sm6⟩⟩
 ·rintro tg vs h6 ⟨rfl,rfl,rho6,X6,st6,r6,i6,sm6⟩
  refine s_tag (s_cast0 ?_)
  have l6:=i6.ok.len
  generalize hME:(M.mid (cutC M.C x.2) bg).E.length=L at l6
  rw [← sm6.p]
  refine wp_call (v_Len r6 i6) fun ⟨(L':Int),_⟩ h7 e7 hL=>?_
  have hL:L'=L:=by rw [← hME]; exact hL
  subst hL
  dsimp only
  refine wp_call (c_slot (i:=at_) (n:=L) (by omega) (by omega)) fun ⟨(en:Int),_⟩ h8 e8 hen=>?_
  have hen:en=slotF at_ L:=hen
  have hin:=slot_in (i:=at_) (n:=L) (by omega)
  rw [← hen] at hin
  dsimp only
  have e68:=e7.trans e8
  rw [← sm6.b]
  refine wp_callW (v_End C (a:=en) (r6.zr e68) i6 (by omega)) fun tg vs h9 hq=>?_
  have hend:(M.mid (cutC M.C x.2) bg).endR en=(0,M.grp (cutC M.C x.2) bg en):=by
   show (if (M.mid (cutC M.C x.2) bg).ins en then ((0:Int),if effC (cutC M.C x.2) then (M.mid (cutC M.C x.2) bg).keep ⟨cutC M.C x.2,bg,M.marks,M.watched⟩ en else { M.mid (cutC M.C x.2) bg with now:=none }) else (2,M.mid (cutC M.C x.2) bg))=_
   rw [if_pos (by unfold Mo.ins; rw [hME]; exact hin)]
   rfl
  rw [hend] at hq
  obtain ⟨rfl,rfl,rho9,X9,st9,r9,i9,sm9⟩:=hq
  refine ⟨rfl,(0,()),rfl,wp_call (c_num7) fun ⟨(y:Int),_⟩ h10 e10 hy=>?_⟩
  have hy:y=0:=hy
  subst hy
  exact s_ret ⟨rfl,rfl,bg,en,_,X9,((st6.trans (StepR.ofExt e68)).trans st9).trans (StepR.ofExt e10),r9.zr e10,i9,sm6.trans sm9⟩
end Go.Sw.Hist

set_option linter.unusedVariables false
set_option linter.unusedSimpArgs false
set_option maxRecDepth 100000
namespace Go.Sw.Hist
open Go.Sw.Any Go.Sw.Codec Go.Sw.Piece
variable {P:Program} {S:Ids} {h:Heap} {Q:Nat→List Value→Heap→Prop} {n k:Nat} {rho:Nat→Nat} {X:Bk}
def Mo.new (E:List El) (depth:Int):Mo:={ E0:=E,depth:=depth,lost:=[],done:=[],next:=[],now:=none,marks:=[],watched:=[],saved:=0,last:=0 }
theorem new_inv {depth:Int} {T:TX} (t:TextR S n h T) (nb:NewB depth T X) (A:T.A=[]) (hb:(bytesL T.cur.ps).length≤T.limit) (hd:1≤depth∧depth≤200):Inv X (Mo.new (els T.enc T.cur.ps) depth) 0:=by
 have hT:=nb.T
 have h1:=blen_state t.cur t.enc
 have h2:=(toksL_els t.enc t.cur.bytes).2.2
 have oe:OkE T.enc T.limit (els T.enc T.cur.ps):=⟨h2,by rw [h1]; omega⟩
 have hlim:=t.lim
 refine ⟨?_,?_⟩
 ·rw [hT]
  exact ⟨t.enc,hlim,hd,oe,trivial,trivial,Int.le_refl _,fun g hg=>(by cases hg),List.Pairwise.nil,fun e he=>(by cases he),List.Pairwise.nil,Nat.le_refl _,fun v hv=>(by cases hv),Nat.le_refl _,fun q hq=>(by cases hq),Nat.le_refl _,fun k hk=>(by cases hk),fun q hq=>(by cases hq)⟩
 ·have hU:=nb.U; have hR:=nb.R
  refine ⟨by rw [hT]; rfl,?_,?_,?_,?_,nb.ws,nb.nums.1,nb.nums.2.1,nb.nums.2.2,nb.depth,by rw [hT,A]; exact Nat.zero_le _⟩
  ·rw [hU]; exact .nil _ _
  ·rw [hR]; exact .nil _ _
  ·rw [nb.now]; trivial
  ·rw [nb.ms]; exact List.Perm.refl _
theorem Book7.inv {h0:Heap} {enc depth:Int} {l:List Int} (b:Book7 S h0 h enc depth l X) (r:BookR S n h rho k X) (hl:l.length≤60000) (hd:1≤depth∧depth≤200):Inv X (Mo.new (elsF 0 0 (toks enc l)) depth) 0:=by
 have:=new_inv r.t b.new b.A (by rw [b.bytes,b.li]; omega) hd
 have e:els X.T.enc X.T.cur.ps=elsF 0 0 (toks enc l):=by rw [b.en]; exact b.el
 rw [e] at this; exact this
abbrev Edss:=Sl×List Eds
abbrev EdssSh:Sh:=.list (.list EdSh)
theorem s_ldEs {x:Edss} {y:Eds} {i:Nat} {K:Sl→Prog} (ok:EdssSh.ok h x) (hy:x.2[i]? = some y) (hk:wp P (K y.1) h Q) :
  wp P (grd (andB (someB x.1.base) (inB (i:Int) x.1.len)) <| .load (.one .sl) (shiftTo x.1.base (mulN (toN (i:Int)) 1)) K) h Q:=by
 obtain ⟨o1,o2,o3,o4⟩:=ok
 obtain ⟨a,ea,c,_⟩:=o4 i y hy
 have hlt:=(List.getElem?_eq_some_iff.1 hy).1
 refine wp_grd (andB_iff.2 ⟨by rw [ea]; rfl,inB_is.2 ⟨by omega,by omega⟩⟩) ?_
 rw [mulN_def,toN_def,Int.toNat_natCast,ea]
 exact wp_load1 (a.add (i*1)) y.1 rfl (by have:=cells_iff.1 c 0 _ rfl; rw [add_zero'] at this; exact this) hk
def szG (gs:List Eds):Nat:=(gs.map fun g=>g.2.length+(putsOf g.2).length).sum
theorem szG_take {gs:List Eds} {g:Eds} {i:Nat} (hi:gs[i]? = some g):szG (gs.take (i+1))=szG (gs.take i)+(g.2.length+(putsOf g.2).length):=by
 rw [List.take_add_one,hi]; simp [szG]
theorem szG_le (gs:List Eds) (i:Nat):szG (gs.take i)≤szG gs:=sum_take_le (fun g:Eds=>g.2.length+(putsOf g.2).length) gs i
theorem szG_mem {gs:List Eds} {g:Eds} (hg:g∈gs):g.2.length+(putsOf g.2).length≤szG gs:=sum_mem_le (fun g:Eds=>g.2.length+(putsOf g.2).length) hg
theorem szG_wt (x:Edss):szG x.2≤2*EdssSh.wt x∧x.2.length≤EdssSh.wt x:=by
 have e:EdssSh.wt x=(x.2.map (Sh.list EdSh).wt).sum+1:=rfl
 have h1:=sum_le_sum (fun y:Eds=>y.2.length) (Sh.list EdSh).wt x.2 fun y _=>(eds_wt y).1
 have h2:=sum_le_sum (fun y:Eds=>(putsOf y.2).length) (Sh.list EdSh).wt x.2 fun y _=>(eds_wt y).2.1
 have h3:szG x.2=(x.2.map fun y:Eds=>y.2.length).sum+(x.2.map fun y:Eds=>(putsOf y.2).length).sum:=by
  unfold szG
  generalize x.2=l
  induction l with
  | nil=>rfl
  | cons y l ih=>simp only [List.map_cons,List.sum_cons,ih]; omega
 have h4:x.2.length+1≤EdssSh.wt x:=Sh.wt_len (e:=Sh.list EdSh) x fun y=>by show 1≤(y.2.map EdSh.wt).sum+1; omega
 exact ⟨by omega,by omega⟩
theorem c_short {b:Sl} {l:List Int} {x:Edss} (hb:b.len=l.length) (hl:l.length<2 ^ 62) (ok:EdssSh.ok h x) (hx:szG x.2≤1073741824) (hxl:x.2.length≤1073741824) :
  Gives P (F_law7_short S b x.1) [.one .bool] h fun (y:Bool×Unit) _=>y.1=true↔l.length+szG x.2≤8000∧x.2.length≤190:=by
 unfold F_law7_short Gives
 have hlen:=ok.len
 have hn:natI x.1.len=(x.2.length:Int):=by rw [natI_def,hlen]
 rw [hn,natI_def,hb]
 refine wp_while (fun (s:Int×Int×Unit) h'=>Ext h h'∧∃ i:Nat,s.2.1=i∧i≤x.2.length∧s.1=(l.length+szG (x.2.take i):Nat)) (fun s _=>((x.2.length:Int)-s.2.1).toNat)
  (fun t vs h'=>t=2∧Ext h h'∧vs=[i64v ((l.length+szG x.2:Nat):Int)]) ⟨Ext.refl _,0,rfl,Nat.zero_le _,by simp [szG]⟩ ?_ ?_
 ·rintro ⟨(m:Int),(i':Int),u⟩ h1 ⟨e1,i,hi,hil,hm⟩
  dsimp only at hi hm ⊢
  subst hi; subst hm
  refine wp_ifB (fun hc=>?_) fun hc=>?_
  ·rw [ltI_iff] at hc
   have hlt:i<x.2.length:=by omega
   obtain ⟨g,hg⟩:∃ g,x.2[i]? = some g:=⟨x.2[i],List.getElem?_eq_getElem hlt⟩
   have ok1:=ok.ext e1
   have okg:=ok1.el hg
   have hgl:=okg.len
   have hgs:=szG_mem (List.mem_of_getElem? hg)
   have htl:=szG_le x.2 i
   refine s_ldEs ok1 hg ?_
   rw [natI_def,hgl,add_ok (by omega) (by omega)]
   refine wp_while (fun (s:Int×Int×Unit) h'=>Ext h h'∧∃ j:Nat,s.2.1=j∧j≤g.2.length∧s.1=(l.length+szG (x.2.take i)+g.2.length+(putsOf (g.2.take j)).length:Nat)) (fun s _=>((g.2.length:Int)-s.2.1).toNat)
    (fun t vs h'=>t=4∧Ext h h'∧vs=[i64v ((l.length+szG (x.2.take (i+1)):Nat):Int)]) ⟨e1,0,rfl,Nat.zero_le _,by simp [putsOf]⟩ ?_ ?_
   ·rintro ⟨(m:Int),(j':Int),u⟩ h2 ⟨e2,j,hj,hjl,hm⟩
    dsimp only at hj hm ⊢
    subst hj; subst hm
    have ok2:=ok.ext e2
    have okg2:=ok2.el hg
    refine s_ldEs ok2 hg (wp_ifB (fun hd=>s_ldEs ok2 hg ?_) fun hd=>?_)
    ·rw [ltI_iff,natI_def,hgl] at hd
     have hjt:j<g.2.length:=by omega
     obtain ⟨c,hc⟩:∃ c,g.2[j]? = some c:=⟨g.2[j],List.getElem?_eq_getElem hjt⟩
     have htk:g.2.take (j+1)=g.2.take j++[c]:=by rw [List.take_add_one,hc]; rfl
     have hple:=putsOf_le g.2 (j+1)
     rw [htk,putsOf_snoc] at hple
     have hcl:=(okg2.el hc).2.2.1.len
     refine s_fieldSh (e:=EdSh) (b:=.sl) (y:=c) (z:=c.2.2.1.1) okg2 (by omega) (by simpa using hc) rfl rfl ?_
     have hcl:c.2.2.1.1.len=c.2.2.1.2.length:=hcl
     rw [natI_def,hcl,add_ok (by omega) (by omega),add_ok (by omega) (by omega)]
     exact s_ret ⟨fun _=>⟨(_,(j:Int)+1,()),rfl,⟨e2,j+1,by push_cast; rfl,by omega,by rw [htk,putsOf_snoc]; push_cast; omega⟩,by dsimp only; omega⟩,fun hh=>absurd rfl hh⟩
    ·rw [ltI_not,natI_def,hgl] at hd
     have hj:j=g.2.length:=by omega
     subst hj
     refine s_ret ⟨fun hh=>absurd hh (by decide),fun _=>⟨rfl,e2,?_⟩⟩
     rw [szG_take hg,List.take_length]
     congr 2
     push_cast; omega
   ·rintro t vs h2 ⟨rfl,e2,rfl⟩
    refine s_tag (s_castI ?_)
    rw [add_ok (by omega) (by omega)]
    exact s_ret ⟨fun _=>⟨(_,(i:Int)+1,()),rfl,⟨e2,i+1,by push_cast; rfl,by omega,rfl⟩,by dsimp only; omega⟩,fun hh=>absurd rfl hh⟩
  ·rw [ltI_not] at hc
   have hi:i=x.2.length:=by omega
   subst hi
   refine s_ret ⟨fun hh=>absurd hh (by decide),fun _=>⟨rfl,e1,?_⟩⟩
   rw [List.take_length]
 ·rintro t vs h1 ⟨rfl,e1,rfl⟩
  refine s_tag (s_castI ?_)
  refine bind_bool (l.length+szG x.2≤8000∧x.2.length≤190) (wp_ifB (fun hc=>s_ret ⟨rfl,Ext.refl _,_,rfl,?_⟩) fun hc=>s_ret ⟨rfl,Ext.refl _,false,rfl,?_⟩) fun bb h2 e2 hbb=>s_ret ⟨rfl,e1.trans e2,(bb,()),rfl,hbb⟩
  ·rw [leI_iff] at hc
   rw [leI_iff]
   dsimp only at hc
   constructor
   ·intro h2; exact ⟨by omega,by omega⟩
   ·intro h2; omega
  ·rw [leI_not] at hc
   dsimp only at hc
   exact ⟨fun h2=>(by cases h2),fun h2=>by omega⟩
end Go.Sw.Hist

set_option linter.unusedVariables false
set_option linter.unusedSimpArgs false
set_option maxRecDepth 100000
namespace Go.Sw.Hist
open Go.Sw.Any Go.Sw.Codec Go.Sw.Piece
variable {P:Program} {S:Ids} {h:Heap} {Q:Nat→List Value→Heap→Prop} {n k:Nat} {rho:Nat→Nat} {X:Bk}
structure Wid where
 n:Nat
 h0:Heap
 b:Addr
 p:Addr
 enc:Int
 limit:Int
 K:(Nat→Nat)→Heap→Prop
 ks:∀ rho h rho' h',StepR 0 h rho h' rho'→K rho h→K rho' h'
def Wid.one (n:Nat) (h0:Heap) (b p:Addr) (enc limit:Int):Wid:=⟨n,h0,b,p,enc,limit,fun _ _=>True,fun _ _ _ _ _ _=>trivial⟩
def Wid.add (w:Wid) (K:(Nat→Nat)→Heap→Prop) (ks:∀ rho h rho' h',StepR 0 h rho h' rho'→K rho h→K rho' h'):Wid:={ w with K:=fun rho h=>w.K rho h∧K rho h,ks:=fun rho h rho' h' st k=>⟨w.ks _ _ _ _ st k.1,ks _ _ _ _ st k.2⟩ }
def Wd (S:Ids) (w:Wid) (h:Heap) (M:Mo) (N:Nat):Prop:=
 ∃ rho X,(Ext w.h0 h∧∀ i,i<w.h0.size→rho i=0)∧BookR S w.n h rho 0 X∧Inv X M N∧w.K rho h∧X.b=w.b∧X.T.p=w.p∧X.T.enc=w.enc∧X.T.limit=w.limit
variable {w:Wid} {M:Mo} {N:Nat}
theorem step_ext {h0:Heap} {rho:Nat→Nat} (st:StepR 0 h0 (fun _=>0) h rho):Ext h0 h:=⟨st.c.1,fun i hi=>st.c.2.1 i hi fun ⟨a,_⟩=>absurd a (Nat.lt_irrefl 0),st.c.2.2⟩
theorem st_of {h0:Heap} {rho:Nat→Nat} (st:StepR 0 h0 (fun _=>0) h rho):Ext h0 h∧∀ i,i<h0.size→rho i=0:=⟨step_ext st,fun i hi=>st.old i hi (.inl (Nat.le_refl 0))⟩
theorem st_on {h0 h':Heap} {rho rho':Nat→Nat} (st:Ext h0 h∧∀ i,i<h0.size→rho i=0) (s:StepR 0 h rho h' rho'):Ext h0 h'∧∀ i,i<h0.size→rho' i=0:=by
 have hs:=st.1.1
 refine ⟨⟨Nat.le_trans hs s.c.1,fun i hi=>(s.c.2.1 i (by omega) fun hf=>by have:=st.2 i hi; omega).trans (st.1.2.1 i hi),fun a ha=>s.c.2.2 a (st.1.2.2 a ha)⟩,fun i hi=>?_⟩
 rw [s.old i (by omega) (.inl (by rw [st.2 i hi]; exact Nat.le_refl 0))]; exact st.2 i hi
theorem Wd.e (d:Wd S w h M N):Ext w.h0 h:=let ⟨_,_,st,_⟩:=d; st.1
theorem Wd.ok (d:Wd S w h M N):MoOk w.enc w.limit M N:=by
 obtain ⟨rho,X,st,r,i,_,e1,e2,e3,e4⟩:=d
 rw [← e3, ← e4]; exact i.ok
theorem Wd.ext {h':Heap} (d:Wd S w h M N) (e:Ext h h'):Wd S w h' M N:=by
 obtain ⟨rho,X,st,r,i,e1⟩:=d
 exact ⟨_,X,st_on st (StepR.ofExt e),r.zr e,i,w.ks _ _ _ _ (StepR.ofExt e) e1.1,e1.2⟩
theorem Wd.mono {N':Nat} (d:Wd S w h M N) (hN:N≤N'):Wd S w h M N':=by
 obtain ⟨rho,X,st,r,i,e1⟩:=d
 exact ⟨rho,X,st,r,i.mono hN,e1⟩
theorem Wd.of {h':Heap} {M':Mo} {N':Nat} {rho:Nat→Nat} {X:Bk} (st:Ext w.h0 h∧∀ i,i<w.h0.size→rho i=0) (he:w.K rho h∧X.b=w.b∧X.T.p=w.p∧X.T.enc=w.enc∧X.T.limit=w.limit) (b:BPost S w.n 0 X h rho h' M' N'):Wd S w h' M' N':=by
 obtain ⟨rho',X',st',r',i',sm⟩:=b
 exact ⟨rho',X',st_on st st',r',i',w.ks _ _ _ _ st' he.1,sm.b.trans he.2.1,sm.p.trans he.2.2.1,sm.enc.trans he.2.2.2.1,sm.limit.trans he.2.2.2.2⟩
theorem Wd.add {h':Heap} {K:(Nat→Nat)→Heap→Prop} {ks:∀ rho h rho' h',StepR 0 h rho h' rho'→K rho h→K rho' h'} (d:Wd S w h M N) (e:Ext h h') (hK:∀ rho,(∀ i,h.size≤i→rho i=0)→K rho h'):Wd S (w.add K ks) h' M N:=by
 obtain ⟨rho,X,st,r,i,e1⟩:=d
 exact ⟨_,X,st_on st (StepR.ofExt e),r.zr e,i,⟨w.ks _ _ _ _ (StepR.ofExt e) e1.1,hK _ fun i hi=>zr_new hi⟩,e1.2⟩
theorem Wd.keep (d:Wd S w h M N):∃ rho,w.K rho h:=let ⟨rho,_,_,_,_,e1⟩:=d; ⟨rho,e1.1⟩
theorem w_Undo (d:Wd S w h M N) (hN:N≤68719476736):wp P (F_Book_Undo S (some w.b)) h fun tg vs h'=>tg=0∧vs=[i64v M.undoR.1,i64v M.undoR.2.1]∧Wd S w h' M.undoR.2.2 N:=by
 obtain ⟨rho,X,st,r,i,e1⟩:=d
 rw [← e1.2.1]
 exact wp_mono _ (fun tg vs h' ⟨h1,h2,h3⟩=>⟨h1,h2,Wd.of st e1 h3⟩) (v_Undo r i hN)
theorem w_SetMark {name a:Int} (d:Wd S w h M N) (hfn:fitsI .i64 name) (hfa:fitsI .i64 a):wp P (F_Book_SetMark S (some w.b) name a) h fun tg vs h'=>tg=0∧vs=[i64v (M.setR name a).1]∧Wd S w h' (M.setR name a).2 (N+1):=by
 obtain ⟨rho,X,st,r,i,e1⟩:=d
 rw [← e1.2.1]
 exact wp_mono _ (fun tg vs h' ⟨h1,h2,h3⟩=>⟨h1,h2,Wd.of st e1 h3⟩) (v_SetMark r i hfn hfa)
theorem w_Watch {s:Sl} {l:List Int} (d:Wd S w h M N) (hs:Lst .i64 h s l) (hl:l.length≤1099511627776):wp P (F_Book_Watch S (some w.b) s) h fun tg vs h'=>tg=0∧vs=[i64v (M.watchR l).1]∧Wd S w h' (M.watchR l).2 (N+l.length):=by
 obtain ⟨rho,X,st,r,i,e1⟩:=d
 rw [← e1.2.1]
 exact wp_mono _ (fun tg vs h' ⟨h1,h2,h3⟩=>⟨h1,h2,Wd.of st e1 h3⟩) (v_Watch r i hs hl)
theorem w_Begin {a:Int} (d:Wd S w h M N) (hN:N≤68719476736):wp P (F_Book_Begin S (some w.b) a) h fun tg vs h'=>tg=0∧vs=[i64v (M.beginR a).1]∧Wd S w h' (M.beginR a).2 N:=by
 obtain ⟨rho,X,st,r,i,e1⟩:=d
 rw [← e1.2.1]
 exact wp_mono _ (fun tg vs h' ⟨h1,h2,h3⟩=>⟨h1,h2,Wd.of st e1 h3⟩) (v_Begin r i hN)
theorem w_Drop (C:ClH P S) (d:Wd S w h M N):wp P (F_Book_Drop S (some w.b)) h fun tg vs h'=>tg=0∧vs=[i64v M.dropR.1,i64v M.dropR.2.1]∧Wd S w h' M.dropR.2.2 N:=by
 obtain ⟨rho,X,st,r,i,e1⟩:=d
 rw [← e1.2.1]
 exact wp_mono _ (fun tg vs h' ⟨h1,h2,h3⟩=>⟨h1,h2,Wd.of st e1 h3⟩) (v_Drop C r i)
theorem w_Dirty (d:Wd S w h M N):Gives P (F_Book_Dirty S (some w.b)) [.one .bool] h fun (y:Bool×Unit) h'=>y.1=M.dirty∧Wd S w h' M N:=by
 have d0:=d
 obtain ⟨rho,X,st,r,i,e1⟩:=d
 rw [← e1.2.1]
 exact (v_Dirty r i).mono fun y h' e hy=>⟨hy,d0.ext e⟩
theorem w_Depth (d:Wd S w h M N):Gives P (F_Book_Depth S (some w.b)) [.one (.int .i64), .one (.int .i64)] h fun (y:Int×Int×Unit) h'=>(y.1=M.done.length∧y.2.1=M.next.length)∧Wd S w h' M N:=by
 have d0:=d
 obtain ⟨rho,X,st,r,i,e1⟩:=d
 rw [← e1.2.1]
 exact (v_Depth r i).mono fun y h' e hy=>⟨hy,d0.ext e⟩
theorem w_Text (d:Wd S w h M N):Gives P (F_Book_Text S (some w.b)) [.one .ptr] h fun (y:Option Addr×Unit) h'=>y.1=some w.p∧Wd S w h' M N:=by
 have d0:=d
 obtain ⟨rho,X,st,r,i,e1⟩:=d
 rw [← e1.2.1]
 exact (c_BText r).mono fun y h' e hy=>⟨by rw [hy,e1.2.2.1],d0.ext e⟩
theorem w_Len (d:Wd S w h M N):Gives P (F_Text_Len S (some w.p)) [.one (.int .i64)] h fun (y:Int×Unit) h'=>y.1=M.E.length∧Wd S w h' M N:=by
 have d0:=d
 obtain ⟨rho,X,st,r,i,e1⟩:=d
 rw [← e1.2.2.1]
 exact (v_Len r i).mono fun y h' e hy=>⟨hy,d0.ext e⟩
theorem w_Watched (d:Wd S w h M N) (hN:N≤68719476736):Gives P (F_Book_Watched S (some w.b)) [.one .sl] h fun (y:Sl×Unit) h'=>OwnL h.size .i64 h' y.1 M.watched∧Wd S w h' M N:=by
 have d0:=d
 obtain ⟨rho,X,st,r,i,e1⟩:=d
 rw [← e1.2.1]
 exact (v_Watched r i hN).mono fun y h' e hy=>⟨hy,d0.ext e⟩
theorem w_group (Me:Meth0 P S) (C:ClH P S) {x:Eds} {at_:Int} (d:Wd S w h M N) (hn:M.now=none) (hx:(Sh.list EdSh).ok w.h0 x) (hw:(blen w.enc M.E:Int)+4*(putsOf x.2).length≤w.limit) (hN:N+x.2.length+(putsOf x.2).length+1≤68719476736) :
  wp P (F_law7_group S (some w.b) x.1 at_) h fun tg vs h'=>tg=0∧vs=[.bool true]∧∃ bg en,Wd S w h' (M.grp (cutC M.C x.2) bg en) (N+x.2.length+(putsOf x.2).length+1):=by
 obtain ⟨rho,X,st,r,i,e1⟩:=d
 rw [← e1.2.1]
 refine wp_mono _ (fun tg vs h' ⟨h1,h2,bg,en,h3⟩=>⟨h1,h2,bg,en,Wd.of st e1 h3⟩) (c_group Me C r i hn (fun h' c=>hx.ext ?_) (by rw [e1.2.2.2.1,e1.2.2.2.2]; exact hw) hN)
 exact ⟨Nat.le_trans st.1.1 c.1,fun i hi=>(c.2.1 i (Nat.lt_of_lt_of_le hi st.1.1) fun hf=>by have:=st.2 i hi; omega).trans (st.1.2.1 i hi),fun a ha=>c.2.2 a (st.1.2.2 a ha)⟩
theorem w_one (Me:Meth0 P S) (C:ClH P S) {a at_:Int} (d:Wd S w h M N) (hn:M.now=none) (hf:fitsI .i64 a) (hw:(blen w.enc M.E:Int)+4≤w.limit) (hN:N+3≤68719476736) {K:Bool×Unit→Prog}
  (hk:∀ h' bg en s,Wd S w h' (M.grp (cutC M.C [((0,0,(s,[a]),()):EdD)]) bg en) (N+3)→wp P (K (true,())) h' Q) :
  wp P (.alloc [i64v a] fun a1=>.alloc [i64v 0,i64v 0, .slice (some a1) 1 1] fun a2=>.call (F_law7_group S (some w.b) ⟨some a2,1,1⟩ at_) [.one .bool] K) h Q:=by
 refine s_allocL (k:=.i64) [a] (by intro x hx; rw [List.mem_singleton.1 hx]; exact hf) (by simp) fun h1 e1 o1=>fun el=>?_
 have e2:Ext h1 (h1.push (.cells [i64v 0,i64v 0, .slice (some ⟨h.size,0,none⟩) 1 1].toArray el)):=Ext.push ..
 have o2:Own h1.size 1 (h1.push (.cells [i64v 0,i64v 0, .slice (some ⟨h.size,0,none⟩) 1 1].toArray el)) ⟨some ⟨h1.size,0,none⟩,3,3⟩ [i64v 0,i64v 0, .slice (some ⟨h.size,0,none⟩) 1 1]:=own_alloc rfl (by decide) (by decide)
 generalize h1.push (.cells [i64v 0,i64v 0, .slice (some ⟨h.size,0,none⟩) 1 1].toArray el)=h2 at e2 o2 ⊢
 obtain ⟨rho,X,st,r,i,q1⟩:=d
 have e02:=e1.trans e2
 have r2:=r.zr e02
 have st2:=st_on st (StepR.ofExt (k:=0) (rho:=rho) e02)
 have o12:=(Chg.of_ext (F:=fun _=>False) e2).ownL o1 fun _ _ x=>x
 have hs1:=e1.1
 rw [← q1.2.1]
 refine wp_callW (c_group Me C (x:=(⟨some ⟨h1.size,0,none⟩,1,1⟩,[((0,0,(⟨some ⟨h.size,0,none⟩,1,1⟩,[a]),()):EdD)])) r2 i hn (fun h' c=>?_) (by rw [q1.2.2.2.1,q1.2.2.2.2]; simpa [putsOf] using hw) (by simp [putsOf]; omega)) fun tg vs h3 hq=>?_
 ·refine ok_edit (c.ownL o12 fun y hy hf=>?_).lst (c.own o2 fun y hy hf=>?_) (fits_zero _) (fits_zero _)
  ·cases hy
   have h0:Hist.zr h rho h.size=0:=zr_new (Nat.le_refl _)
   dsimp only at hf; omega
  ·cases hy
   have h0:Hist.zr h rho h1.size=0:=zr_new hs1
   dsimp only at hf; omega
 ·obtain ⟨rfl,rfl,bg,en,b⟩:=hq
  refine ⟨rfl,(true,()),rfl,hk h3 bg en _ ((Wd.of st2 ⟨w.ks _ _ _ _ (StepR.ofExt e02) q1.1,q1.2⟩ b).mono (by simp [putsOf]))⟩
theorem Mo.grp_no {cs:List (List EdD)} {bg en:Int} (he:effC cs=false):M.grp cs bg en={ M.mid cs bg with now:=none }:=by unfold Mo.grp; rw [he]; rfl
theorem Mo.grp_yes {cs:List (List EdD)} {bg en:Int} (he:effC cs=true):M.grp cs bg en=(M.mid cs bg).keep ⟨cs,bg,M.marks,M.watched⟩ en:=by unfold Mo.grp; rw [he]; rfl
theorem Mo.grp_now {cs:List (List EdD)} {bg en:Int}:(M.grp cs bg en).now=none:=by unfold Mo.grp; split <;> rfl
theorem Mo.grp_E0 {cs:List (List EdD)} {bg en:Int}:(M.grp cs bg en).E0=M.E0:=by unfold Mo.grp; split <;> rfl
def WtG (enc:Int) (W:Nat):List El→List GM→Prop
 | E,[]=>blen enc E≤W
 | E,g::l=>blen enc E≤W∧WtG enc W (playC E g.chs) l
theorem WtG.head {enc:Int} {W:Nat}:∀ {l:List GM} {E:List El},WtG enc W E l→blen enc E≤W
 | [],_,h=>h
 | _::_,_,h=>h.1
theorem WtG.pre {enc:Int} {W:Nat} {m:List GM}:∀ {l:List GM} {E:List El},WtG enc W E (l++m)→WtG enc W E l∧WtG enc W (playG E l) m
 | [],_,h=>⟨h.head,h⟩
 | g::l,E,⟨h1,h2⟩=>⟨⟨h1,(WtG.pre h2).1⟩,(WtG.pre (l:=l) h2).2⟩
theorem WtG.mono {enc:Int} {W W':Nat} (hW:W≤W'):∀ {l:List GM} {E:List El},WtG enc W E l→WtG enc W' E l
 | [],_,h=>Nat.le_trans h hW
 | _::_,_,h=>⟨Nat.le_trans h.1 hW,WtG.mono hW h.2⟩
theorem WtG.snoc {enc:Int} {W:Nat} {g:GM}:∀ {l:List GM} {E:List El},WtG enc W E l→blen enc (playC (playG E l) g.chs)≤W→WtG enc W E (l++[g])
 | [],_,h,h2=>⟨h,h2⟩
 | _::_,_,h,h2=>⟨h.1,WtG.snoc h.2 h2⟩
theorem grp_wt {enc limit:Int} {W:Nat} {cuts:List EdD} {bg en:Int} (he:known enc) (hW:WtG enc W M.E0 M.all) (hl:(W:Int)+4*(putsOf cuts).length≤limit) :
  WtG enc (W+4*(putsOf cuts).length) (M.grp (cutC M.C cuts) bg en).E0 (M.grp (cutC M.C cuts) bg en).all:=by
 rw [Mo.grp_E0]
 have hC:blen enc M.C≤W:=hW.pre.2.head
 have hc:=cut_ok (enc:=enc) (limit:=limit) he (l:=cuts) (E:=M.C) (by omega)
 cases hef:effC (cutC M.C cuts) with
 | false=>rw [Mo.grp_no hef]; exact hW.mono (Nat.le_add_right _ _)
 | true=>
  rw [Mo.grp_yes hef,Mo.keep_all]
  refine (hW.pre.1.mono (Nat.le_add_right _ _)).snoc ?_
  have h2:=hc.2
  show blen enc (playC M.C (cutC M.C cuts))≤_
  omega
end Go.Sw.Hist

set_option linter.unusedVariables false
set_option linter.unusedSimpArgs false
set_option maxRecDepth 100000
namespace Go.Sw.Hist
open Go.Sw.Any Go.Sw.Codec Go.Sw.Piece
variable {P:Program} {S:Ids} {h:Heap} {Q:Nat→List Value→Heap→Prop} {w:Wid} {M:Mo} {N:Nat}
structure Und (full:List GM) (gone:Nat) (M:Mo):Prop where
 now:M.now=none
 lost:M.lost=[]
 done:M.done=full.take (full.length-gone)
 next:M.next=full.drop (full.length-gone)
 sv:M.saved=stG 0 (full.take (full.length-1))
 le:gone≤full.length
structure Grow (w:Wid) (i W:Nat) (M:Mo):Prop where
 now:M.now=none
 saved:M.saved=0
 lost:M.lost=[]
 next:M.next=[]
 len:M.done.length≤i
 wt:WtG w.enc W M.E0 M.all
theorem one_put (a:Int) (s:Sl):(putsOf [((0,0,(s,[a]),()):EdD)]).length=1:=by simp [putsOf]
theorem one_eff (E:List El) (a:Int) (s:Sl):effC (cutC E [((0,0,(s,[a]),()):EdD)])=true:=cut_eff ⟨_,List.mem_singleton.2 rfl,by simp⟩
end Go.Sw.Hist

set_option linter.unusedVariables false
set_option linter.unusedSimpArgs false
set_option maxRecDepth 100000
namespace Go.Sw.Hist
open Go.Sw.Any Go.Sw.Codec Go.Sw.Piece
def Uniq (E:List El):Prop:=((E.filter tg).map (·.2)).Nodup
structure Fol (t:Int) (E:List El) (m v:Int):Prop where
 u:Uniq E
 ml:0≤m∧m≤E.length
 at_:(∃ (j:Nat) (x:El),E[j]? = some x∧x.2=t∧v=j∧m=j)∨((∀ x∈E,x.2≠t)∧v = -1)
structure FolM (t:Int) (E:List El) (ms:MkL) (ws:List Int):Prop where
 ex:∃ m v,Fol t E m v∧ms=[(60,m)]∧ws=[v,(E.length:Int)]
end Go.Sw.Hist

set_option linter.unusedVariables false
set_option linter.unusedSimpArgs false
set_option maxRecDepth 100000
namespace Go.Sw.Hist
open Go.Sw.Any Go.Sw.Codec Go.Sw.Piece
variable {P:Program} {S:Ids} {h:Heap} {Q:Nat→List Value→Heap→Prop} {w:Wid} {M:Mo} {N:Nat}
theorem w_Tags (Me:Meth0 P S) (Ct:Clt P S) {f t:Int} (d:Wd S w h M N) (hto:fitsI .i64 t):Gives P (F_Text_Tags S (some w.p) f t) [.one .sl] h fun (y:Sl×Unit) h'=>OwnL h.size .i64 h' y.1 ((cutL M.E f t).map (·.2))∧Wd S w h' M N:=by
 have d0:=d
 obtain ⟨rho,X,st,r,i,e1⟩:=d
 rw [← e1.2.2.1]
 exact (c_TagsT Me Ct r.t hto).mono fun y h' e hy=>⟨by rw [← i.lk.E]; exact hy,d0.ext e⟩
theorem cutL_all (E:List El):cutL E 0 E.length=E:=by
 unfold cutL
 rw [show (min (E.length:Int) E.length).toNat=E.length by omega,List.take_length]; rfl
end Go.Sw.Hist

set_option linter.unusedVariables false
set_option linter.unusedSimpArgs false
set_option maxRecDepth 100000
namespace Go.Sw.Hist
open Go.Sw.Any Go.Sw.Codec Go.Sw.Piece
variable {P:Program} {S:Ids} {h:Heap} {Q:Nat→List Value→Heap→Prop} {w:Wid} {M:Mo} {N:Nat}
theorem c_same7I {a b:Sl} {l m:List Int} (ha:Lst .i64 h a l) (hb:Lst .i64 h b m):Gives P (F_law7_sameInts S a b) [.one .bool] h fun (x:Bool×Unit) _=>x.1=decide (l=m):=by
 have hla:=ha.len
 have hlb:=hb.len
 have hbd:=ha.bound
 unfold F_law7_sameInts Gives
 refine wp_ifB (fun hc=>?_) fun hc=>?_
 ·rw [neI_iff,natI_def,natI_def,hla,hlb] at hc
  refine s_ret ⟨rfl,Ext.refl h,(_,()),rfl,?_⟩
  have:l≠m:=fun e=>hc (by rw [e])
  show Bool.false=_
  simp [this]
 rw [neI_not,natI_def,natI_def,hla,hlb] at hc
 refine wp_while (fun (s:Int×Unit) h'=>h'=h∧0≤s.1∧s.1≤l.length∧l.take s.1.toNat=m.take s.1.toNat) (fun s _=>l.length-s.1.toNat)
  (fun t vs h'=>h'=h∧(t=2∧vs=[]∧l=m∨t=1∧vs=[.bool Bool.false]∧l≠m)) ⟨rfl,by simp,by simp,by simp⟩ ?_ ?_
 ·rintro ⟨(i:Int),u⟩ h' ⟨rfl,h0,h1,ht⟩
  dsimp only at h0 h1 ht ⊢
  refine wp_ifB (fun hc=>?_) fun hc=>?_
  ·rw [ltI_iff,natI_def,hla] at hc
   refine s_at ha h0 (by omega) fun _=>s_at hb h0 (by omega) fun _=>wp_ifB (fun hn=>?_) fun hn=>?_
   ·rw [neI_iff] at hn
    exact s_ret ⟨fun h=>absurd h (by decide),fun _=>⟨rfl, .inr ⟨rfl,rfl,fun e=>hn (by rw [e])⟩⟩⟩
   ·rw [neI_not] at hn
    rw [add_ok (by omega) (by omega)]
    refine s_ret ⟨fun _=>⟨(i+1,()),rfl,⟨rfl,by dsimp only; omega,by dsimp only; omega,?_⟩,by dsimp only; omega⟩,fun h=>absurd rfl h⟩
    dsimp only
    rw [show (i+1).toNat=i.toNat+1 by omega]
    exact take_eq_succ (by omega) (by omega) ht hn
  ·rw [ltI_not,natI_def,hla] at hc
   refine s_ret ⟨fun h=>absurd h (by decide),fun _=>⟨rfl, .inl ⟨rfl,rfl,?_⟩⟩⟩
   rwa [List.take_of_length_le (by omega),List.take_of_length_le (by omega)] at ht
 ·rintro t vs h' ⟨rfl,⟨ht,hv,e⟩ | ⟨ht,hv,e⟩⟩
  ·exact s_exit ht () hv ⟨rfl,Ext.refl _,(_,()),rfl,by show Bool.true=_; simp [e]⟩
  ·exact s_skip (by omega) (s_exit ht (Bool.false,()) hv ⟨rfl,Ext.refl _,(_,()),rfl,by show Bool.false=_; simp [e]⟩)
abbrev prC (e:Int×Int):List Value:=[i64v e.1,i64v e.2]
abbrev PrO (n:Nat) (h:Heap) (s:Sl) (l:MkL):Prop:=Own n 2 h s (l.flatMap prC)
theorem prC_len (l:MkL):(l.flatMap prC).length=l.length*2:=by
 induction l with
 | nil=>rfl
 | cons e l ih=>rw [List.flatMap_cons,List.length_append,ih,List.length_cons]; simp only [List.length_cons,List.length_nil]; omega
theorem PrO.len {n:Nat} {s:Sl} {l:MkL} (o:PrO n h s l):s.len=l.length:=by have:=o.1; rw [prC_len] at this; omega
abbrev LkT:List B:=[.sl, .sl, .sl, .sl, .int .i64, .int .i64, .bool, .bool]
abbrev LkV:=Sl×Sl×Sl×Sl×Int×Int×Bool×Bool×Unit
structure LkM where
 E:List El
 ws:List Int
 ms:MkL
 un:Nat
 re:Nat
 di:Bool
 op:Bool
def Mo.look (M:Mo):LkM:=⟨M.E,M.watched,M.marks,M.done.length,M.next.length,M.dirty,M.now.isSome⟩
structure LookR (m:Nat) (h:Heap) (y:LkV) (k:LkM):Prop where
 ato:OwnL m .i64 h y.1 (k.E.map (·.1))
 tag:OwnL m .i64 h y.2.1 (k.E.map (·.2))
 wat:OwnL m .i64 h y.2.2.1 k.ws
 mar:PrO m h y.2.2.2.1 k.ms
 und:y.2.2.2.2.1=k.un
 red:y.2.2.2.2.2.1=k.re
 dir:y.2.2.2.2.2.2.1=k.di
 ope:y.2.2.2.2.2.2.2.1=k.op
def lkC (y:LkV):List Value:=[slv y.1,slv y.2.1,slv y.2.2.1,slv y.2.2.2.1,i64v y.2.2.2.2.1,i64v y.2.2.2.2.2.1, .bool y.2.2.2.2.2.2.1, .bool y.2.2.2.2.2.2.2.1]
theorem s_loadO {bs:List B} {a:Addr} {n m c:Nat} {vs:List Value} (x:Bs.den bs) {K:Bs.den bs→Prog} (o:Own n 1 h ⟨some a,m,c⟩ vs) (hx:Bs.inj bs x=vs) (hk:wp P (K x) h Q):wp P (.load (.agg bs) (some a) K) h Q:=
 ⟨a,rfl,x,by show Cells h a (Bs.inj bs x); rw [hx]; exact o.cells,hk⟩
theorem LookR.ext {m:Nat} {h':Heap} {y:LkV} {k:LkM} (r:LookR m h y k) (e:Ext h h'):LookR m h' y k:=
 ⟨(Chg.of_ext (F:=fun _=>False) e).ownL r.ato fun _ _ x=>x,(Chg.of_ext (F:=fun _=>False) e).ownL r.tag fun _ _ x=>x,(Chg.of_ext (F:=fun _=>False) e).ownL r.wat fun _ _ x=>x,(Chg.of_ext (F:=fun _=>False) e).own r.mar fun _ _ x=>x,r.und,r.red,r.dir,r.ope⟩
def MarksC (P:Program) (S:Ids) (w:Wid) (M:Mo):Prop:=∀ (h:Heap) (N:Nat),N≤68719476736→Wd S w h M N→Gives P (F_Book_Marks S (some w.b)) [.one .sl] h fun (y:Sl×Unit) h'=>PrO h.size h' y.1 M.marks∧Wd S w h' M N
theorem w_Atoms (Me:Meth0 P S) (C0:Cl0 P S) {f t:Int} (d:Wd S w h M N) (hto:fitsI .i64 t):Gives P (F_Text_Atoms S (some w.p) f t) [.one .sl] h fun (y:Sl×Unit) h'=>OwnL h.size .i64 h' y.1 ((cutL M.E f t).map (·.1))∧Wd S w h' M N:=by
 have d0:=d
 obtain ⟨rho,X,st,r,i,e1⟩:=d
 rw [← e1.2.2.1]
 exact (c_Atoms Me C0 r.t hto).mono fun y h' e hy=>⟨by rw [← i.lk.E]; exact hy,d0.ext e⟩
theorem w_IsOpen (d:Wd S w h M N):Gives P (F_Book_IsOpen S (some w.b)) [.one .bool] h fun (y:Bool×Unit) h'=>y.1=M.now.isSome∧Wd S w h' M N:=by
 have d0:=d
 obtain ⟨rho,X,st,r,i,e1⟩:=d
 rw [← e1.2.1]
 exact (v_IsOpen r i).mono fun y h' e hy=>⟨hy,d0.ext e⟩
theorem w_see (Me:Meth0 P S) (C0:Cl0 P S) (Ct:Clt P S) (Mk:MarksC P S w M) (d:Wd S w h M N) (hN:N≤68719476736) :
  Gives P (F_law7_see S (some w.b)) [.agg LkT] h fun (y:LkV×Unit) h'=>LookR h.size h' y.1 M.look∧Wd S w h' M N:=by
 unfold F_law7_see Gives
 have hlen:=d.ok.len
 refine fun el1=>?_
 have e1:Ext h (h.push (.cells [.slice none 0 0, .slice none 0 0, .slice none 0 0, .slice none 0 0,i64v 0,i64v 0, .bool false, .bool false].toArray el1)):=Ext.push ..
 have o1:Own h.size 1 (h.push (.cells [.slice none 0 0, .slice none 0 0, .slice none 0 0, .slice none 0 0,i64v 0,i64v 0, .bool false, .bool false].toArray el1)) ⟨some ⟨h.size,0,none⟩,8,8⟩ [.slice none 0 0, .slice none 0 0, .slice none 0 0, .slice none 0 0,i64v 0,i64v 0, .bool false, .bool false]:=own_alloc rfl (by decide) (by decide)
 generalize h.push (.cells [.slice none 0 0, .slice none 0 0, .slice none 0 0, .slice none 0 0,i64v 0,i64v 0, .bool false, .bool false].toArray el1)=h1 at e1 o1 ⊢
 refine fun el2=>?_
 have e2':Ext h1 (h1.push (.cells [.slice none 0 0, .slice none 0 0, .slice none 0 0, .slice none 0 0,i64v 0,i64v 0, .bool false, .bool false].toArray el2)):=Ext.push ..
 have o2:Own h1.size 1 (h1.push (.cells [.slice none 0 0, .slice none 0 0, .slice none 0 0, .slice none 0 0,i64v 0,i64v 0, .bool false, .bool false].toArray el2)) ⟨some ⟨h1.size,0,none⟩,8,8⟩ [.slice none 0 0, .slice none 0 0, .slice none 0 0, .slice none 0 0,i64v 0,i64v 0, .bool false, .bool false]:=own_alloc rfl (by decide) (by decide)
 generalize h1.push (.cells [.slice none 0 0, .slice none 0 0, .slice none 0 0, .slice none 0 0,i64v 0,i64v 0, .bool false, .bool false].toArray el2)=h2 at e2' o2 ⊢
 have e2:=e1.trans e2'
 have h01:h.size<h1.size:=(o1.lt rfl).2
 have h12:h1.size<h2.size:=(o2.lt rfl).2
 have put:∀ {g:Heap} {j:Nat} {vs:List Value} {v:Value} {K:Prog} {Q:Nat→List Value→Heap→Prop},Own h1.size 1 g ⟨some ⟨h1.size,0,none⟩,8,8⟩ vs→j<vs.length→flat v=true→Ext h g →
   (∀ g',Own h1.size 1 g' ⟨some ⟨h1.size,0,none⟩,8,8⟩ (vs.set j v)→Ext h g'→Chg (fun i=>i=h1.size) g g'→wp P K g' Q)→wp P (.store (shiftTo (some ⟨h1.size,0,none⟩) j) [v] K) g Q:=fun o hj hf e hk=>
  s_setC' _ o hj hf fun g' o' u'=>hk g' o' (Upd.extN e u' fun x hx=>by cases hx; exact Nat.le_of_lt h01) (Chg.of_upd u' fun x hx _=>by cases hx; rfl)
 have kp:∀ {g g':Heap} {vs:List Value},Own h1.size 1 g ⟨some ⟨h1.size,0,none⟩,8,8⟩ vs→Ext g g'→Own h1.size 1 g' ⟨some ⟨h1.size,0,none⟩,8,8⟩ vs:=fun o e=>(Chg.of_ext (F:=fun _=>False) e).own o fun _ _ x=>x
 have kl:∀ {m:Nat} {g g':Heap} {s:Sl} {l:List Int},h1.size<m→OwnL m .i64 g s l→Chg (fun i=>i=h1.size) g g'→OwnL m .i64 g' s l:=fun hm o c=>c.ownL o fun a ha e=>by have:=(o.own.lt ha).1; omega
 refine wp_call (w_Text (d.ext e2)) fun ⟨(p:Option Addr),_⟩ h3 e3 hp=>?_
 obtain ⟨hp,d3⟩:=hp
 have hp:p=some w.p:=hp
 subst hp
 refine wp_ifB (fun hc=>by cases hc) fun _=>wp_call (w_Len d3) fun ⟨(L:Int),_⟩ h4 e4 hL=>?_
 obtain ⟨hL,d4⟩:=hL
 have hL:L=M.E.length:=hL
 subst hL
 dsimp only
 refine wp_call (w_Atoms Me C0 (f:=Int.ofNat 0) (t:=M.E.length) d4 (fits_i64.2 (by omega))) fun ⟨(sa:Sl),_⟩ h5 e5 ha=>?_
 obtain ⟨oa,d5⟩:=ha
 have oa:OwnL h4.size .i64 h5 sa ((cutL M.E 0 M.E.length).map (·.1)):=oa
 rw [cutL_all] at oa
 have s3:=e3.1; have s4:=e4.1; have s5:=e5.1
 refine put (kp o2 ((e3.trans e4).trans e5)) (by simp) rfl (((e2.trans e3).trans e4).trans e5) fun h6 o6 e6 c6=>?_
 have oa6:=kl (by omega) oa c6
 refine wp_call (w_Len (d.ext e6)) fun ⟨(L:Int),_⟩ h7 e7 hL=>?_
 obtain ⟨hL,d7⟩:=hL
 have hL:L=M.E.length:=hL
 subst hL
 dsimp only
 refine wp_call (w_Tags Me Ct (f:=Int.ofNat 0) (t:=M.E.length) d7 (fits_i64.2 (by omega))) fun ⟨(st:Sl),_⟩ h8 e8 ht=>?_
 obtain ⟨ot,d8⟩:=ht
 have ot:OwnL h7.size .i64 h8 st ((cutL M.E 0 M.E.length).map (·.2)):=ot
 rw [cutL_all] at ot
 have s6:=c6.1; have s7:=e7.1; have s8:=e8.1
 refine put (kp o6 (e7.trans e8)) (by simp) rfl ((e6.trans e7).trans e8) fun h9 o9 e9 c9=>?_
 have ot9:=kl (by omega) ot c9
 have oa9:=kl (by omega) ((Chg.of_ext (F:=fun _=>False) (e7.trans e8)).ownL oa6 fun _ _ x=>x) c9
 refine wp_call (w_Watched (d.ext e9) hN) fun ⟨(sw:Sl),_⟩ h10 e10 hw=>?_
 obtain ⟨ow,d10⟩:=hw
 have ow:OwnL h9.size .i64 h10 sw M.watched:=ow
 have s9:=c9.1; have s10:=e10.1
 refine put (kp o9 e10) (by simp) rfl (e9.trans e10) fun h11 o11 e11 c11=>?_
 have ow11:=kl (by omega) ow c11
 have ot11:=kl (by omega) ((Chg.of_ext (F:=fun _=>False) e10).ownL ot9 fun _ _ x=>x) c11
 have oa11:=kl (by omega) ((Chg.of_ext (F:=fun _=>False) e10).ownL oa9 fun _ _ x=>x) c11
 refine wp_call (Mk h11 N hN (d.ext e11)) fun ⟨(sm:Sl),_⟩ h12 e12 hm=>?_
 obtain ⟨om,d12⟩:=hm
 have om:PrO h11.size h12 sm M.marks:=om
 have s11:=c11.1; have s12:=e12.1
 refine put (kp o11 e12) (by simp) rfl (e11.trans e12) fun h13 o13 e13 c13=>?_
 have om13:=c13.own om fun a ha e=>by have:=(om.lt ha).1; omega
 have ow13:=kl (by omega) ((Chg.of_ext (F:=fun _=>False) e12).ownL ow11 fun _ _ x=>x) c13
 have ot13:=kl (by omega) ((Chg.of_ext (F:=fun _=>False) e12).ownL ot11 fun _ _ x=>x) c13
 have oa13:=kl (by omega) ((Chg.of_ext (F:=fun _=>False) e12).ownL oa11 fun _ _ x=>x) c13
 refine wp_call (w_Depth (d.ext e13)) fun ⟨(y1:Int),(y2:Int),_⟩ h14 e14 hy=>?_
 obtain ⟨⟨hy1,hy2⟩,d14⟩:=hy
 have hy1:y1=M.done.length:=hy1
 have hy2:y2=M.next.length:=hy2
 subst hy1; subst hy2
 dsimp only
 have s13:=c13.1; have s14:=e14.1
 refine put (kp o13 e14) (by simp) rfl (e13.trans e14) fun h15 o15 e15 c15=>put o15 (by simp) rfl e15 fun h16 o16 e16 c16=>?_
 refine wp_call (w_Dirty (d.ext e16)) fun ⟨(y:Bool),_⟩ h17 e17 hy=>?_
 obtain ⟨hy,d17⟩:=hy
 have hy:y=M.dirty:=hy
 subst hy
 refine put (kp o16 e17) (by simp) rfl (e16.trans e17) fun h18 o18 e18 c18=>?_
 refine wp_call (w_IsOpen (d.ext e18)) fun ⟨(y:Bool),_⟩ h19 e19 hy=>?_
 obtain ⟨hy,d19⟩:=hy
 have hy:y=M.now.isSome:=hy
 subst hy
 refine put (kp o18 e19) (by simp) rfl (e18.trans e19) fun h20 o20 e20 c20=>?_
 simp only [List.set_cons_zero,List.set_cons_succ] at o20
 have s15:=c15.1; have s16:=c16.1; have s17:=e17.1; have s18:=c18.1; have s19:=e19.1; have s20:=c20.1
 have cL:Chg (fun i=>i=h1.size) h13 h20:=(((((((Chg.of_ext (F:=fun i=>i=h1.size) e14).trans c15 fun _ _ x=>x).trans c16 fun _ _ x=>x).ext e17).trans c18 fun _ _ x=>x).ext e19).trans c20 fun _ _ x=>x)
 refine s_loadO (sa,st,sw,sm,(M.done.length:Int),(M.next.length:Int),M.dirty,M.now.isSome,()) o20 rfl ?_
 dsimp only
 have cA:Chg (fun i=>i=h1.size) h2 h20:=((((((((Chg.of_ext (F:=fun i=>i=h1.size) ((e3.trans e4).trans e5)).trans c6 fun _ _ x=>x).ext (e7.trans e8)).trans c9 fun _ _ x=>x).ext e10).trans c11 fun _ _ x=>x).ext e12).trans c13 fun _ _ x=>x).trans cL fun _ _ x=>x
 have o1':=cA.own ((Chg.of_ext (F:=fun _=>False) e2').own o1 fun _ _ x=>x) fun a ha e=>by cases ha; have e:h.size=h1.size:=e; omega
 refine s_putV [slv sa,slv st,slv sw,slv sm,i64v (M.done.length:Int),i64v (M.next.length:Int), .bool M.dirty, .bool M.now.isSome] o1' rfl (by intro v hv; simp only [List.mem_cons,List.not_mem_nil,or_false] at hv; rcases hv with rfl | rfl | rfl | rfl | rfl | rfl | rfl | rfl <;> rfl) fun h21 o21 u21 z21=>?_
 have c21:Chg (fun i=>i=h.size) h20 h21:=Chg.of_upd u21 fun x hx _=>by cases hx; rfl
 have e21:Ext h h21:=Upd.extN e20 u21 fun x hx=>by cases hx; exact Nat.le_refl _
 have fl:∀ {m:Nat} {s:Sl} {l:List Int},h1.size<m→OwnL m .i64 h13 s l→OwnL h.size .i64 h21 s l:=fun hm o=>(c21.ownL (kl hm o cL) fun a ha e=>by have:=(o.own.lt ha).1; omega).mono (by omega)
 refine s_loadO (sa,st,sw,sm,(M.done.length:Int),(M.next.length:Int),M.dirty,M.now.isSome,()) o21 rfl ?_
 refine s_ret ⟨rfl,e21,((sa,st,sw,sm,(M.done.length:Int),(M.next.length:Int),M.dirty,M.now.isSome,()),()),rfl,⟨fl (by omega) oa13,fl (by omega) ot13,fl (by omega) ow13,?_,rfl,rfl,rfl,rfl⟩,d.ext e21⟩
 exact Own.mono (c21.own (cL.own om13 fun a ha e=>by have:=(om13.lt ha).1; omega) fun a ha e=>by have:=(om13.lt ha).1; omega) (by omega)
theorem c_alike {m m':Nat} {y z:LkV} {k k':LkM} (r:LookR m h y k) (r':LookR m' h z k'):Gives P (F_law7_alike S y z) [.one .bool] h fun (x:Bool×Unit) _=>x.1=true↔k.E.map (·.1)=k'.E.map (·.1)∧k.E.map (·.2)=k'.E.map (·.2):=by
 unfold F_law7_alike Gives
 refine fun el1=>?_
 have e1:Ext h (h.push (.cells (lkC y).toArray el1)):=Ext.push ..
 have o1:Own h.size 1 (h.push (.cells (lkC y).toArray el1)) ⟨some ⟨h.size,0,none⟩,8,8⟩ (lkC y):=own_alloc rfl (by decide) (by decide)
 show wp P _ (h.push (.cells (lkC y).toArray el1)) _
 generalize h.push (.cells (lkC y).toArray el1)=h1 at e1 o1 ⊢
 refine fun el2=>?_
 have e2:Ext h1 (h1.push (.cells (lkC z).toArray el2)):=Ext.push ..
 have o2:Own h1.size 1 (h1.push (.cells (lkC z).toArray el2)) ⟨some ⟨h1.size,0,none⟩,8,8⟩ (lkC z):=own_alloc rfl (by decide) (by decide)
 show wp P _ (h1.push (.cells (lkC z).toArray el2)) _
 generalize h1.push (.cells (lkC z).toArray el2)=h2 at e2 o2 ⊢
 have o1':=(Chg.of_ext (F:=fun _=>False) e2).own o1 fun _ _ x=>x
 have e02:=e1.trans e2
 have kp:∀ {g g':Heap} {n:Nat} {a:Addr} {vs:List Value},Own n 1 g ⟨some a,8,8⟩ vs→Ext g g'→Own n 1 g' ⟨some a,8,8⟩ vs:=fun o e=>(Chg.of_ext (F:=fun _=>False) e).own o fun _ _ x=>x
 refine bind_bool (k.E.map (·.1)=k'.E.map (·.1)∧k.E.map (·.2)=k'.E.map (·.2)) ?_ fun bb h3 e3 hb=>s_ret ⟨rfl,e02.trans e3,(bb,()),rfl,hb⟩
 refine s_cell (b:=.sl) y.1 rfl o1'.cells rfl (s_cell (b:=.sl) z.1 rfl o2.cells rfl ?_)
 refine wp_call (c_same7I (r.ext e02).ato.lst (r'.ext e02).ato.lst) fun ⟨(b1:Bool),_⟩ h3 e3 hb1=>?_
 have hb1:b1=decide _:=hb1
 dsimp only
 refine wp_ifB (fun hc=>?_) fun hc=>s_ret ⟨rfl,e3,false,rfl,?_⟩
 ·refine s_cell (b:=.sl) y.2.1 rfl (kp o1' e3).cells rfl (s_cell (b:=.sl) z.2.1 rfl (kp o2 e3).cells rfl ?_)
  refine wp_call (c_same7I (r.ext (e02.trans e3)).tag.lst (r'.ext (e02.trans e3)).tag.lst) fun ⟨(b2:Bool),_⟩ h4 e4 hb2=>s_ret ⟨rfl,e3.trans e4,b2,rfl,?_⟩
  have hb2:b2=decide _:=hb2
  rw [hb1] at hc
  rw [hb2,decide_eq_true_iff]
  exact ⟨fun h=>⟨of_decide_eq_true hc,h⟩,fun h=>h.2⟩
 ·rw [hb1] at hc
  exact ⟨fun h=>(by cases h),fun h=>absurd h.1 (of_decide_eq_false hc)⟩
end Go.Sw.Hist

set_option linter.unusedVariables false
set_option linter.unusedSimpArgs false
set_option maxRecDepth 100000
namespace Go.Sw.Hist
open Go.Sw.Any Go.Sw.Codec Go.Sw.Piece
variable {P:Program} {S:Ids} {h:Heap} {Q:Nat→List Value→Heap→Prop}
structure ClM (P:Program) (S:Ids):Prop where
 cmp:∀ (x y:Int×Int×Unit),Dyn P (.func (.func S.f_Book_Marks_1) #[] #[]) [.agg #[i64v x.1,i64v x.2.1], .agg #[i64v y.1,i64v y.2.1]] (F_Book_Marks_1 S x y)
abbrev cmpV (S:Ids):Value:=.func (.func S.f_Book_Marks_1) #[] #[]
def Kb (l:MkL):Prop:=∀ e∈l, -1152921504606846976≤e.1∧e.1≤1152921504606846976
abbrev sBk (s:Sl) (i:Nat):Prop:=∃ a,s.base=some a∧a.block=i
abbrev el (l:MkL) (i:Nat):Int×Int:=l.getD i (0,0)
abbrev ky (l:MkL) (i:Nat):Int:=(el l i).1
theorem el_at {l:MkL} {i:Nat} (hi:i<l.length):l[i]? = some (el l i):=by simp [List.getD,List.getElem?_eq_getElem hi]
theorem prC_at {l:MkL} {i j:Nat} (hi:i<l.length) (hj:j<2):(l.flatMap prC)[i*2+j]? = (prC (el l i))[j]? := by
 have hs:l=l.take i++(el l i::l.drop (i+1)):=by
  have h1:el l i=l[i]:=by simp [List.getD,List.getElem?_eq_getElem hi]
  rw [h1, ← List.drop_eq_getElem_cons hi,List.take_append_drop]
 have hl:((l.take i).flatMap prC).length=i*2:=by rw [prC_len,List.length_take]; omega
 conv=>lhs; rw [hs]
 rw [List.flatMap_append,List.flatMap_cons,List.getElem?_append_right (by omega),hl,show i*2+j-i*2=j by omega,List.getElem?_append_left (by simpa using hj)]
theorem PrO.base {n:Nat} {s:Sl} {l:MkL} (o:PrO n h s l) (hl:0<l.length):someB s.base=true:=by
 cases hb:s.base with
 | none=>
  have h1:=o.2.2.2
  rw [hb] at h1
  have h2:=o.2.1
  have h3:=PrO.len o
  dsimp only at h1
  omega
 | some a=>rfl
theorem s_ldP {n:Nat} {s:Sl} {l:MkL} {i:Nat} {x:Int} {K:Int×Int×Unit→Prog} (o:PrO n h s l) (hx:x=(i:Int)) (hi:i<l.length) (hk:wp P (K ((el l i).1,(el l i).2,())) h Q) :
  wp P (grd (andB (someB s.base) (inB x s.len)) <| .load (.agg [.int .i64, .int .i64]) (shiftTo s.base (mulN (toN x) 2)) K) h Q:=by
 subst hx
 have hlen:=PrO.len o
 refine wp_grd (andB_iff.2 ⟨PrO.base o (by omega),inB_is.2 ⟨by omega,by omega⟩⟩) ?_
 obtain ⟨a,ea,_⟩:=o.rd.2 (i*2+0) (i64v (el l i).1) (by rw [prC_at hi (by decide)]; rfl)
 refine ⟨a.add (i*2),by rw [ea,mulN_def,toN_def,Int.toNat_natCast]; rfl,((el l i).1,(el l i).2,()),cells_iff.2 fun j v hj=>?_,hk⟩
 have hj2:j<2:=(List.getElem?_eq_some_iff.1 hj).1
 obtain ⟨b,eb,hc⟩:=o.rd.2 (i*2+j) v (by rw [prC_at hi hj2]; exact hj)
 rw [ea] at eb; cases eb
 rw [add_add]; exact hc
theorem s_stP {n:Nat} {s:Sl} {l:MkL} {i:Nat} {x:Int} (e:Int×Int) {K:Prog} (o:PrO n h s l) (hx:x=(i:Int)) (hi:i<l.length)
  (hk:∀ h',PrO n h' s (l.set i e)→Chg (sBk s) h h'→wp P K h' Q):wp P (grd (andB (someB s.base) (inB x s.len)) (.store (shiftTo s.base (mulN (toN x) 2)) [i64v e.1,i64v e.2] K)) h Q:=by
 subst hx
 have hlen:=PrO.len o
 have hs:l=l.take i++(l[i]::l.drop (i+1)):=by rw [← List.drop_eq_getElem_cons hi,List.take_append_drop]
 have hset:l.set i e=l.take i++(e::l.drop (i+1)):=by
  conv=>lhs; rw [hs]
  have hl1:(l.take i).length=i:=by rw [List.length_take]; omega
  rw [List.set_append_right (h:=by omega),hl1,Nat.sub_self,List.set_cons_zero]
 have ho:Own n 2 h s ((l.take i).flatMap prC++prC l[i]++(l.drop (i+1)).flatMap prC):=by
  have h1:Own n 2 h s (l.flatMap prC):=o
  rw [hs,List.flatMap_append,List.flatMap_cons] at h1
  rw [List.append_assoc]; exact h1
 refine wp_grd (andB_iff.2 ⟨PrO.base o (by omega),inB_is.2 ⟨by omega,by omega⟩⟩) ?_
 have hoff:mulN (toN (i:Int)) 2=((l.take i).flatMap prC).length:=by rw [prC_len,List.length_take]; simp [mulN,toN]; omega
 rw [hoff]
 refine s_putOwn (mid:=prC l[i]) [i64v e.1,i64v e.2] ho rfl rfl (by simp) (by intro v hv; simp only [List.mem_cons,List.not_mem_nil,or_false] at hv; rcases hv with rfl | rfl <;> rfl) fun h' o' u' z'=>hk h' ?_ (Chg.of_upd u' fun a ha _=>⟨a,ha,rfl⟩)
 show Own n 2 h' s ((l.set i e).flatMap prC)
 rw [hset,List.flatMap_append,List.flatMap_cons, ← List.append_assoc]; exact o'
def swp (l:MkL) (p q:Nat):MkL:=(l.set q (el l p)).set p (el l q)
theorem swp_el {l:MkL} {p q:Nat} (hp:p<l.length) (hq:q<l.length) (i:Nat):el (swp l p q) i=if i=p then el l q else if i=q then el l p else el l i:=by
 unfold swp
 simp only [el,List.getD_eq_getElem?_getD,List.getElem?_set,List.length_set]
 by_cases h1:i=p
 ·subst h1; simp [hp]
 ·rw [if_neg (Ne.symm h1),if_neg h1]
  by_cases h2:i=q
  ·subst h2; simp [hq]
  ·rw [if_neg (Ne.symm h2),if_neg h2]
theorem swp_perm {l:MkL} {p q:Nat} (hp:p<l.length) (hq:q<l.length):(swp l p q).Perm l:=by
 have h1:el l p=l[p]:=by simp [List.getD,List.getElem?_eq_getElem hp]
 have h2:el l q=l[q]:=by simp [List.getD,List.getElem?_eq_getElem hq]
 unfold swp
 rw [h1,h2]
 exact List.set_set_perm hq hp
theorem s_swap {n:Nat} {s:Sl} {l:MkL} {p q:Nat} {x y:Int} {K:Prog} (o:PrO n h s l) (hx:x=(p:Int)) (hy:y=(q:Int)) (hp:p<l.length) (hq:q<l.length)
  (hk:∀ h',PrO n h' s (swp l p q)→Chg (sBk s) h h'→wp P K h' Q) :
  wp P (grd (andB (someB s.base) (inB x s.len)) <| .load (.agg [.int .i64, .int .i64]) (shiftTo s.base (mulN (toN x) 2)) fun (r1:Int×Int×Unit)=>
   grd (andB (someB s.base) (inB y s.len)) <| .load (.agg [.int .i64, .int .i64]) (shiftTo s.base (mulN (toN y) 2)) fun (r2:Int×Int×Unit)=>
   grd (andB (someB s.base) (inB y s.len)) <| .store (shiftTo s.base (mulN (toN y) 2)) [i64v r1.1,i64v r1.2.1] <|
   grd (andB (someB s.base) (inB x s.len)) <| .store (shiftTo s.base (mulN (toN x) 2)) [i64v r2.1,i64v r2.2.1] K) h Q:=
 s_ldP o hx hp (s_ldP o hy hq (s_stP (el l p) o hy hq fun h1 o1 c1=>s_stP (el l q) o1 hx (by rw [List.length_set]; exact hp) fun h2 o2 c2=>hk h2 o2 (c1.trans c2 fun _ _ x=>x)))
theorem c_cmp {x y:Int×Int×Unit} (hx : -1152921504606846976≤x.1∧x.1≤1152921504606846976) (hy : -1152921504606846976≤y.1∧y.1≤1152921504606846976) :
  Gives P (F_Book_Marks_1 S x y) [.one (.int .i64)] h fun (z:Int×Unit) _=>z.1=x.1-y.1:=by
 unfold F_Book_Marks_1 Gives
 refine fun el1=>?_
 have e1:Ext h (h.push (.cells [i64v x.1,i64v x.2.1].toArray el1)):=Ext.push ..
 have o1:Own h.size 1 (h.push (.cells [i64v x.1,i64v x.2.1].toArray el1)) ⟨some ⟨h.size,0,none⟩,2,2⟩ [i64v x.1,i64v x.2.1]:=own_alloc rfl (by decide) (by decide)
 generalize h.push (.cells [i64v x.1,i64v x.2.1].toArray el1)=h1 at e1 o1 ⊢
 refine fun el2=>?_
 have e2:Ext h1 (h1.push (.cells [i64v y.1,i64v y.2.1].toArray el2)):=Ext.push ..
 have o2:Own h1.size 1 (h1.push (.cells [i64v y.1,i64v y.2.1].toArray el2)) ⟨some ⟨h1.size,0,none⟩,2,2⟩ [i64v y.1,i64v y.2.1]:=own_alloc rfl (by decide) (by decide)
 generalize h1.push (.cells [i64v y.1,i64v y.2.1].toArray el2)=h2 at e2 o2 ⊢
 have o1':=(Chg.of_ext (F:=fun _=>False) e2).own o1 fun _ _ x=>x
 refine s_cell (b:=.int .i64) x.1 rfl o1'.cells rfl (s_cell (b:=.int .i64) y.1 rfl o2.cells rfl ?_)
 rw [sub_ok (by omega) (by omega)]
 exact s_ret ⟨rfl,e1.trans e2,(_,()),rfl,rfl⟩
theorem Kb.at {l:MkL} (k:Kb l) {i:Nat} (hi:i<l.length) : -1152921504606846976≤ky l i∧ky l i≤1152921504606846976:=k _ (List.mem_of_getElem? (el_at hi))
theorem s_less (C:ClM P S) {n:Nat} {s:Sl} {l:MkL} {i j:Nat} {x y:Int} {K:Int×Unit→Prog} (o:PrO n h s l) (kb:Kb l) (hx:x=(i:Int)) (hy:y=(j:Int)) (hi:i<l.length) (hj:j<l.length)
  (hk:∀ h',Ext h h'→PrO n h' s l→wp P (K (ky l i-ky l j,())) h' Q) :
  wp P (grd (andB (someB s.base) (inB x s.len)) <| .load (.agg [.int .i64, .int .i64]) (shiftTo s.base (mulN (toN x) 2)) fun (r1:Int×Int×Unit)=>
   grd (andB (someB s.base) (inB y s.len)) <| .load (.agg [.int .i64, .int .i64]) (shiftTo s.base (mulN (toN y) 2)) fun (r2:Int×Int×Unit)=>
   .callv (cmpV S) [.agg #[i64v r1.1,i64v r1.2.1], .agg #[i64v r2.1,i64v r2.2.1]] [.one (.int .i64)] K) h Q:=by
 refine s_ldP o hx hi (s_ldP o hy hj (wp_dyn (C.cmp ((el l i).1,(el l i).2,()) ((el l j).1,(el l j).2,())) ?_))
 refine wp_mono _ (fun tg vs h' ⟨h1,e1,⟨z,u⟩,h2,h3⟩=>⟨h1,(z,()),h2,?_⟩) (c_cmp (P:=P) (S:=S) (h:=h) (x:=((el l i).1,(el l i).2,())) (y:=((el l j).1,(el l j).2,())) (kb.at hi) (kb.at hj))
 have h3:z=ky l i-ky l j:=h3
 rw [h3]
 exact hk h' e1 ((Chg.of_ext (F:=fun _=>False) e1).own o fun _ _ x=>x)
structure Sg (a b:Nat) (l l':MkL):Prop where
 perm:l'.Perm l
 out:∀ i,i<a∨b≤i→el l' i=el l i
theorem Sg.refl (a b:Nat) (l:MkL):Sg a b l l:=⟨List.Perm.refl _,fun _ _=>rfl⟩
theorem Sg.trans {a b:Nat} {l l' l'':MkL} (x:Sg a b l l') (y:Sg a b l' l''):Sg a b l l'':=⟨y.perm.trans x.perm,fun i hi=>(y.out i hi).trans (x.out i hi)⟩
theorem Sg.mono {a b a' b':Nat} {l l':MkL} (x:Sg a b l l') (ha:a'≤a) (hb:b≤b'):Sg a' b' l l':=⟨x.perm,fun i hi=>x.out i (by omega)⟩
theorem Sg.len {a b:Nat} {l l':MkL} (x:Sg a b l l'):l'.length=l.length:=x.perm.length_eq
theorem Sg.kb {a b:Nat} {l l':MkL} (x:Sg a b l l') (k:Kb l):Kb l':=fun e he=>k e (x.perm.mem_iff.1 he)
theorem swp_sg {l:MkL} {p q a b:Nat} (hp:p<l.length) (hq:q<l.length) (h1:a≤p∧p<b) (h2:a≤q∧q<b):Sg a b l (swp l p q):=
 ⟨swp_perm hp hq,fun i hi=>by rw [swp_el hp hq,if_neg (by omega),if_neg (by omega)]⟩
theorem ext_el {l l':MkL} (hl:l'.length=l.length) (h:∀ i,i<l.length→el l' i=el l i):l'=l:=by
 refine List.ext_getElem? fun i=>?_
 by_cases hi:i<l.length
 ·rw [el_at hi,el_at (by omega),h i hi]
 ·rw [List.getElem?_eq_none (by omega),List.getElem?_eq_none (by omega)]
theorem el_drop (l:MkL) (a i:Nat):el (l.drop a) i=el l (a+i):=by simp [List.getD_eq_getElem?_getD,List.getElem?_drop]
theorem el_take {l:MkL} {a i:Nat} (hi:i<a):el (l.take a) i=el l i:=by simp [List.getD_eq_getElem?_getD,List.getElem?_take,hi]
theorem Sg.all {a b:Nat} {l l':MkL} (x:Sg a b l l') (hab:a≤b) (hb:b≤l.length) {p:Int×Int→Prop} (h:∀ i,a≤i→i<b→p (el l i)):∀ i,a≤i→i<b→p (el l' i):=by
 have hlen:=x.len
 have h1:l'.take a=l.take a:=ext_el (by rw [List.length_take,List.length_take,hlen]) fun i hi=>by
  rw [List.length_take] at hi
  rw [el_take (by omega),el_take (by omega),x.out i (by omega)]
 have h2:l'.drop b=l.drop b:=ext_el (by rw [List.length_drop,List.length_drop,hlen]) fun i hi=>by
  rw [el_drop,el_drop,x.out _ (by omega)]
 have dec:∀ m:MkL,m=m.take a++((m.drop a).take (b-a)++m.drop b):=fun m=>by
  have e1:(m.drop a).drop (b-a)=m.drop b:=by rw [List.drop_drop]; congr 1; omega
  rw [← e1,List.take_append_drop,List.take_append_drop]
 have hp:((l'.drop a).take (b-a)).Perm ((l.drop a).take (b-a)):=by
  have:=x.perm
  rw [dec l',dec l,h1,h2,List.perm_append_left_iff,List.perm_append_right_iff] at this
  exact this
 intro i hi1 hi2
 have hm:el l' i∈(l'.drop a).take (b-a):=by
  have:((l'.drop a).take (b-a))[i-a]? = some (el l' i):=by
   rw [List.getElem?_take_of_lt (by omega),List.getElem?_drop,show a+(i-a)=i by omega,el_at (by omega)]
  exact List.mem_of_getElem? this
 obtain ⟨j,hj⟩:=List.mem_iff_getElem?.1 (hp.mem_iff.1 hm)
 have hjl:=(List.getElem?_eq_some_iff.1 hj).1
 rw [List.length_take,List.length_drop] at hjl
 rw [List.getElem?_take_of_lt (by omega),List.getElem?_drop,el_at (by omega)] at hj
 have:=h (a+j) (by omega) (by omega)
 rw [Option.some.inj hj] at this
 exact this
def Srt (a b:Nat) (l:MkL):Prop:=∀ i j,a≤i→i<j→j<b→ky l i≤ky l j
theorem swp_ky {l:MkL} {p q:Nat} (hp:p<l.length) (hq:q<l.length) (i:Nat):ky (swp l p q) i=if i=p then ky l q else if i=q then ky l p else ky l i:=by
 show (el (swp l p q) i).1=_
 rw [swp_el hp hq]
 split
 ·rfl
 ·split <;> rfl
def Sorts (P:Program) (m:Prog) (tys:List Ty) (n:Nat) (s:Sl) (a b:Nat) (l:MkL) (h:Heap) (R:Ts.den tys→MkL→Prop):Prop:=
 wp P m h fun t vs h'=>t=0∧Chg (sBk s) h h'∧∃ x l',vs=Ts.inj tys x∧PrO n h' s l'∧Sg a b l l'∧R x l'
theorem wp_sorts {m:Prog} {tys:List Ty} {n:Nat} {s:Sl} {a b:Nat} {l:MkL} {R:Ts.den tys→MkL→Prop} {K:Ts.den tys→Prog} (g:Sorts P m tys n s a b l h R)
  (hk:∀ x l' h',Chg (sBk s) h h'→PrO n h' s l'→Sg a b l l'→R x l'→wp P (K x) h' Q):wp P (.call m tys K) h Q:=
 wp_mono m (fun _ _ _ ⟨a,b,x,l',c,d,e,f⟩=>⟨a,x,c,hk x l' _ b d e f⟩) g
end Go.Sw.Hist

set_option linter.unusedVariables false
set_option linter.unusedSimpArgs false
set_option maxRecDepth 100000
namespace Go.Sw.Hist
open Go.Sw.Any Go.Sw.Codec Go.Sw.Piece
variable {P:Program} {S:Ids} {h:Heap} {Q:Nat→List Value→Heap→Prop}
theorem c_insertion (C:ClM P S) {n a b:Nat} {s:Sl} {l:MkL} (o:PrO n h s l) (kb:Kb l) (hab:a≤b) (hb:b≤l.length) (hl:l.length≤1073741824) :
  Sorts P (F_slices_insertionSortCmpFuncint___2 S s (a:Int) (b:Int) (cmpV S)) [] n s a b l h fun _ l'=>Srt a b l':=by
 unfold F_slices_insertionSortCmpFuncint___2 Sorts
 rw [add_ok (by omega) (by omega)]
 refine wp_while (fun (q:Int×Unit) h'=>∃ (i:Nat) (l1:MkL),q.1=(i:Int)∧a+1≤i∧(i≤b∨i=a+1)∧PrO n h' s l1∧Sg a b l l1∧Srt a i l1∧Chg (sBk s) h h') (fun q _=>((b:Int)+1-q.1).toNat)
  (fun t vs h'=>t=2∧vs=[]∧∃ l1,PrO n h' s l1∧Sg a b l l1∧Srt a b l1∧Chg (sBk s) h h') ⟨a+1,l,by push_cast; rfl,Nat.le_refl _, .inr rfl,o,Sg.refl _ _ _,fun i j h1 h2 h3=>by omega,Chg.refl _ _⟩ ?_ ?_
 ·rintro ⟨(q:Int),u⟩ h1 ⟨i,l1,hq,hi1,hi2,o1,g1,t1,c1⟩
  dsimp only at hq ⊢
  subst hq
  have len1:=g1.len
  refine wp_ifB (fun hc=>?_) fun hc=>?_
  ·rw [ltI_iff] at hc
   have hib:i<b:=by omega
   refine wp_while (fun (q:Int×Unit) h'=>∃ (j:Nat) (l2:MkL),q.1=(j:Int)∧a≤j∧j≤i∧PrO n h' s l2∧Sg a b l l2∧Chg (sBk s) h h'∧(∀ p r,a≤p→p<r→r≤i→p≠j→r≠j→ky l2 p≤ky l2 r)∧∀ r,j<r→r≤i→ky l2 j≤ky l2 r) (fun q _=>q.1.toNat)
    (fun t vs h'=>t=4∧vs=[]∧∃ l2,PrO n h' s l2∧Sg a b l l2∧Srt a (i+1) l2∧Chg (sBk s) h h') ⟨i,l1,rfl,by omega,Nat.le_refl _,o1,g1,c1,fun p r h1 h2 h3 h4 h5=>t1 p r h1 h2 (by omega),fun r h1 h2=>by omega⟩ ?_ ?_
   ·rintro ⟨(q:Int),u⟩ h2 ⟨j,l2,hq,hj1,hj2,o2,g2,c2,p2,r2⟩
    dsimp only at hq ⊢
    subst hq
    have len2:=g2.len
    have done:(j=a∨ky l2 (j-1)≤ky l2 j)→Srt a (i+1) l2:=fun hd p r h1 h2 h3=>by
     by_cases hp:p=j
     ·subst hp; exact r2 r h2 (by omega)
     ·by_cases hr:r=j
      ·subst hr
       rcases hd with hd | hd
       ·omega
       ·by_cases hpj:p=r-1
        ·subst hpj; exact hd
        ·exact Int.le_trans (p2 p (r-1) h1 (by omega) (by omega) (by omega) (by omega)) hd
      ·exact p2 p r h1 h2 (by omega) hp hr
    refine wp_bind (fun t vs h'=>t=0∧∃ bb:Bool,vs=[.bool bb]∧Ext h2 h'∧PrO n h' s l2∧(bb=true↔a<j∧ky l2 j<ky l2 (j-1))) (wp_ifB (fun hd=>?_) fun hd=>?_) ?_
    ·rw [gtI_iff] at hd
     refine s_less C (i:=j) (j:=j-1) o2 (g2.kb kb) rfl (by rw [sub_ok (by omega) (by omega)]; omega) (by omega) (by omega) fun h3 e3 o3=>s_ret ⟨rfl,_,rfl,e3,o3,?_⟩
     rw [ltI_iff]; dsimp only; omega
    ·rw [gtI_not] at hd
     exact s_ret ⟨rfl,false,rfl,Ext.refl _,o2,⟨fun hh=>(by cases hh),fun hh=>by omega⟩⟩
    ·rintro t vs h3 ⟨rfl,bb,rfl,e3,o3,hbb⟩
     refine s_tag (s_castB (wp_ifB (fun hd=>?_) fun hd=>?_))
     ·dsimp only at hd
      have hd:=hbb.1 hd
      have hjm:subI .i64 (j:Int) 1=((j-1:Nat):Int):=by rw [sub_ok (by omega) (by omega)]; omega
      rw [hjm]
      refine s_swap (p:=j-1) (q:=j) o3 rfl rfl (by omega) (by omega) fun h4 o4 c4=>?_
      have kyS:=swp_ky (l:=l2) (p:=j-1) (q:=j) (by omega) (by omega)
      refine s_ret ⟨fun _=>⟨(((j-1:Nat):Int),()),rfl,⟨j-1,swp l2 (j-1) j,rfl,by omega,by omega,o4,g2.trans (swp_sg (by omega) (by omega) (by omega) (by omega)),(c2.ext e3).trans c4 fun _ _ x=>x,fun p r h1 h2 h3 h4 h5=>?_,fun r h1 h2=>?_⟩,by dsimp only; omega⟩,fun hh=>absurd rfl hh⟩
      ·rw [kyS,kyS,if_neg h4,if_neg h5]
       by_cases hp:p=j
       ·subst hp
        rw [if_pos rfl,if_neg (by omega)]
        exact p2 (p-1) r (by omega) (by omega) h3 (by omega) (by omega)
       ·rw [if_neg hp]
        by_cases hr:r=j
        ·subst hr; rw [if_pos rfl]; exact p2 p (r-1) h1 (by omega) (by omega) (by omega) (by omega)
        ·rw [if_neg hr]; exact p2 p r h1 h2 h3 hp hr
      ·rw [kyS,kyS,if_pos rfl,if_neg (by omega)]
       by_cases hr:r=j
       ·rw [if_pos hr]; omega
       ·rw [if_neg hr]; exact r2 r (by omega) h2
     ·have hn:¬ (a<j∧ky l2 j<ky l2 (j-1)):=fun hh=>by dsimp only at hd; rw [hbb.2 hh] at hd; cases hd
      exact s_ret ⟨fun hh=>absurd hh (by decide),fun _=>⟨rfl,rfl,l2,o3,g2,done (by omega),c2.ext e3⟩⟩
   ·rintro t vs h2 ⟨rfl,rfl,l2,o2,g2,t2,c2⟩
    refine s_tag (s_cast0 ?_)
    rw [add_ok (by omega) (by omega)]
    exact s_ret ⟨fun _=>⟨((i:Int)+1,()),rfl,⟨i+1,l2,by push_cast; rfl,by omega,by omega,o2,g2,t2,c2⟩,by dsimp only; omega⟩,fun hh=>absurd rfl hh⟩
  ·rw [ltI_not] at hc
   exact s_ret ⟨fun hh=>absurd hh (by decide),fun _=>⟨rfl,rfl,l1,o1,g1,fun p r h1 h2 h3=>t1 p r h1 h2 (by omega),c1⟩⟩
 ·rintro t vs h1 ⟨rfl,rfl,l1,o1,g1,t1,c1⟩
  exact s_tag (s_cast0 (s_ret ⟨rfl,c1,(),l1,rfl,o1,g1,t1⟩))
def Hp (f:Nat→Int) (hi m:Nat):Prop:=∀ i c,m≤i→(c=2*i+1∨c=2*i+2)→c<hi→f c≤f i
theorem Hp.top {f:Nat→Int} {hi:Nat} (H:Hp f hi 0):∀ i,i<hi→f i≤f 0:=by
 intro i
 induction i using Nat.strongRecOn with
 | _ i ih=>
  intro hi'
  by_cases h0:i=0
  ·rw [h0]; exact Int.le_refl _
  ·obtain ⟨p,hp⟩:∃ p,p=(i-1) / 2:=⟨_,rfl⟩
   exact Int.le_trans (H p i (Nat.zero_le _) (by omega) hi') (ih p (by omega) (by omega))
theorem c_siftDown (C:ClM P S) {n lo hi first:Nat} {s:Sl} {l:MkL} (o:PrO n h s l) (kb:Kb l) (hlo:lo≤hi) (hb:first+hi≤l.length) (hl:l.length≤1073741824) (hH:∀ i c,lo<i→(c=2*i+1∨c=2*i+2)→c<hi→ky l (first+c)≤ky l (first+i)) :
  Sorts P (F_slices_siftDownCmpFuncint___2 S s (lo:Int) (hi:Int) (first:Int) (cmpV S)) [] n s (first+lo) (first+hi) l h fun _ l'=>Hp (fun i=>ky l' (first+i)) hi lo:=by
 unfold F_slices_siftDownCmpFuncint___2 Sorts
 refine wp_while (fun (q:Int×Unit) h'=>∃ (r:Nat) (l1:MkL),q.1=(r:Int)∧lo≤r∧(r<hi∨r=lo)∧PrO n h' s l1∧Sg (first+lo) (first+hi) l l1∧Chg (sBk s) h h'∧(∀ i c,lo≤i→i≠r→(c=2*i+1∨c=2*i+2)→c<hi→ky l1 (first+c)≤ky l1 (first+i)) ∧
   ∀ p c,lo≤p→(r=2*p+1∨r=2*p+2)→(c=2*r+1∨c=2*r+2)→c<hi→ky l1 (first+c)≤ky l1 (first+p)) (fun q _=>((hi:Int)-q.1).toNat)
  (fun t vs h'=>(t=2∨t=1)∧vs=[]∧∃ l1,PrO n h' s l1∧Sg (first+lo) (first+hi) l l1∧Chg (sBk s) h h'∧Hp (fun i=>ky l1 (first+i)) hi lo)
  ⟨lo,l,rfl,Nat.le_refl _, .inr rfl,o,Sg.refl _ _ _,Chg.refl _ _,fun i c h1 h2 h3 h4=>hH i c (by omega) h3 h4,fun p c h1 h2 _ _=>by omega⟩ ?_ ?_
 ·rintro ⟨(q:Int),u⟩ h1 ⟨r,l1,hq,hr1,hr2,o1,g1,c1,H1,H2⟩
  dsimp only at hq ⊢
  subst hq
  have len1:=g1.len
  have hm:addI .i64 (mulI .i64 2 (r:Int)) 1=((2*r+1:Nat):Int):=by
   rw [mul_ok (by omega) (by omega),add_ok (by omega) (by omega)]; push_cast; rfl
  rw [hm]
  refine wp_ifB (fun hc=>?_) fun hc=>?_
  ·rw [geI_iff] at hc
   refine s_ret ⟨fun hh=>absurd hh (by decide),fun _=>⟨.inl rfl,rfl,l1,o1,g1,c1,fun i c h1 h2 h3=>?_⟩⟩
   by_cases hi:i=r
   ·omega
   ·exact H1 i c h1 hi h2 h3
  rw [geI_not] at hc
  have hc1:2*r+1<hi:=by omega
  have hm2:addI .i64 ((2*r+1:Nat):Int) 1=((2*r+2:Nat):Int):=by rw [add_ok (by omega) (by omega)]; push_cast; rfl
  have hf1:addI .i64 (first:Int) ((2*r+1:Nat):Int)=((first+(2*r+1):Nat):Int):=by rw [add_ok (by omega) (by omega)]; push_cast; rfl
  have hf2:addI .i64 ((first+(2*r+1):Nat):Int) 1=((first+(2*r+2):Nat):Int):=by rw [add_ok (by omega) (by omega)]; push_cast; omega
  rw [hm2,hf1,hf2]
  refine wp_bind (fun t vs h'=>t=0∧∃ c:Nat,vs=[i64v c]∧(c=2*r+1∨c=2*r+2)∧c<hi∧Ext h1 h'∧PrO n h' s l1∧∀ c',(c'=2*r+1∨c'=2*r+2)→c'<hi→ky l1 (first+c')≤ky l1 (first+c)) ?_ ?_
  ·refine wp_bind (fun t vs h'=>t=0∧∃ bb:Bool,vs=[.bool bb]∧Ext h1 h'∧PrO n h' s l1∧(bb=true↔2*r+2<hi∧ky l1 (first+(2*r+1))<ky l1 (first+(2*r+2)))) (wp_ifB (fun hd=>?_) fun hd=>?_) ?_
   ·rw [ltI_iff] at hd
    refine s_less C o1 (g1.kb kb) rfl rfl (by omega) (by omega) fun h2 e2 o2=>s_ret ⟨rfl,_,rfl,e2,o2,?_⟩
    rw [ltI_iff]; dsimp only; omega
   ·rw [ltI_not] at hd
    exact s_ret ⟨rfl,false,rfl,Ext.refl _,o1,⟨fun hh=>(by cases hh),fun hh=>by omega⟩⟩
   ·rintro t vs h2 ⟨rfl,bb,rfl,e2,o2,hbb⟩
    refine s_tag (s_castB (wp_ifB (fun hd=>?_) fun hd=>?_))
    ·dsimp only at hd
     have hd:=hbb.1 hd
     refine s_ret ⟨rfl,2*r+2,rfl, .inr rfl,hd.1,e2,o2,fun c' h1 h2=>?_⟩
     rcases h1 with rfl | rfl
     ·omega
     ·exact Int.le_refl _
    ·have hn:¬ (2*r+2<hi∧ky l1 (first+(2*r+1))<ky l1 (first+(2*r+2))):=fun hh=>by dsimp only at hd; rw [hbb.2 hh] at hd; cases hd
     refine s_ret ⟨rfl,2*r+1,rfl, .inl rfl,hc1,e2,o2,fun c' h1 h2=>?_⟩
     rcases h1 with rfl | rfl
     ·exact Int.le_refl _
     ·omega
  rintro t vs h2 ⟨rfl,c,rfl,hcc,hch,e2,o2,hmax⟩
  refine s_tag (s_castI ?_)
  dsimp only
  have hfr:addI .i64 (first:Int) (r:Int)=((first+r:Nat):Int):=by rw [add_ok (by omega) (by omega)]; push_cast; rfl
  have hfc:addI .i64 (first:Int) (c:Int)=((first+c:Nat):Int):=by rw [add_ok (by omega) (by omega)]; push_cast; rfl
  rw [hfr,hfc]
  refine s_less C o2 (g1.kb kb) rfl rfl (by omega) (by omega) fun h3 e3 o3=>?_
  dsimp only
  refine wp_ifB (fun hd=>?_) fun hd=>?_
  ·rw [notB_iff,ltI_not] at hd
   refine s_ret ⟨fun hh=>absurd hh (by decide),fun _=>⟨.inr rfl,rfl,l1,o3,g1,(c1.ext e2).ext e3,fun i c' h1 h2 h3=>?_⟩⟩
   by_cases hi':i=r
   ·subst hi'
    have:=hmax c' h2 h3
    dsimp only; omega
   ·exact H1 i c' h1 hi' h2 h3
  ·rw [notB_not,ltI_iff] at hd
   refine s_swap (p:=first+c) (q:=first+r) o3 rfl rfl (by omega) (by omega) fun h4 o4 c4=>?_
   have kyS:=swp_ky (l:=l1) (p:=first+c) (q:=first+r) (by omega) (by omega)
   have kyF:∀ i,ky (swp l1 (first+c) (first+r)) (first+i)=if i=c then ky l1 (first+r) else if i=r then ky l1 (first+c) else ky l1 (first+i):=fun i=>by
    rw [kyS]
    by_cases h1:i=c
    ·rw [if_pos h1,if_pos (by omega)]
    ·rw [if_neg h1,if_neg (by omega)]
     by_cases h2:i=r
     ·rw [if_pos h2,if_pos (by omega)]
     ·rw [if_neg h2,if_neg (by omega)]
   refine s_ret ⟨fun _=>⟨((c:Int),()),rfl,⟨c,_,rfl,by omega, .inl hch,o4,g1.trans (swp_sg (by omega) (by omega) (by omega) (by omega)),((c1.ext e2).ext e3).trans c4 fun _ _ x=>x,fun i c' h1 h2 h3 h4=>?_,fun p c' h1 h2 h3 h4=>?_⟩,by dsimp only; omega⟩,fun hh=>absurd rfl hh⟩
   ·rw [kyF,kyF,if_neg h2]
    by_cases hir:i=r
    ·subst hir
     rw [if_pos rfl]
     by_cases hc':c'=c
     ·rw [if_pos hc']; omega
     ·rw [if_neg hc',if_neg (by omega)]; exact hmax c' h3 h4
    ·rw [if_neg hir,if_neg (show ¬ c'=c by omega)]
     by_cases hc':c'=r
     ·rw [if_pos hc']
      subst hc'
      exact H2 i c h1 h3 hcc hch
     ·rw [if_neg hc']; exact H1 i c' h1 hir h3 h4
   ·have hpr:p=r:=by omega
    subst hpr
    rw [kyF,kyF,if_neg (show ¬ c'=c by omega),if_neg (show ¬ c'=p by omega),if_neg (show ¬ p=c by omega),if_pos rfl]
    exact H1 c c' (by omega) (by omega) h3 h4
 ·rintro t vs h1 ⟨ht,rfl,l1,o1,g1,c1,H1⟩
  rcases ht with rfl | rfl
  ·exact s_tag (s_cast0 (s_ret ⟨rfl,c1,(),l1,rfl,o1,g1,H1⟩))
  ·exact s_skip (by decide) (s_tag (s_cast0 (s_ret ⟨rfl,c1,(),l1,rfl,o1,g1,H1⟩)))
theorem c_heapSort (C:ClM P S) {n a b:Nat} {s:Sl} {l:MkL} (o:PrO n h s l) (kb:Kb l) (hab:a<b) (hb:b≤l.length) (hl:l.length≤1073741824) :
  Sorts P (F_slices_heapSortCmpFuncint___2 S s (a:Int) (b:Int) (cmpV S)) [] n s a b l h fun _ l'=>Srt a b l':=by
 unfold F_slices_heapSortCmpFuncint___2 Sorts
 obtain ⟨hi,rfl⟩:∃ hi,b=a+hi:=⟨b-a,by omega⟩
 have hsub:subI .i64 ((a+hi:Nat):Int) (a:Int)=(hi:Int):=by rw [sub_ok (by omega) (by omega)]; push_cast; omega
 have hs1:subI .i64 (hi:Int) 1=((hi-1:Nat):Int):=by rw [sub_ok (by omega) (by omega)]; omega
 have hq:quoI .i64 ((hi-1:Nat):Int) 2=(((hi-1) / 2:Nat):Int):=by rw [quo_ok (by omega) (by omega) (by omega)]; push_cast; rfl
 rw [hsub,hs1,hq]
 refine s_not ?_
 refine wp_while (fun (q:Int×Unit) h'=>∃ (m:Nat) (l1:MkL),q.1=(m:Int)-1∧m≤(hi-1) / 2+1∧PrO n h' s l1∧Sg a (a+hi) l l1∧Chg (sBk s) h h'∧Hp (fun i=>ky l1 (a+i)) hi m) (fun q _=>(q.1+1).toNat)
  (fun t vs h'=>t=2∧vs=[]∧∃ l1,PrO n h' s l1∧Sg a (a+hi) l l1∧Chg (sBk s) h h'∧Hp (fun i=>ky l1 (a+i)) hi 0)
  ⟨(hi-1) / 2+1,l,by push_cast; omega,Nat.le_refl _,o,Sg.refl _ _ _,Chg.refl _ _,fun i c h1 h2 h3=>by omega⟩ ?_ ?_
 ·rintro ⟨(q:Int),u⟩ h1 ⟨m,l1,hq,hm,o1,g1,c1,H1⟩
  dsimp only at hq ⊢
  subst hq
  have len1:=g1.len
  refine wp_ifB (fun hc=>?_) fun hc=>?_
  ·rw [geI_iff] at hc
   obtain ⟨m',rfl⟩:∃ m',m=m'+1:=⟨m-1,by omega⟩
   have hm':((m'+1:Nat):Int)-1=(m':Int):=by omega
   rw [hm']
   refine wp_sorts (c_siftDown C (lo:=m') (hi:=hi) (first:=a) o1 (g1.kb kb) (by omega) (by omega) (by omega) fun i c h1 h2 h3=>H1 i c (by omega) h2 h3) fun _ l2 h2 c2 o2 g2 H2=>?_
   rw [sub_ok (by omega) (by omega)]
   exact s_ret ⟨fun _=>⟨((m':Int)-1,()),rfl,⟨m',l2,rfl,by omega,o2,g1.trans (g2.mono (by omega) (by omega)),c1.trans c2 fun _ _ x=>x,H2⟩,by dsimp only; omega⟩,fun hh=>absurd rfl hh⟩
  ·rw [geI_not] at hc
   have:m=0:=by omega
   subst this
   exact s_ret ⟨fun hh=>absurd hh (by decide),fun _=>⟨rfl,rfl,l1,o1,g1,c1,H1⟩⟩
 rintro t vs h1 ⟨rfl,rfl,l1,o1,g1,c1,H1⟩
 refine s_tag (s_cast0 ?_)
 refine wp_while (fun (q:Int×Unit) h'=>∃ (m:Nat) (l2:MkL),q.1=(m:Int)-1∧m≤hi∧PrO n h' s l2∧Sg a (a+hi) l l2∧Chg (sBk s) h h'∧Hp (fun i=>ky l2 (a+i)) m 0∧Srt (a+m) (a+hi) l2∧∀ i j,i<m→m≤j→j<hi→ky l2 (a+i)≤ky l2 (a+j)) (fun q _=>(q.1+1).toNat)
  (fun t vs h'=>t=4∧vs=[]∧∃ l2,PrO n h' s l2∧Sg a (a+hi) l l2∧Chg (sBk s) h h'∧Srt a (a+hi) l2)
  ⟨hi,l1,by omega,Nat.le_refl _,o1,g1,c1,H1,fun i j h1 h2 h3=>by omega,fun i j h1 h2 h3=>by omega⟩ ?_ ?_
 ·rintro ⟨(q:Int),u⟩ h2 ⟨m,l2,hq,hm,o2,g2,c2,H2,t2,b2⟩
  dsimp only at hq ⊢
  subst hq
  have len2:=g2.len
  refine wp_ifB (fun hc=>?_) fun hc=>?_
  ·rw [geI_iff] at hc
   obtain ⟨m',rfl⟩:∃ m',m=m'+1:=⟨m-1,by omega⟩
   have hm':((m'+1:Nat):Int)-1=(m':Int):=by omega
   rw [hm']
   have hfa:addI .i64 (a:Int) (m':Int)=((a+m':Nat):Int):=by rw [add_ok (by omega) (by omega)]; push_cast; rfl
   rw [hfa]
   refine s_swap (p:=a+m') (q:=a) o2 rfl rfl (by omega) (by omega) fun h3 o3 c3=>?_
   have kyS:=swp_ky (l:=l2) (p:=a+m') (q:=a) (by omega) (by omega)
   have kyF:∀ i,ky (swp l2 (a+m') a) (a+i)=if i=m' then ky l2 (a+0) else if i=0 then ky l2 (a+m') else ky l2 (a+i):=fun i=>by
    rw [kyS]
    by_cases h1:i=m'
    ·rw [if_pos h1,if_pos (by omega)]; rfl
    ·rw [if_neg h1,if_neg (by omega)]
     by_cases h2:i=0
     ·rw [if_pos h2,if_pos (by omega)]
     ·rw [if_neg h2,if_neg (by omega)]
   have sg3:Sg a (a+hi) l2 (swp l2 (a+m') a):=swp_sg (by omega) (by omega) (by omega) (by omega)
   have len3:=sg3.len
   refine wp_sorts (c_siftDown C (lo:=0) (hi:=m') (first:=a) o3 (sg3.kb (g2.kb kb)) (by omega) (by omega) (by omega) fun i c h1 h2 h3=>?_) fun _ l4 h4 c4 o4 g4 H4=>?_
   ·rw [kyF,kyF,if_neg (by omega),if_neg (by omega),if_neg (by omega),if_neg (by omega)]
    exact H2 i c (Nat.zero_le _) h2 (by omega)
   ·rw [sub_ok (by omega) (by omega)]
    have top:=Hp.top H2
    have out4:∀ i,m'≤i→ky l4 (a+i)=ky (swp l2 (a+m') a) (a+i):=fun i hi'=>by
     show (el l4 (a+i)).1=(el _ (a+i)).1
     rw [g4.out _ (by omega)]
    have hmax:∀ i,i<m'→ky l4 (a+i)≤ky l2 (a+0):=fun i hi'=>by
     refine g4.all (p:=fun e=>e.1≤ky l2 (a+0)) (by omega) (by omega) (fun j h1 h2=>?_) (a+i) (by omega) (by omega)
     obtain ⟨j',rfl⟩:∃ j',j=a+j':=⟨j-a,by omega⟩
     show ky (swp l2 (a+m') a) (a+j')≤_
     rw [kyF,if_neg (by omega)]
     by_cases h0:j'=0
     ·rw [if_pos h0]; exact top m' (by omega)
     ·rw [if_neg h0]; exact top j' (by omega)
    have hbig:∀ i j,i<m'+1→m'+1≤j→j<hi→ky l2 (a+i)≤ky l2 (a+j):=b2
    refine s_ret ⟨fun _=>⟨((m':Int)-1,()),rfl,⟨m',l4,rfl,by omega,o4,(g2.trans sg3).trans (g4.mono (by omega) (by omega)),(c2.trans c3 fun _ _ x=>x).trans c4 fun _ _ x=>x,H4,fun i j h1 h2 h3=>?_,fun i j h1 h2 h3=>?_⟩,by dsimp only; omega⟩,fun hh=>absurd rfl hh⟩
    ·obtain ⟨i',rfl⟩:∃ i',i=a+i':=⟨i-a,by omega⟩
     obtain ⟨j',rfl⟩:∃ j',j=a+j':=⟨j-a,by omega⟩
     rw [out4 i' (by omega),out4 j' (by omega),kyF,kyF,if_neg (show ¬ j'=m' by omega),if_neg (show ¬ j'=0 by omega)]
     by_cases hi0:i'=m'
     ·rw [if_pos hi0]; exact hbig 0 j' (by omega) (by omega) (by omega)
     ·rw [if_neg hi0,if_neg (by omega)]; exact t2 _ _ (by omega) (by omega) (by omega)
    ·rw [out4 j (by omega),kyF]
     have:=hmax i h1
     by_cases hj0:j=m'
     ·rw [if_pos hj0]; exact this
     ·rw [if_neg hj0,if_neg (by omega)]
      exact Int.le_trans this (hbig 0 j (by omega) (by omega) h3)
  ·rw [geI_not] at hc
   have:m=0:=by omega
   subst this
   exact s_ret ⟨fun hh=>absurd hh (by decide),fun _=>⟨rfl,rfl,l2,o2,g2,c2,t2⟩⟩
 rintro t vs h2 ⟨rfl,rfl,l2,o2,g2,c2,t2⟩
 exact s_tag (s_cast0 (s_ret ⟨rfl,c2,(),l2,rfl,o2,g2,t2⟩))
end Go.Sw.Hist

set_option linter.unusedVariables false
set_option linter.unusedSimpArgs false
set_option maxRecDepth 100000
namespace Go.Sw.Hist
open Go.Sw.Any Go.Sw.Codec Go.Sw.Piece
variable {P:Program} {S:Ids} {h:Heap} {Q:Nat→List Value→Heap→Prop}
theorem c_order2 (C:ClM P S) {n m a b:Nat} {s:Sl} {l:MkL} {w:Addr} {z:Int} (o:PrO n h s l) (kb:Kb l) (ha:a<l.length) (hb:b<l.length) (ow:Own m 1 h ⟨some w,1,1⟩ [i64v z]) (ne:¬ sBk s w.block) :
  wp P (F_slices_order2CmpFuncint___2 S s (a:Int) (b:Int) (some w) (cmpV S)) h fun t vs h'=>t=0∧Chg (fun i=>i=w.block) h h'∧∃ (p q:Nat) (z':Int),vs=[i64v p,i64v q]∧((p=a∧q=b)∨(p=b∧q=a))∧PrO n h' s l∧Own m 1 h' ⟨some w,1,1⟩ [i64v z']:=by
 unfold F_slices_order2CmpFuncint___2
 refine s_less C o kb rfl rfl hb ha fun h1 e1 o1=>?_
 have ow1:=(Chg.of_ext (F:=fun _=>False) e1).own ow fun _ _ x=>x
 dsimp only
 refine wp_ifB (fun _=>wp_grd rfl ?_) fun _=>s_ret ⟨rfl,Chg.of_ext e1,a,b,z,rfl, .inl ⟨rfl,rfl⟩,o1,ow1⟩
 refine wp_load1 (b:=.int .i64) w z rfl (by have:=cells_iff.1 ow1.cells 0 _ rfl; rw [add_zero'] at this; exact this) (wp_grd rfl ?_)
 refine s_putV [i64v (addI .i64 z 1)] ow1 rfl (by intro v hv; rw [List.mem_singleton.1 hv]; rfl) fun h2 o2 u2 z2=>?_
 have c2:Chg (fun i=>i=w.block) h1 h2:=Chg.of_upd u2 fun x hx _=>by cases hx; rfl
 exact s_ret ⟨rfl,Chg.pre e1 c2,b,a,_,rfl, .inr ⟨rfl,rfl⟩,c2.own o1 fun x hx e=>ne ⟨x,hx,e⟩,o2⟩
theorem c_median (C:ClM P S) {n m a b c:Nat} {s:Sl} {l:MkL} {w:Addr} {z:Int} (o:PrO n h s l) (kb:Kb l) (ha:a<l.length) (hb:b<l.length) (hc:c<l.length) (ow:Own m 1 h ⟨some w,1,1⟩ [i64v z]) (ne:¬ sBk s w.block) :
  wp P (F_slices_medianCmpFuncint___2 S s (a:Int) (b:Int) (c:Int) (some w) (cmpV S)) h fun t vs h'=>t=0∧Chg (fun i=>i=w.block) h h'∧∃ (p:Nat) (z':Int),vs=[i64v p]∧(p=a∨p=b∨p=c)∧PrO n h' s l∧Own m 1 h' ⟨some w,1,1⟩ [i64v z']:=by
 unfold F_slices_medianCmpFuncint___2
 refine wp_callW (c_order2 C o kb ha hb ow ne) fun t vs h1 hx=>?_
 obtain ⟨rfl,c1,p1,q1,z1,rfl,d1,o1,ow1⟩:=hx
 refine ⟨rfl,(_,_,()),rfl,?_⟩
 refine wp_callW (c_order2 (a:=q1) (b:=c) C o1 kb (by omega) hc ow1 ne) fun t vs h2 hx=>?_
 obtain ⟨rfl,c2,p2,q2,z2,rfl,d2,o2,ow2⟩:=hx
 refine ⟨rfl,(_,_,()),rfl,?_⟩
 refine wp_callW (c_order2 (a:=p1) (b:=p2) C o2 kb (by omega) (by omega) ow2 ne) fun t vs h3 hx=>?_
 obtain ⟨rfl,c3,p3,q3,z3,rfl,d3,o3,ow3⟩:=hx
 exact ⟨rfl,(_,_,()),rfl,s_ret ⟨rfl,(c1.trans c2 fun _ _ x=>x).trans c3 fun _ _ x=>x,q3,z3,rfl,by omega,o3,ow3⟩⟩
theorem c_choosePivot (C:ClM P S) {n a b:Nat} {s:Sl} {l:MkL} (o:PrO n h s l) (kb:Kb l) (h8:a+8≤b) (h50:b<a+50) (hb:b≤l.length) (hl:l.length≤1073741824) :
  Gives P (F_slices_choosePivotCmpFuncint___2 S s (a:Int) (b:Int) (cmpV S)) [.one (.int .i64), .one (.int .i64)] h fun (y:Int×Int×Unit) _=>∃ p:Nat,y.1=p∧a≤p∧p<b:=by
 unfold F_slices_choosePivotCmpFuncint___2 Gives
 refine s_allocL (k:=.i64) [0] (by intro x hx; rw [List.mem_singleton.1 hx]; exact fits_zero _) (by decide) fun h1 e1 o1=>s_not (s_not (s_not ?_))
 have o1':PrO n h1 s l:=(Chg.of_ext (F:=fun _=>False) e1).own o fun _ _ x=>x
 have ow:Own h.size 1 h1 ⟨some ⟨h.size,0,none⟩,1,1⟩ [i64v 0]:=o1.own
 have ne:¬ sBk s h.size:=fun ⟨x,hx,e⟩=>by have:=(o.lt hx).2; omega
 have hsub:subI .i64 (b:Int) (a:Int)=((b-a:Nat):Int):=by rw [sub_ok (by omega) (by omega)]; omega
 have hq:quoI .i64 ((b-a:Nat):Int) 4=(((b-a) / 4:Nat):Int):=by rw [quo_ok (by omega) (by omega) (by omega)]; push_cast; rfl
 rw [hsub,hq]
 have hm:∀ k:Nat,k≤3→addI .i64 (a:Int) (mulI .i64 (((b-a) / 4:Nat):Int) (k:Int))=((a+(b-a) / 4*k:Nat):Int):=fun k hk=>by
  have h1:(b-a) / 4*k≤(b-a) / 4*3:=Nat.mul_le_mul_left _ hk
  have h2:((((b-a) / 4:Nat):Int))*(k:Int)=(((b-a) / 4*k:Nat):Int):=by push_cast; rfl
  rw [mul_ok (by rw [h2]; omega) (by rw [h2]; omega),h2,add_ok (by omega) (by omega)]; push_cast; rfl
 have hm1:=hm 1 (by omega)
 have hm2:=hm 2 (by omega)
 have hm3:=hm 3 (by omega)
 refine wp_bind (fun t vs h'=>t=0∧∃ (p:Nat) (z:Int),vs=[i64v p]∧a≤p∧p<b∧Chg (fun i=>i=h.size) h1 h'∧Own h.size 1 h' ⟨some ⟨h.size,0,none⟩,1,1⟩ [i64v z]) ?_ ?_
 ·refine wp_ifB (fun hc=>?_) fun hc=>?_
  ·refine bind_val (tys:=[.one (.int .i64), .one (.int .i64), .one (.int .i64)]) (fun (y:Int×Int×Int×Unit) _=>y=(((a+(b-a) / 4*1:Nat):Int),((a+(b-a) / 4*2:Nat):Int),((a+(b-a) / 4*3:Nat):Int),())) (wp_ifB (fun hd=>?_) fun hd=>s_ret ⟨rfl,Ext.refl _,(_,_,_,()),rfl,?_⟩) fun y h2 e2 hy=>?_
   ·rw [geI_iff] at hd; omega
   ·exact Prod.ext hm1 (Prod.ext hm2 (Prod.ext hm3 rfl))
   ·subst hy
    dsimp only
    refine wp_callW (c_median C ((Chg.of_ext (F:=fun _=>False) e2).own o1' fun _ _ x=>x) kb (by omega) (by omega) (by omega) ((Chg.of_ext (F:=fun _=>False) e2).own ow fun _ _ x=>x) ne) fun t vs h3 hx=>?_
    obtain ⟨rfl,c3,p,z,rfl,hp,o3,ow3⟩:=hx
    exact ⟨rfl,(_,()),rfl,s_ret ⟨rfl,p,z,rfl,by omega,by omega,Chg.pre e2 c3,ow3⟩⟩
  ·rw [geI_not] at hc; omega
 ·rintro t vs h2 ⟨rfl,p,z,rfl,hp1,hp2,c2,ow2⟩
  have e2:Ext h h2:=⟨Nat.le_trans e1.1 c2.1,fun i hi=>by rw [c2.2.1 i (Nat.lt_of_lt_of_le hi e1.1) (by omega)]; exact e1.2.1 i hi,fun x hx=>c2.2.2 x (e1.2.2 x hx)⟩
  refine s_tag (s_castI (wp_load1 (b:=.int .i64) ⟨h.size,0,none⟩ z rfl (by have:=cells_iff.1 ow2.cells 0 _ rfl; rw [add_zero'] at this; exact this) ?_))
  exact wp_ifB (fun _=>s_ret ⟨rfl,e2,(_,_,()),rfl,p,rfl,hp1,hp2⟩) fun _=>wp_ifB (fun _=>s_ret ⟨rfl,e2,(_,_,()),rfl,p,rfl,hp1,hp2⟩) fun _=>s_ret ⟨rfl,e2,(_,_,()),rfl,p,rfl,hp1,hp2⟩
theorem c_reverse {n a b:Nat} {s:Sl} {l:MkL} {cmp:Value} (o:PrO n h s l) (hab:a≤b) (h1b:1≤b) (hb:b≤l.length) (hl:l.length≤1073741824) :
  Sorts P (F_slices_reverseRangeCmpFuncint___2 S s (a:Int) (b:Int) cmp) [] n s a b l h fun _ _=>True:=by
 unfold F_slices_reverseRangeCmpFuncint___2 Sorts
 have hs1:subI .i64 (b:Int) 1=((b-1:Nat):Int):=by rw [sub_ok (by omega) (by omega)]; omega
 rw [hs1]
 refine wp_while (fun (q:Int×Int×Unit) h'=>∃ (i j:Nat) (l1:MkL),q.1=(i:Int)∧q.2.1=(j:Int)∧a≤i∧j<b∧PrO n h' s l1∧Sg a b l l1∧Chg (sBk s) h h') (fun q _=>q.2.1.toNat)
  (fun t vs h'=>t=2∧vs=[]∧∃ l1,PrO n h' s l1∧Sg a b l l1∧Chg (sBk s) h h') ⟨a,b-1,l,rfl,rfl,Nat.le_refl _,by omega,o,Sg.refl _ _ _,Chg.refl _ _⟩ ?_ ?_
 ·rintro ⟨(qi:Int),(qj:Int),u⟩ h1 ⟨i,j,l1,hi,hj,hai,hjb,o1,g1,c1⟩
  dsimp only at hi hj ⊢
  subst hi; subst hj
  have len1:=g1.len
  refine wp_ifB (fun hc=>?_) fun hc=>?_
  ·rw [ltI_iff] at hc
   refine s_swap (p:=j) (q:=i) o1 rfl rfl (by omega) (by omega) fun h2 o2 c2=>?_
   have e1:addI .i64 (i:Int) 1=((i+1:Nat):Int):=by rw [add_ok (by omega) (by omega)]; push_cast; rfl
   have e2:subI .i64 (j:Int) 1=((j-1:Nat):Int):=by rw [sub_ok (by omega) (by omega)]; omega
   rw [e1,e2]
   exact s_ret ⟨fun _=>⟨(((i+1:Nat):Int),((j-1:Nat):Int),()),rfl,⟨i+1,j-1,_,rfl,rfl,by omega,by omega,o2,g1.trans (swp_sg (by omega) (by omega) (by omega) (by omega)),c1.trans c2 fun _ _ x=>x⟩,by dsimp only; omega⟩,fun hh=>absurd rfl hh⟩
  ·exact s_ret ⟨fun hh=>absurd hh (by decide),fun _=>⟨rfl,rfl,l1,o1,g1,c1⟩⟩
 ·rintro t vs h1 ⟨rfl,rfl,l1,o1,g1,c1⟩
  exact s_tag (s_cast0 (s_ret ⟨rfl,c1,(),l1,rfl,o1,g1,trivial⟩))
def goodL (x:Nat) (y:Int):Bool:=decide (0≤y) && decide (y≤7) && decide (x<2 ^ y.toNat) && (decide (x=0) || decide (2 ^ y.toNat≤2*x))
theorem tab_ok {T:ByteArray} (hT:∀ x:Fin 64,goodL x.val (byteAt T (x.val:Int))=true) {x:Nat} (hx:x<64):goodL x (byteAt T (x:Int))=true:=hT ⟨x,hx⟩
theorem goodL_iff {x:Nat} {y:Int} (h:goodL x y=true):0≤y∧y≤7∧x<2 ^ y.toNat∧(x=0∨2 ^ y.toNat≤2*x):=by
 unfold goodL at h
 simp only [Bool.and_eq_true,Bool.or_eq_true,decide_eq_true_iff] at h
 exact ⟨h.1.1.1,h.1.1.2,h.1.2,h.2⟩
theorem c_BLen {x:Nat} (hx:x<64):Gives P (F_math_bits_Len S (x:Int)) [.one (.int .i64)] h fun (y:Int×Unit) _=>goodL x y.1=true:=by
 unfold F_math_bits_Len Gives
 refine wp_call (R:=fun (y:Int×Unit) _=>goodL x y.1=true) ?_ fun ⟨(y:Int),_⟩ h1 e1 hy=>s_ret ⟨rfl,e1,(y,()),rfl,hy⟩
 unfold F_math_bits_Len64 Gives
 refine bind_val (tys:=[.one (.int .u64), .one (.int .i64)]) (fun (y:Int×Int×Unit) _=>y=((x:Int),0,())) (wp_ifB (fun hc=>?_) fun hc=>s_ret ⟨rfl,Ext.refl _,((x:Int),0,()),rfl,rfl⟩) fun y h1 e1 hy=>?_
 ·rw [geI_iff] at hc; omega
 subst hy
 dsimp only
 refine bind_val (tys:=[.one (.int .u64), .one (.int .i64)]) (fun (y:Int×Int×Unit) _=>y=((x:Int),0,())) (wp_ifB (fun hc=>?_) fun hc=>s_ret ⟨rfl,Ext.refl _,((x:Int),0,()),rfl,rfl⟩) fun y h2 e2 hy=>?_
 ·rw [geI_iff] at hc; omega
 subst hy
 dsimp only
 refine bind_val (tys:=[.one (.int .u64), .one (.int .i64)]) (fun (y:Int×Int×Unit) _=>y=((x:Int),0,())) (wp_ifB (fun hc=>?_) fun hc=>s_ret ⟨rfl,Ext.refl _,((x:Int),0,()),rfl,rfl⟩) fun y h3 e3 hy=>?_
 ·rw [geI_iff] at hc; omega
 subst hy
 dsimp only
 rw [byte_ok (a:=(x:Int)) (by omega) (by omega)]
 refine wp_grd (inB_is.2 ⟨by omega,by omega⟩) ?_
 have key:∀ {T:ByteArray},(∀ x:Fin 64,goodL x.val (byteAt T (x.val:Int))=true)→goodL x (addI .i64 0 (wrapI .i64 (byteAt T (x:Int))))=true:=fun hT=>by
  have h1:=tab_ok hT hx
  have h2:=goodL_iff h1
  rw [wrap_ok (by omega) (by omega),add_ok (by omega) (by omega),Int.zero_add]
  exact h1
 exact s_ret ⟨rfl,(e1.trans e2).trans e3,(_,()),rfl,key (by decide +kernel)⟩
theorem shl_pow {y:Int} (h0:0≤y) (h1:y≤7):shlI .u64 1 y=((2 ^ y.toNat:Nat):Int):=by
 obtain ⟨k,rfl⟩:=Int.eq_ofNat_of_zero_le h0
 have hk:k≤7:=by omega
 match k,hk with
 | 0,_=>decide
 | 1,_=>decide
 | 2,_=>decide
 | 3,_=>decide
 | 4,_=>decide
 | 5,_=>decide
 | 6,_=>decide
 | 7,_=>decide
theorem u64_ok {x:Nat} (hx:x<64):wrapI .u64 (x:Int)=(x:Int):=by
 have:∀ y:Fin 64,wrapI .u64 (y.val:Int)=(y.val:Int):=by decide +kernel
 exact this ⟨x,hx⟩
theorem c_nextPow {x:Nat} (hx:x<64):Gives P (F_slices_nextPowerOfTwo S (x:Int)) [.one (.int .u64)] h fun (y:Int×Unit) _=>∃ k:Nat,k≤7∧y.1=((2 ^ k:Nat):Int)∧x<2 ^ k∧(x=0∨2 ^ k≤2*x):=by
 unfold F_slices_nextPowerOfTwo Gives
 rw [u64_ok hx]
 refine wp_call (c_BLen hx) fun ⟨(y:Int),_⟩ h1 e1 hy=>?_
 have hy:=goodL_iff hy
 have hy:0≤y∧y≤7∧x<2 ^ y.toNat∧(x=0∨2 ^ y.toNat≤2*x):=hy
 dsimp only
 refine wp_grd (by rw [notB_iff,ltI_not]; exact hy.1) ?_
 exact s_ret ⟨rfl,e1,(_,()),rfl,y.toNat,by omega,shl_pow hy.1 hy.2.1,hy.2.2⟩
theorem c_xor {m:Nat} {w:Addr} {z:Int} (ow:Own m 1 h ⟨some w,1,1⟩ [.int .u64 z]):wp P (F_xorshift_Next S (some w)) h fun t vs h'=>t=0∧Chg (fun i=>i=w.block) h h'∧∃ z':Int,vs=[.int .u64 z']∧Own m 1 h' ⟨some w,1,1⟩ [.int .u64 z']:=by
 unfold F_xorshift_Next
 have ld:∀ {g:Heap} {z:Int} {K:Int→Prog} {Q:Nat→List Value→Heap→Prop},Own m 1 g ⟨some w,1,1⟩ [.int .u64 z]→wp P (K z) g Q→wp P (grd (someB (some w)) <| .load (.one (.int .u64)) (some w) K) g Q:=fun o hk=>
  wp_grd rfl (wp_load1 (b:=.int .u64) w _ rfl (by have:=cells_iff.1 o.cells 0 _ rfl; rw [add_zero'] at this; exact this) hk)
 have stt:∀ {g:Heap} {z z':Int} {K:Prog} {Q:Nat→List Value→Heap→Prop},Own m 1 g ⟨some w,1,1⟩ [.int .u64 z]→(∀ g',Own m 1 g' ⟨some w,1,1⟩ [.int .u64 z']→Chg (fun i=>i=w.block) g g'→wp P K g' Q)→wp P (grd (someB (some w)) <| .store (some w) [.int .u64 z'] K) g Q:=fun o hk=>
  wp_grd rfl (s_putV [.int .u64 _] o rfl (by intro v hv; rw [List.mem_singleton.1 hv]; rfl) fun g' o' u' _=>hk g' o' (Chg.of_upd u' fun x hx _=>by cases hx; rfl))
 refine ld ow (ld ow (s_not (stt ow fun h1 o1 c1=>ld o1 (ld o1 (s_not (stt o1 fun h2 o2 c2=>ld o2 (ld o2 (s_not (stt o2 fun h3 o3 c3=>ld o3 ?_)))))))))
 exact s_ret ⟨rfl,(c1.trans c2 fun _ _ x=>x).trans c3 fun _ _ x=>x,_,rfl,o3⟩
theorem and_u64 (a:Int) {k:Nat} (hk:k≤7):0≤andI .u64 a (subI .u64 ((2 ^ k:Nat):Int) 1)∧andI .u64 a (subI .u64 ((2 ^ k:Nat):Int) 1)<((2 ^ k:Nat):Int):=by
 have hs:subI .u64 ((2 ^ k:Nat):Int) 1=((2 ^ k-1:Nat):Int):=by
  match k,hk with
  | 0,_=>decide
  | 1,_=>decide
  | 2,_=>decide
  | 3,_=>decide
  | 4,_=>decide
  | 5,_=>decide
  | 6,_=>decide
  | 7,_=>decide
 have hpos:0<2 ^ k:=Nat.two_pow_pos k
 have hp:2 ^ k≤2 ^ 7:=Nat.pow_le_pow_right (by decide) hk
 have hp7:(2:Nat) ^ 7=128:=rfl
 rw [hs]
 unfold andI
 have hle:(BitVec.ofInt 64 a &&& BitVec.ofInt 64 ((2 ^ k-1:Nat):Int)).toNat≤2 ^ k-1:=by
  rw [BitVec.toNat_and,ofInt64_nat (2 ^ k-1) (by omega)]
  exact Nat.and_le_right
 have hw:IntKind.u64.wrap (((BitVec.ofInt 64 a &&& BitVec.ofInt 64 ((2 ^ k-1:Nat):Int)).toNat:Nat):Int)=(((BitVec.ofInt 64 a &&& BitVec.ofInt 64 ((2 ^ k-1:Nat):Int)).toNat:Nat):Int):=by
  generalize (BitVec.ofInt 64 a &&& BitVec.ofInt 64 ((2 ^ k-1:Nat):Int)).toNat=r at hle
  have:∀ y:Fin 128,IntKind.u64.wrap (y.val:Int)=(y.val:Int):=by decide +kernel
  exact this ⟨r,by omega⟩
 show 0≤IntKind.u64.wrap _∧IntKind.u64.wrap _<_
 rw [show IntKind.u64.wrap ((BitVec.ofInt IntKind.u64.bits a &&& BitVec.ofInt IntKind.u64.bits ((2 ^ k-1:Nat):Int)).toNat:Int)=_ from hw]
 omega
theorem c_break {n a b:Nat} {s:Sl} {l:MkL} {cmp:Value} (o:PrO n h s l) (h8:a+8≤b) (h50:b<a+50) (hb:b≤l.length) (hl:l.length≤1073741824) :
  Sorts P (F_slices_breakPatternsCmpFuncint___2 S s (a:Int) (b:Int) cmp) [] n s a b l h fun _ _=>True:=by
 unfold F_slices_breakPatternsCmpFuncint___2 Sorts
 have hsub:subI .i64 (b:Int) (a:Int)=((b-a:Nat):Int):=by rw [sub_ok (by omega) (by omega)]; omega
 have hq:quoI .i64 ((b-a:Nat):Int) 4=(((b-a) / 4:Nat):Int):=by rw [quo_ok (by omega) (by omega) (by omega)]; push_cast; rfl
 rw [hsub]
 refine wp_ifB (fun hc=>?_) fun hc=>by rw [geI_not] at hc; omega
 refine fun el=>?_
 have e1:Ext h (h.push (.cells [.int .u64 0].toArray el)):=Ext.push ..
 have ow:Own h.size 1 (h.push (.cells [.int .u64 0].toArray el)) ⟨some ⟨h.size,0,none⟩,1,1⟩ [.int .u64 0]:=own_alloc rfl (by decide) (by decide)
 generalize h.push (.cells [.int .u64 0].toArray el)=h1 at e1 ow ⊢
 have ne:¬ sBk s h.size:=fun ⟨x,hx,e⟩=>by have:=(o.lt hx).2; omega
 refine s_putV [.int .u64 (wrapI .u64 ((b-a:Nat):Int))] ow rfl (by intro v hv; rw [List.mem_singleton.1 hv]; rfl) fun h2 ow2 u2 z2=>?_
 have c2:Chg (fun i=>i=h.size) h1 h2:=Chg.of_upd u2 fun x hx _=>by cases hx; rfl
 refine wp_call (c_nextPow (x:=b-a) (by omega)) fun ⟨(pw:Int),_⟩ h3 e3 hpw=>?_
 obtain ⟨k,hk,hpw,hk1,hk2⟩:=hpw
 have hpw:pw=((2 ^ k:Nat):Int):=hpw
 subst hpw
 dsimp only
 refine s_not ?_
 rw [hq]
 have hidx:addI .i64 (a:Int) (mulI .i64 (((b-a) / 4:Nat):Int) 2)=((a+(b-a) / 4*2:Nat):Int):=by
  rw [mul_ok (by omega) (by omega),add_ok (by omega) (by omega)]; push_cast; rfl
 rw [hidx]
 obtain ⟨ix,hix⟩:∃ ix,ix=a+(b-a) / 4*2:=⟨_,rfl⟩
 rw [← hix]
 have hi1:subI .i64 (ix:Int) 1=((ix-1:Nat):Int):=by rw [sub_ok (by omega) (by omega)]; omega
 have hi2:addI .i64 (ix:Int) 1=((ix+1:Nat):Int):=by rw [add_ok (by omega) (by omega)]; push_cast; rfl
 rw [hi1,hi2]
 have o3:PrO n h3 s l:=(Chg.of_ext (F:=fun _=>False) e3).own (c2.own ((Chg.of_ext (F:=fun _=>False) e1).own o fun _ _ x=>x) fun x hx e=>ne ⟨x,hx,e⟩) fun _ _ x=>x
 have ow3:=(Chg.of_ext (F:=fun _=>False) e3).own ow2 fun _ _ x=>x
 let F:Nat→Prop:=fun i=>sBk s i∨i=h.size
 have c3:Chg F h h3:=(Chg.pre e1 (c2.mono (G:=F) fun i _ e=>.inr e)).ext e3
 have fin:∀ {g:Heap},Chg F h g→Chg (sBk s) h g:=fun c=>c.mono fun i hi hf=>by rcases hf with hf | hf; exact hf; omega
 refine wp_while (fun (q:Int×Unit) h'=>∃ (i:Nat) (l1:MkL) (z:Int),q.1=(i:Int)∧ix-1≤i∧PrO n h' s l1∧Sg a b l l1∧Chg F h h'∧Own h.size 1 h' ⟨some ⟨h.size,0,none⟩,1,1⟩ [.int .u64 z]) (fun q _=>((ix:Int)+2-q.1).toNat)
  (fun t vs h'=>t=2∧vs=[]∧∃ l1,PrO n h' s l1∧Sg a b l l1∧Chg F h h') ⟨ix-1,l,_,rfl,Nat.le_refl _,o3,Sg.refl _ _ _,c3,ow3⟩ ?_ ?_
 ·rintro ⟨(q:Int),u⟩ h4 ⟨i,l1,z,hi,hii,o4,g4,c4,ow4⟩
  dsimp only at hi ⊢
  subst hi
  have len4:=g4.len
  refine s_not (wp_ifB (fun hd=>?_) fun hd=>?_)
  ·rw [leI_iff] at hd
   refine wp_callW (c_xor ow4) fun t vs h5 hx=>?_
   obtain ⟨rfl,c5,z',rfl,ow5⟩:=hx
   refine ⟨rfl,(z',()),rfl,?_⟩
   dsimp only
   have ha:=and_u64 z' hk
   generalize andI .u64 z' (subI .u64 ((2 ^ k:Nat):Int) 1)=rr at ha
   have hp:(2:Nat) ^ k≤2 ^ 7:=Nat.pow_le_pow_right (by decide) hk
   have hp7:(2:Nat) ^ 7=128:=rfl
   rw [wrap_ok (a:=rr) (by omega) (by omega)]
   refine bind_val (tys:=[.one (.int .i64)]) (fun (y:Int×Unit) _=>0≤y.1∧y.1<((b-a:Nat):Int)) (wp_ifB (fun he=>?_) fun he=>?_) fun ⟨(oth:Int),_⟩ h6 e6 hoth=>?_
   ·rw [geI_iff] at he
    rw [sub_ok (by omega) (by omega)]
    exact s_ret ⟨rfl,Ext.refl _,(_,()),rfl,by dsimp only; omega,by dsimp only; omega⟩
   ·rw [geI_not] at he
    exact s_ret ⟨rfl,Ext.refl _,(rr,()),rfl,by dsimp only; omega,by dsimp only; omega⟩
   ·have hoth:0≤oth∧oth<((b-a:Nat):Int):=hoth
    obtain ⟨ot,rfl⟩:=Int.eq_ofNat_of_zero_le hoth.1
    dsimp only
    have hao:addI .i64 (a:Int) (ot:Int)=((a+ot:Nat):Int):=by rw [add_ok (by omega) (by omega)]; push_cast; rfl
    rw [hao]
    have o6:PrO n h6 s l1:=(Chg.of_ext (F:=fun _=>False) e6).own (c5.own o4 fun x hx e=>ne ⟨x,hx,e⟩) fun _ _ x=>x
    have ow6:=(Chg.of_ext (F:=fun _=>False) e6).own ow5 fun _ _ x=>x
    refine s_swap (p:=a+ot) (q:=i) o6 rfl rfl (by omega) (by omega) fun h7 o7 c7=>?_
    have e1':addI .i64 (i:Int) 1=((i+1:Nat):Int):=by rw [add_ok (by omega) (by omega)]; push_cast; rfl
    rw [e1']
    have c47:Chg F h4 h7:=((c5.mono (G:=F) fun i _ e=>.inr e).ext e6).trans (c7.mono (G:=F) fun i _ e=>.inl e) fun _ _ x=>x
    exact s_ret ⟨fun _=>⟨(((i+1:Nat):Int),()),rfl,⟨i+1,_,_,rfl,by omega,o7,g4.trans (swp_sg (by omega) (by omega) (by omega) (by omega)),c4.trans c47 fun _ _ x=>x,c7.own ow6 fun x hx hf=>by cases hx; exact ne hf⟩,by dsimp only; omega⟩,fun hh=>absurd rfl hh⟩
  ·exact s_ret ⟨fun hh=>absurd hh (by decide),fun _=>⟨rfl,rfl,l1,o4,g4,c4⟩⟩
 ·rintro t vs h4 ⟨rfl,rfl,l1,o4,g4,c4⟩
  exact s_tag (s_cast0 (s_ret ⟨rfl,fin c4,(),l1,rfl,o4,g4,trivial⟩))
end Go.Sw.Hist

set_option linter.unusedVariables false
set_option linter.unusedSimpArgs false
set_option maxRecDepth 100000
namespace Go.Sw.Hist
open Go.Sw.Any Go.Sw.Codec Go.Sw.Piece
variable {P:Program} {S:Ids} {h:Heap} {Q:Nat→List Value→Heap→Prop}
theorem s_up (C:ClM P S) {n a b i0:Nat} {jx:Nat} {s:Sl} {l:MkL} {tg:Nat} {K:Nat→List Value→Prog} (o:PrO n h s l) (kb:Kb l) (ht:tg≠0) (ha:a<l.length) (hj:jx<l.length) (hl:l.length≤1073741824) (hi0:i0≤jx+1) {test:Int→Bool} (htest:∀ i:Nat,test (i:Int)=true↔i≤jx)
  (hk:∀ (i:Nat) (h':Heap),Ext h h'→PrO n h' s l→i0≤i→i≤jx+1→(∀ p,i0≤p→p<i→ky l p<ky l a)→(i≤jx→ky l a≤ky l i)→wp P (K tg [i64v i]) h' Q) :
  wp P (.bind (.loop [.one (.int .i64)] ((i0:Int),()) fun (r:Int×Unit)=>
   .bind (ifB (test r.1) (grd (andB (someB s.base) (inB r.1 s.len)) <| .load (.agg [.int .i64, .int .i64]) (shiftTo s.base (mulN (toN r.1) 2)) fun (r1:Int×Int×Unit)=>
     grd (andB (someB s.base) (inB (a:Int) s.len)) <| .load (.agg [.int .i64, .int .i64]) (shiftTo s.base (mulN (toN (a:Int)) 2)) fun (r2:Int×Int×Unit)=>
     .callv (cmpV S) [.agg #[i64v r1.1,i64v r1.2.1], .agg #[i64v r2.1,i64v r2.2.1]] [.one (.int .i64)] fun (z:Int×Unit)=>.ret 0 [.bool (ltI z.1 0)]) <|
    .ret 0 [.bool false]) fun k vs=>ifB (eqN k 0) (.cast [.one .bool] vs fun (q:Bool×Unit)=>ifB q.1 (.ret 0 [i64v (addI .i64 r.1 1)]) <| .ret tg [i64v r.1]) .fail) K) h Q:=by
 refine wp_while (fun (q:Int×Unit) h'=>∃ i:Nat,q.1=(i:Int)∧i0≤i∧i≤jx+1∧Ext h h'∧PrO n h' s l∧∀ p,i0≤p→p<i→ky l p<ky l a) (fun q _=>((jx:Int)+1-q.1).toNat)
  (fun t vs h'=>t=tg∧∃ i:Nat,vs=[i64v i]∧i0≤i∧i≤jx+1∧Ext h h'∧PrO n h' s l∧(∀ p,i0≤p→p<i→ky l p<ky l a)∧(i≤jx→ky l a≤ky l i)) ⟨i0,rfl,Nat.le_refl _,hi0,Ext.refl _,o,fun p h1 h2=>by omega⟩ ?_ ?_
 ·rintro ⟨(q:Int),u⟩ h1 ⟨i,hi,hi1,hi2,e1,o1,hp⟩
  dsimp only at hi ⊢
  subst hi
  refine wp_bind (fun t vs h'=>t=0∧∃ bb:Bool,vs=[.bool bb]∧Ext h1 h'∧PrO n h' s l∧(bb=true↔i≤jx∧ky l i<ky l a)) (wp_ifB (fun hd=>?_) fun hd=>?_) ?_
  ·have hd:=(htest i).1 hd
   refine s_less C o1 kb rfl rfl (by omega) ha fun h2 e2 o2=>s_ret ⟨rfl,_,rfl,e2,o2,?_⟩
   rw [ltI_iff]; dsimp only; omega
  ·have hd:¬ i≤jx:=fun hh=>by rw [(htest i).2 hh] at hd; cases hd
   exact s_ret ⟨rfl,false,rfl,Ext.refl _,o1,⟨fun hh=>(by cases hh),fun hh=>by omega⟩⟩
  ·rintro t vs h2 ⟨rfl,bb,rfl,e2,o2,hbb⟩
   refine s_tag (s_castB (wp_ifB (fun hd=>?_) fun hd=>?_))
   ·dsimp only at hd
    have hd:=hbb.1 hd
    have e3:addI .i64 (i:Int) 1=((i+1:Nat):Int):=by rw [add_ok (by omega) (by omega)]; push_cast; rfl
    rw [e3]
    exact s_ret ⟨fun _=>⟨(((i+1:Nat):Int),()),rfl,⟨i+1,rfl,by omega,by omega,e1.trans e2,o2,fun p h1 h2=>by
     by_cases hpi:p=i
     ·rw [hpi]; exact hd.2
     ·exact hp p h1 (by omega)⟩,by dsimp only; omega⟩,fun hh=>absurd rfl hh⟩
   ·have hn:¬ (i≤jx∧ky l i<ky l a):=fun hh=>by dsimp only at hd; rw [hbb.2 hh] at hd; cases hd
    exact s_ret ⟨fun hh=>absurd hh ht,fun _=>⟨rfl,i,rfl,hi1,hi2,e1.trans e2,o2,hp,fun hh=>by omega⟩⟩
 ·rintro t vs h1 ⟨rfl,i,rfl,a1,a2,a3,a4,a5,a6⟩
  exact hk i h1 a3 a4 a1 a2 a5 a6
theorem s_dn (C:ClM P S) {n a b i0 j0:Nat} {s:Sl} {l:MkL} {tg:Nat} {K:Nat→List Value→Prog} (o:PrO n h s l) (kb:Kb l) (ht:tg≠0) (ha:a<l.length) (hj:j0<l.length) (hl:l.length≤1073741824) (hi0:i0≤j0+1) (hi1:1≤i0)
  (hk:∀ (j:Nat) (h':Heap),Ext h h'→PrO n h' s l→i0≤j+1→j≤j0→(∀ p,j<p→p≤j0→ky l a≤ky l p)→(i0≤j→ky l j<ky l a)→wp P (K tg [i64v j]) h' Q) :
  wp P (.bind (.loop [.one (.int .i64)] ((j0:Int),()) fun (r:Int×Unit)=>
   .bind (ifB (leI (i0:Int) r.1) (grd (andB (someB s.base) (inB r.1 s.len)) <| .load (.agg [.int .i64, .int .i64]) (shiftTo s.base (mulN (toN r.1) 2)) fun (r1:Int×Int×Unit)=>
     grd (andB (someB s.base) (inB (a:Int) s.len)) <| .load (.agg [.int .i64, .int .i64]) (shiftTo s.base (mulN (toN (a:Int)) 2)) fun (r2:Int×Int×Unit)=>
     .callv (cmpV S) [.agg #[i64v r1.1,i64v r1.2.1], .agg #[i64v r2.1,i64v r2.2.1]] [.one (.int .i64)] fun (z:Int×Unit)=>.ret 0 [.bool (notB (ltI z.1 0))]) <|
    .ret 0 [.bool false]) fun k vs=>ifB (eqN k 0) (.cast [.one .bool] vs fun (q:Bool×Unit)=>ifB q.1 (.ret 0 [i64v (subI .i64 r.1 1)]) <| .ret tg [i64v r.1]) .fail) K) h Q:=by
 refine wp_while (fun (q:Int×Unit) h'=>∃ j:Nat,q.1=(j:Int)∧i0≤j+1∧j≤j0∧Ext h h'∧PrO n h' s l∧∀ p,j<p→p≤j0→ky l a≤ky l p) (fun q _=>q.1.toNat)
  (fun t vs h'=>t=tg∧∃ j:Nat,vs=[i64v j]∧i0≤j+1∧j≤j0∧Ext h h'∧PrO n h' s l∧(∀ p,j<p→p≤j0→ky l a≤ky l p)∧(i0≤j→ky l j<ky l a)) ⟨j0,rfl,hi0,Nat.le_refl _,Ext.refl _,o,fun p h1 h2=>by omega⟩ ?_ ?_
 ·rintro ⟨(q:Int),u⟩ h1 ⟨j,hj',hj1,hj2,e1,o1,hp⟩
  dsimp only at hj' ⊢
  subst hj'
  refine wp_bind (fun t vs h'=>t=0∧∃ bb:Bool,vs=[.bool bb]∧Ext h1 h'∧PrO n h' s l∧(bb=true↔i0≤j∧ky l a≤ky l j)) (wp_ifB (fun hd=>?_) fun hd=>?_) ?_
  ·rw [leI_iff] at hd
   refine s_less C o1 kb rfl rfl (by omega) ha fun h2 e2 o2=>s_ret ⟨rfl,_,rfl,e2,o2,?_⟩
   rw [notB_iff,ltI_not]; dsimp only; omega
  ·rw [leI_not] at hd
   exact s_ret ⟨rfl,false,rfl,Ext.refl _,o1,⟨fun hh=>(by cases hh),fun hh=>by omega⟩⟩
  ·rintro t vs h2 ⟨rfl,bb,rfl,e2,o2,hbb⟩
   refine s_tag (s_castB (wp_ifB (fun hd=>?_) fun hd=>?_))
   ·dsimp only at hd
    have hd:=hbb.1 hd
    have e3:subI .i64 (j:Int) 1=((j-1:Nat):Int):=by rw [sub_ok (by omega) (by omega)]; omega
    rw [e3]
    exact s_ret ⟨fun _=>⟨(((j-1:Nat):Int),()),rfl,⟨j-1,rfl,by omega,by omega,e1.trans e2,o2,fun p h1 h2=>by
     by_cases hpi:p=j
     ·rw [hpi]; exact hd.2
     ·exact hp p (by omega) h2⟩,by dsimp only; omega⟩,fun hh=>absurd rfl hh⟩
   ·have hn:¬ (i0≤j∧ky l a≤ky l j):=fun hh=>by dsimp only at hd; rw [hbb.2 hh] at hd; cases hd
    exact s_ret ⟨fun hh=>absurd hh ht,fun _=>⟨rfl,j,rfl,hj1,hj2,e1.trans e2,o2,hp,fun hh=>by omega⟩⟩
 ·rintro t vs h1 ⟨rfl,j,rfl,a1,a2,a3,a4,a5,a6⟩
  exact hk j h1 a3 a4 a1 a2 a5 a6
def Parted (a b m:Nat) (l:MkL):Prop:=a≤m∧m<b∧(∀ i,a≤i→i<m→ky l i≤ky l m)∧∀ i,m<i→i<b→ky l m≤ky l i
theorem parted_end {a b i j:Nat} {l:MkL} (hab:a<b) (hb:b≤l.length) (hij:i=j+1) (hai:a+1≤i) (hjb:j<b) (h1:∀ p,a+1≤p→p<i→ky l p<ky l a) (h2:∀ p,j<p→p<b→ky l a≤ky l p):Parted a b j (swp l a j):=by
 have kyS:=swp_ky (l:=l) (p:=a) (q:=j) (by omega) (by omega)
 refine ⟨by omega,hjb,fun p hp1 hp2=>?_,fun p hp1 hp2=>?_⟩
 ·rw [kyS,kyS,if_neg (show ¬ j=a by omega),if_pos rfl]
  by_cases hpa:p=a
  ·rw [if_pos hpa]; exact Int.le_of_lt (h1 j (by omega) (by omega))
  ·rw [if_neg hpa,if_neg (by omega)]; exact Int.le_of_lt (h1 p (by omega) (by omega))
 ·rw [kyS p,if_neg (by omega),if_neg (by omega)]
  have:ky (swp l a j) j=ky l a:=by
   rw [kyS]
   by_cases hja:j=a
   ·rw [if_pos hja,hja]
   ·rw [if_neg hja,if_pos rfl]
  rw [this]; exact h2 p hp1 hp2
theorem c_partition (C:ClM P S) {n a b pv:Nat} {s:Sl} {l:MkL} (o:PrO n h s l) (kb:Kb l) (hp1:a≤pv) (hp2:pv<b) (hb:b≤l.length) (hl:l.length≤1073741824) :
  Sorts P (F_slices_partitionCmpFuncint___2 S s (a:Int) (b:Int) (pv:Int) (cmpV S)) [.one (.int .i64), .one .bool] n s a b l h fun (y:Int×Bool×Unit) l'=>∃ m:Nat,y.1=m∧Parted a b m l':=by
 unfold F_slices_partitionCmpFuncint___2 Sorts
 refine s_swap (p:=pv) (q:=a) o rfl rfl (by omega) (by omega) fun h1 o1 c1=>?_
 have g1:Sg a b l (swp l pv a):=swp_sg (by omega) (by omega) (by omega) (by omega)
 generalize swp l pv a=l1 at o1 g1
 have len1:=g1.len
 have kb1:=g1.kb kb
 have ea:addI .i64 (a:Int) 1=((a+1:Nat):Int):=by rw [add_ok (by omega) (by omega)]; push_cast; rfl
 have eb:subI .i64 (b:Int) 1=((b-1:Nat):Int):=by rw [sub_ok (by omega) (by omega)]; omega
 rw [ea,eb]
 have tst:∀ jx i:Nat,leI (i:Int) (jx:Int)=true↔i≤jx:=fun jx i=>by rw [leI_iff]; omega
 refine s_up C (b:=b) (i0:=a+1) (jx:=b-1) (tg:=2) o1 kb1 (by decide) (by omega) (by omega) (by omega) (by omega) (test:=fun x=>leI x ((b-1:Nat):Int)) (tst (b-1)) fun i h2 e2 o2 hi1 hi2 hlo hge=>?_
 refine s_tag (s_castI ?_)
 dsimp only
 refine s_dn C (b:=b) (i0:=i) (j0:=b-1) (tg:=4) o2 kb1 (by decide) (by omega) (by omega) (by omega) (by omega) (by omega) fun j h3 e3 o3 hj1 hj2 hhi hlt=>?_
 refine s_tag (s_castI ?_)
 dsimp only
 have c13:Chg (sBk s) h h3:=(c1.ext e2).ext e3
 refine wp_ifB (fun hc=>?_) fun hc=>?_
 ·rw [gtI_iff] at hc
  refine s_swap (p:=a) (q:=j) o3 rfl rfl (by omega) (by omega) fun h4 o4 c4=>?_
  refine s_ret ⟨rfl,c13.trans c4 fun _ _ x=>x,((j:Int),true,()),_,rfl,o4,g1.trans (swp_sg (by omega) (by omega) (by omega) (by omega)),j,rfl,?_⟩
  exact parted_end (by omega) (by omega) (i:=i) (by omega) hi1 (by omega) hlo fun p h1 h2=>hhi p h1 (by omega)
 rw [gtI_not] at hc
 have hij:i<j:=by
  have h1:=hge (by omega)
  have h2:=hlt (by omega)
  by_cases he:i=j
  ·subst he; omega
  ·omega
 refine s_swap (p:=j) (q:=i) o3 rfl rfl (by omega) (by omega) fun h4 o4 c4=>?_
 have kyS:=swp_ky (l:=l1) (p:=j) (q:=i) (by omega) (by omega)
 have g4:Sg a b l1 (swp l1 j i):=swp_sg (by omega) (by omega) (by omega) (by omega)
 have ei:addI .i64 (i:Int) 1=((i+1:Nat):Int):=by rw [add_ok (by omega) (by omega)]; push_cast; rfl
 have ej:subI .i64 (j:Int) 1=((j-1:Nat):Int):=by rw [sub_ok (by omega) (by omega)]; omega
 rw [ei,ej]
 have c14:Chg (sBk s) h h4:=c13.trans c4 fun _ _ x=>x
 have inv0:(∀ p,a+1≤p→p<i+1→ky (swp l1 j i) p<ky (swp l1 j i) a)∧∀ p,j-1<p→p<b→ky (swp l1 j i) a≤ky (swp l1 j i) p:=by
  have hka:ky (swp l1 j i) a=ky l1 a:=by rw [kyS,if_neg (by omega),if_neg (by omega)]
  rw [hka]
  refine ⟨fun p h1 h2=>?_,fun p h1 h2=>?_⟩
  ·rw [kyS,if_neg (by omega)]
   by_cases hpi:p=i
   ·rw [if_pos hpi]; exact hlt (by omega)
   ·rw [if_neg hpi]; exact hlo p h1 (by omega)
  ·rw [kyS]
   by_cases hpj:p=j
   ·rw [if_pos hpj]; exact hge (by omega)
   ·rw [if_neg hpj,if_neg (by omega)]; exact hhi p (by omega) (by omega)
 generalize swp l1 j i=l4 at o4 g4 inv0
 have g04:=g1.trans g4
 have len4:=g04.len
 refine wp_while (fun (q:Int×Int×Unit) h'=>∃ (i j:Nat) (l5:MkL),q.1=(i:Int)∧q.2.1=(j:Int)∧a+2≤i∧i≤j+1∧j<b∧PrO n h' s l5∧Sg a b l l5∧Chg (sBk s) h h'∧(∀ p,a+1≤p→p<i→ky l5 p<ky l5 a)∧∀ p,j<p→p<b→ky l5 a≤ky l5 p) (fun q _=>(q.2.1+2-q.1).toNat)
  (fun t vs h'=>t=6∧∃ (j:Nat) (l5:MkL),vs=[i64v j]∧a+1≤j∧j<b∧PrO n h' s l5∧Sg a b l l5∧Chg (sBk s) h h'∧(∀ p,a+1≤p→p<j+1→ky l5 p<ky l5 a)∧∀ p,j<p→p<b→ky l5 a≤ky l5 p)
  ⟨i+1,j-1,l4,rfl,rfl,by omega,by omega,by omega,o4,g04,c14,inv0.1,fun p h1 h2=>inv0.2 p (by omega) h2⟩ ?_ ?_
 ·rintro ⟨(qi:Int),(qj:Int),u⟩ h5 ⟨i,j,l5,hqi,hqj,hai,hij,hjb,o5,g5,c5,lo5,hi5⟩
  dsimp only at hqi hqj ⊢
  subst hqi; subst hqj
  have len5:=g5.len
  have kb5:=g5.kb kb
  refine s_up C (b:=b) (i0:=i) (jx:=j) (tg:=8) o5 kb5 (by decide) (by omega) (by omega) (by omega) (by omega) (test:=fun x=>leI x (j:Int)) (tst j) fun i' h6 e6 o6 hi1 hi2 hlo hge=>?_
  refine s_tag (s_castI ?_)
  dsimp only
  refine s_dn C (b:=b) (i0:=i') (j0:=j) (tg:=10) o6 kb5 (by decide) (by omega) (by omega) (by omega) (by omega) (by omega) fun j' h7 e7 o7 hj1 hj2 hhi hlt=>?_
  refine s_tag (s_castI ?_)
  dsimp only
  have c57:Chg (sBk s) h h7:=(c5.ext e6).ext e7
  have lo7:∀ p,a+1≤p→p<i'→ky l5 p<ky l5 a:=fun p h1 h2=>by
   by_cases hpi:p<i
   ·exact lo5 p h1 hpi
   ·exact hlo p (by omega) h2
  have hi7:∀ p,j'<p→p<b→ky l5 a≤ky l5 p:=fun p h1 h2=>by
   by_cases hpj:j<p
   ·exact hi5 p hpj h2
   ·exact hhi p h1 (by omega)
  refine wp_ifB (fun hc=>?_) fun hc=>?_
  ·rw [gtI_iff] at hc
   exact s_ret ⟨fun hh=>absurd hh (by decide),fun _=>⟨rfl,j',l5,rfl,by omega,by omega,o7,g5,c57,fun p h1 h2=>lo7 p h1 (by omega),hi7⟩⟩
  ·rw [gtI_not] at hc
   have hij':i'<j':=by
    have h1:=hge (by omega)
    have h2:=hlt (by omega)
    by_cases he:i'=j'
    ·subst he; omega
    ·omega
   refine s_swap (p:=j') (q:=i') o7 rfl rfl (by omega) (by omega) fun h8 o8 c8=>?_
   have kyS:=swp_ky (l:=l5) (p:=j') (q:=i') (by omega) (by omega)
   have ei:addI .i64 (i':Int) 1=((i'+1:Nat):Int):=by rw [add_ok (by omega) (by omega)]; push_cast; rfl
   have ej:subI .i64 (j':Int) 1=((j'-1:Nat):Int):=by rw [sub_ok (by omega) (by omega)]; omega
   rw [ei,ej]
   have hka:ky (swp l5 j' i') a=ky l5 a:=by rw [kyS,if_neg (by omega),if_neg (by omega)]
   refine s_ret ⟨fun _=>⟨(((i'+1:Nat):Int),((j'-1:Nat):Int),()),rfl,⟨i'+1,j'-1,_,rfl,rfl,by omega,by omega,by omega,o8,g5.trans (swp_sg (by omega) (by omega) (by omega) (by omega)),c57.trans c8 fun _ _ x=>x,fun p h1 h2=>?_,fun p h1 h2=>?_⟩,by dsimp only; omega⟩,fun hh=>absurd rfl hh⟩
   ·rw [hka,kyS,if_neg (by omega)]
    by_cases hpi:p=i'
    ·rw [if_pos hpi]; exact hlt (by omega)
    ·rw [if_neg hpi]; exact lo7 p h1 (by omega)
   ·rw [hka,kyS]
    by_cases hpj:p=j'
    ·rw [if_pos hpj]; exact hge (by omega)
    ·rw [if_neg hpj,if_neg (by omega)]; exact hi7 p (by omega) h2
 ·rintro t vs h5 ⟨rfl,j,l5,rfl,haj,hjb,o5,g5,c5,lo5,hi5⟩
  have len5:=g5.len
  refine s_tag (s_castI ?_)
  dsimp only
  refine s_swap (p:=a) (q:=j) o5 rfl rfl (by omega) (by omega) fun h6 o6 c6=>?_
  refine s_ret ⟨rfl,c5.trans c6 fun _ _ x=>x,((j:Int),false,()),_,rfl,o6,g5.trans (swp_sg (by omega) (by omega) (by omega) (by omega)),j,rfl,?_⟩
  exact parted_end (by omega) (by omega) (i:=j+1) rfl (by omega) hjb lo5 hi5
theorem c_partial (C:ClM P S) {n a b:Nat} {s:Sl} {l:MkL} (o:PrO n h s l) (kb:Kb l) (hab:a<b) (h50:b<a+50) (hb:b≤l.length) (hl:l.length≤1073741824) :
  Sorts P (F_slices_partialInsertionSortCmpFuncint___2 S s (a:Int) (b:Int) (cmpV S)) [.one .bool] n s a b l h fun (y:Bool×Unit) l'=>y.1=true→Srt a b l':=by
 unfold F_slices_partialInsertionSortCmpFuncint___2 Sorts
 have ea:addI .i64 (a:Int) 1=((a+1:Nat):Int):=by rw [add_ok (by omega) (by omega)]; push_cast; rfl
 have hsub:subI .i64 (b:Int) (a:Int)=((b-a:Nat):Int):=by rw [sub_ok (by omega) (by omega)]; omega
 rw [ea,hsub]
 refine wp_while (fun (q:Int×Int×Unit) h'=>q=(((a+1:Nat):Int),0,())∧h'=h) (fun q _=>0)
  (fun t vs h'=>t=1∧Ext h h'∧∃ bb:Bool,vs=[.bool bb]∧PrO n h' s l∧(bb=true→Srt a b l)) ⟨rfl,rfl⟩ ?_ ?_
 ·rintro q h' ⟨rfl,rfl⟩
  dsimp only
  refine wp_ifB (fun _=>?_) fun hc=>by cases hc
  refine wp_bind (fun t vs h2=>t=1∧Ext h' h2∧∃ bb:Bool,vs=[.bool bb]∧PrO n h2 s l∧(bb=true→Srt a b l)) ?_ ?_
  ·refine wp_while (fun (q:Int×Unit) h2=>∃ i:Nat,q.1=(i:Int)∧a+1≤i∧i≤b∧Ext h' h2∧PrO n h2 s l∧∀ p,a<p→p<i→ky l (p-1)≤ky l p) (fun q _=>((b:Int)-q.1).toNat)
    (fun t vs h2=>t=4∧∃ i:Nat,vs=[i64v i]∧Ext h' h2∧PrO n h2 s l∧∀ p,a<p→p<i→ky l (p-1)≤ky l p) ⟨a+1,rfl,Nat.le_refl _,by omega,Ext.refl _,o,fun p h1 h2=>by omega⟩ ?_ ?_
   ·rintro ⟨(q:Int),u⟩ h2 ⟨i,hi,hi1,hi2,e2,o2,hp⟩
    dsimp only at hi ⊢
    subst hi
    have em:subI .i64 (i:Int) 1=((i-1:Nat):Int):=by rw [sub_ok (by omega) (by omega)]; omega
    rw [em]
    refine wp_bind (fun t vs h3=>t=0∧∃ bb:Bool,vs=[.bool bb]∧Ext h2 h3∧PrO n h3 s l∧(bb=true↔i<b∧ky l (i-1)≤ky l i)) (wp_ifB (fun hd=>?_) fun hd=>?_) ?_
    ·rw [ltI_iff] at hd
     refine s_less C o2 kb rfl rfl (by omega) (by omega) fun h3 e3 o3=>s_ret ⟨rfl,_,rfl,e3,o3,?_⟩
     rw [notB_iff,ltI_not]; dsimp only; omega
    ·rw [ltI_not] at hd
     exact s_ret ⟨rfl,false,rfl,Ext.refl _,o2,⟨fun hh=>(by cases hh),fun hh=>by omega⟩⟩
    ·rintro t vs h3 ⟨rfl,bb,rfl,e3,o3,hbb⟩
     refine s_tag (s_castB (wp_ifB (fun hd=>?_) fun hd=>?_))
     ·dsimp only at hd
      have hd:=hbb.1 hd
      have ei:addI .i64 (i:Int) 1=((i+1:Nat):Int):=by rw [add_ok (by omega) (by omega)]; push_cast; rfl
      rw [ei]
      exact s_ret ⟨fun _=>⟨(((i+1:Nat):Int),()),rfl,⟨i+1,rfl,by omega,by omega,e2.trans e3,o3,fun p h1 h2=>by
       by_cases hpi:p=i
       ·rw [hpi]; exact hd.2
       ·exact hp p h1 (by omega)⟩,by dsimp only; omega⟩,fun hh=>absurd rfl hh⟩
     ·exact s_ret ⟨fun hh=>absurd hh (by decide),fun _=>⟨rfl,i,rfl,e2.trans e3,o3,hp⟩⟩
   ·rintro t vs h2 ⟨rfl,i,rfl,e2,o2,hp⟩
    refine s_tag (s_castI ?_)
    dsimp only
    refine wp_ifB (fun hd=>?_) fun hd=>?_
    ·rw [eqI_iff] at hd
     have hib:i=b:=by omega
     subst hib
     refine s_ret ⟨rfl,e2,true,rfl,o2,fun _ p r h1 h2 h3=>?_⟩
     have key:∀ d,p+d<i→ky l p≤ky l (p+d):=fun d=>by
      induction d with
      | zero=>intro _; exact Int.le_refl _
      | succ d ih=>
       intro hd
       have:=hp (p+d+1) (by omega) (by omega)
       rw [Nat.add_sub_cancel] at this
       exact Int.le_trans (ih (by omega)) this
     obtain ⟨d,rfl⟩:∃ d,r=p+d:=⟨r-p,by omega⟩
     exact key d h3
    ·refine wp_ifB (fun _=>s_ret ⟨rfl,e2,false,rfl,o2,fun hh=>by cases hh⟩) fun hx=>?_
     rw [ltI_not] at hx; omega
  ·rintro t vs h2 ⟨rfl,e2,bb,rfl,o2,hs⟩
   exact s_tag (s_castB (s_ret ⟨fun hh=>absurd hh (by decide),fun _=>⟨rfl,e2,bb,rfl,o2,hs⟩⟩))
 ·rintro t vs h2 ⟨rfl,e2,bb,rfl,o2,hs⟩
  exact s_skip (by decide) (s_tag (s_castB (s_ret ⟨rfl,Chg.of_ext e2,(bb,()),l,rfl,o2,Sg.refl _ _ _,hs⟩)))
end Go.Sw.Hist

set_option linter.unusedVariables false
set_option linter.unusedSimpArgs false
set_option maxRecDepth 100000
namespace Go.Sw.Hist
open Go.Sw.Any Go.Sw.Codec Go.Sw.Piece
variable {P:Program} {S:Ids} {h:Heap} {Q:Nat→List Value→Heap→Prop}
def Dk (l:MkL):Prop:=(l.map (·.1)).Nodup
theorem Sg.dk {a b:Nat} {l l':MkL} (x:Sg a b l l') (d:Dk l):Dk l':=((x.perm.map (fun e:Int×Int=>e.1)).nodup_iff).2 d
theorem Dk.ne {l:MkL} (d:Dk l) {i j:Nat} (hi:i<l.length) (hj:j<l.length) (hne:i≠j):ky l i≠ky l j:=by
 intro e
 have h1:l[i]=el l i:=by simp [List.getD,List.getElem?_eq_getElem hi]
 have h2:l[j]=el l j:=by simp [List.getD,List.getElem?_eq_getElem hj]
 have:=List.pairwise_map.1 d
 rw [List.pairwise_iff_getElem] at this
 rcases Nat.lt_or_gt_of_ne hne with h | h
 ·exact this i j hi hj h (by rw [h1,h2]; exact e)
 ·exact this j i hj hi h (by rw [h1,h2]; exact e.symm)
def Pre (a b:Nat) (l:MkL):Prop:=a=0∨∀ i,a≤i→i<b→ky l (a-1)<ky l i
structure Rest (a b a' b':Nat) (l:MkL):Prop where
 ha:a≤a'
 hab:a'≤b'
 hb:b'≤b
 s1:Srt a a' l
 s2:Srt b' b l
 lo:∀ i j,a≤i→i<a'→a'≤j→j<b→ky l i≤ky l j
 hi:∀ i j,a≤i→i<b'→b'≤j→j<b→ky l i≤ky l j
 pre:Pre a' b' l
theorem Rest.sg {a b a' b':Nat} {l l':MkL} (r:Rest a b a' b' l) (g:Sg a' b' l l') (hb:b≤l.length):Rest a b a' b' l':=by
 have out:∀ i,i<a'∨b'≤i→ky l' i=ky l i:=fun i hi=>by show (el l' i).1=(el l i).1; rw [g.out i hi]
 have h1:=r.hab
 have h2:=r.hb
 refine ⟨r.ha,r.hab,r.hb,fun i j q1 q2 q3=>?_,fun i j q1 q2 q3=>?_,fun i j q1 q2 q3 q4=>?_,fun i j q1 q2 q3 q4=>?_,?_⟩
 ·rw [out i (by omega),out j (by omega)]; exact r.s1 i j q1 q2 q3
 ·rw [out i (by omega),out j (by omega)]; exact r.s2 i j q1 q2 q3
 ·rw [out i (by omega)]
  by_cases hj:j<b'
  ·exact g.all (p:=fun e=>ky l i≤e.1) h1 (by omega) (fun j' w1 w2=>r.lo i j' q1 q2 w1 (by omega)) j q3 hj
  ·rw [out j (by omega)]; exact r.lo i j q1 q2 q3 q4
 ·rw [out j (by omega)]
  by_cases hi:a'≤i
  ·exact g.all (p:=fun e=>e.1≤ky l j) h1 (by omega) (fun i' w1 w2=>r.hi i' j (by have:=r.ha; omega) w2 q3 q4) i hi q2
  ·rw [out i (by omega)]; exact r.hi i j q1 q2 q3 q4
 ·rcases r.pre with h0 | hp
  ·exact .inl h0
  ·by_cases h0:a'=0
   ·exact .inl h0
   ·right
    intro i w1 w2
    rw [out (a'-1) (by omega)]
    exact g.all (p:=fun e=>ky l (a'-1)<e.1) h1 (by omega) hp i w1 w2
theorem Rest.fin {a b a' b':Nat} {l:MkL} (r:Rest a b a' b' l) (s:Srt a' b' l):Srt a b l:=fun i j h1 h2 h3=>by
 by_cases hi:i<a'
 ·by_cases hj:j<a'
  ·exact r.s1 i j h1 h2 hj
  ·exact r.lo i j h1 hi (by omega) h3
 ·by_cases hi2:i<b'
  ·by_cases hj:j<b'
   ·exact s i j (by omega) h2 hj
   ·exact r.hi i j h1 hi2 (by omega) h3
  ·exact r.s2 i j (by omega) h2 h3
theorem Parted.lt {a b m:Nat} {l:MkL} (p:Parted a b m l) (d:Dk l) (hb:b≤l.length):∀ i,m<i→i<b→ky l m<ky l i:=fun i h1 h2=>by
 have:=p.2.2.2 i h1 h2
 have:=d.ne (i:=m) (j:=i) (by omega) (by omega) (by omega)
 omega
theorem Rest.left {a b a' b' m:Nat} {l l':MkL} (r:Rest a b a' b' l) (p:Parted a' b' m l) (d:Dk l) (hb:b≤l.length) (g:Sg a' m l l') (s:Srt a' m l'):Rest a b (m+1) b' l':=by
 have h1:=p.1; have h2:=p.2.1; have h3:=r.ha; have h4:=r.hb
 have r':=r.sg (g.mono (Nat.le_refl _) (by omega)) hb
 have out:∀ i,i<a'∨m≤i→ky l' i=ky l i:=fun i hi=>by show (el l' i).1=(el l i).1; rw [g.out i hi]
 have lowm:∀ i,a'≤i→i<m→ky l' i≤ky l m:=fun i w1 w2=>g.all (p:=fun e=>e.1≤ky l m) h1 (by omega) (fun i' q1 q2=>p.2.2.1 i' q1 q2) i w1 w2
 refine ⟨by omega,by omega,r.hb,fun i j q1 q2 q3=>?_,r'.s2,fun i j q1 q2 q3 q4=>?_,r'.hi, .inr fun i w1 w2=>?_⟩
 ·by_cases hj:j<a'
  ·exact r'.s1 i j q1 q2 hj
  ·by_cases hi:i<a'
   ·exact r'.lo i j q1 hi (by omega) (by omega)
   ·by_cases hjm:j=m
    ·rw [hjm,out m (by omega)]; exact lowm i (by omega) (by omega)
    ·exact s i j (by omega) q2 (by omega)
 ·by_cases hi:i<a'
  ·exact r'.lo i j q1 hi (by omega) q4
  ·by_cases hjb:j<b'
   ·rw [out j (by omega)]
    have hmj:=p.2.2.2 j (by omega) hjb
    by_cases him:i=m
    ·rw [him,out m (by omega)]; exact hmj
    ·exact Int.le_trans (lowm i (by omega) (by omega)) hmj
   ·exact r'.hi i j q1 (by omega) (by omega) q4
 ·rw [Nat.add_sub_cancel,out m (by omega),out i (by omega)]
  exact p.lt d (by omega) i (by omega) w2
theorem Rest.right {a b a' b' m:Nat} {l l':MkL} (r:Rest a b a' b' l) (p:Parted a' b' m l) (d:Dk l) (hb:b≤l.length) (g:Sg (m+1) b' l l') (s:Srt (m+1) b' l'):Rest a b a' m l':=by
 have h1:=p.1; have h2:=p.2.1; have h3:=r.ha; have h4:=r.hb
 have r':=r.sg (g.mono (by omega) (Nat.le_refl _)) hb
 have out:∀ i,i<m+1∨b'≤i→ky l' i=ky l i:=fun i hi=>by show (el l' i).1=(el l i).1; rw [g.out i hi]
 have him:∀ j,m<j→j<b'→ky l m≤ky l' j:=fun j w1 w2=>g.all (p:=fun e=>ky l m≤e.1) (by omega) (by omega) (fun j' q1 q2=>p.2.2.2 j' (by omega) q2) j (by omega) w2
 refine ⟨r.ha,by omega,by omega,r'.s1,fun i j q1 q2 q3=>?_,fun i j q1 q2 q3 q4=>r'.lo i j q1 q2 q3 q4,fun i j q1 q2 q3 q4=>?_,?_⟩
 ·by_cases hjb:j<b'
  ·by_cases hi:i=m
   ·rw [hi,out m (by omega)]; exact him j (by omega) hjb
   ·exact s i j (by omega) q2 hjb
  ·by_cases hib:i<b'
   ·exact r'.hi i j (by omega) hib (by omega) q3
   ·exact r'.s2 i j (by omega) q2 q3
 ·by_cases hjb:j<b'
  ·by_cases hi:i<a'
   ·exact r'.lo i j q1 hi (by omega) (by omega)
   ·rw [out i (by omega)]
    have w1:=p.2.2.1 i (by omega) q2
    by_cases hj:j=m
    ·rw [hj,out m (by omega)]; exact w1
    ·exact Int.le_trans w1 (him j (by omega) hjb)
  ·exact r'.hi i j q1 (by omega) (by omega) q4
 ·rcases r'.pre with h0 | hp
  ·exact .inl h0
  ·exact .inr fun i w1 w2=>hp i w1 (by omega)
abbrev pdqT:List Ty:=[.one (.int .i64), .one (.int .i64), .one (.int .i64), .one .bool, .one .bool]
theorem c_pdq (C:ClM P S) {n:Nat} {s:Sl}:∀ (fuel a b:Nat) (l:MkL) (limit:Int) (h:Heap),b-a<fuel→PrO n h s l→Kb l→Dk l→a≤b→b≤l.length→l.length<50→Pre a b l →
  Sorts P (R_slices_pdqsortCmpFuncint___2 fuel S s (a:Int) (b:Int) limit (cmpV S)) [] n s a b l h fun _ l'=>Srt a b l'
 | 0,_,_,_,_,_,hf,_,_,_,_,_,_,_=>by omega
 | fuel+1,a,b,l,limit,h,hf,o,kb,dk,hab,hb,h50,hpre=>by
  unfold R_slices_pdqsortCmpFuncint___2 Sorts
  refine wp_while (tys:=pdqT) (fun (q:Int×Int×Int×Bool×Bool×Unit) h'=>∃ (a' b':Nat) (l1:MkL),q.1=(a':Int)∧q.2.1=(b':Int)∧PrO n h' s l1∧Sg a b l l1∧Chg (sBk s) h h'∧Rest a b a' b' l1) (fun q _=>(q.2.1-q.1).toNat)
   (fun t vs h'=>t=1∧vs=[]∧∃ l1,PrO n h' s l1∧Sg a b l l1∧Chg (sBk s) h h'∧Srt a b l1)
   ⟨a,b,l,rfl,rfl,o,Sg.refl _ _ _,Chg.refl _ _,Nat.le_refl _,hab,Nat.le_refl _,fun i j h1 h2 h3=>by omega,fun i j h1 h2 h3=>by omega,fun i j h1 h2 h3=>by omega,fun i j h1 h2 h3=>by omega,hpre⟩ ?_ ?_
  ·rintro ⟨(qa:Int),(qb:Int),(lim:Int),(wb:Bool),(wp':Bool),u⟩ h1 ⟨a',b',l1,ea,eb,o1,g1,c1,r1⟩
   dsimp only at ea eb ⊢
   subst ea; subst eb
   have len1:=g1.len
   have h1a:=r1.ha; have h1b:=r1.hab; have h1c:=r1.hb
   have hsub:subI .i64 (b':Int) (a':Int)=((b'-a':Nat):Int):=by rw [sub_ok (by omega) (by omega)]; omega
   rw [hsub]
   have done:∀ {l2:MkL} {h2:Heap},Chg (sBk s) h1 h2→PrO n h2 s l2→Sg a' b' l1 l2→Srt a' b' l2→wp P (.ret 1 []) h2 fun tag vs h'=>
     (tag=0→∃ s':Int×Int×Int×Bool×Bool×Unit,vs=Ts.inj pdqT s'∧(∃ (a' b':Nat) (l1:MkL),s'.1=(a':Int)∧s'.2.1=(b':Int)∧PrO n h' s l1∧Sg a b l l1∧Chg (sBk s) h h'∧Rest a b a' b' l1)∧(s'.2.1-s'.1).toNat<((b':Int)-(a':Int)).toNat) ∧
     (tag≠0→tag=1∧vs=[]∧∃ l1,PrO n h' s l1∧Sg a b l l1∧Chg (sBk s) h h'∧Srt a b l1):=fun c2 o2 g2 s2=>
    s_ret ⟨fun hh=>absurd hh (by decide),fun _=>⟨rfl,rfl,_,o2,g1.trans (g2.mono h1a h1c),c1.trans c2 fun _ _ x=>x,(r1.sg g2 (by omega)).fin s2⟩⟩
   refine wp_ifB (fun _=>wp_sorts (c_insertion C o1 (g1.kb kb) h1b (by omega) (by omega)) fun _ l2 h2 c2 o2 g2 s2=>done c2 o2 g2 s2) fun hc=>?_
   rw [leI_not] at hc
   refine wp_ifB (fun _=>wp_sorts (c_heapSort C o1 (g1.kb kb) (by omega) (by omega) (by omega)) fun _ l2 h2 c2 o2 g2 s2=>done c2 o2 g2 s2) fun _=>?_
   refine wp_bind (fun t vs h'=>t=0∧∃ (lim':Int) (l2:MkL),vs=[i64v lim']∧PrO n h' s l2∧Sg a' b' l1 l2∧Chg (sBk s) h1 h') (wp_ifB (fun _=>wp_sorts (c_break o1 (by omega) (by omega) (by omega) (by omega)) fun _ l2 h2 c2 o2 g2 _=>s_ret ⟨rfl,_,l2,rfl,o2,g2,c2⟩) fun _=>s_ret ⟨rfl,lim,l1,rfl,o1,Sg.refl _ _ _,Chg.refl _ _⟩) ?_
   rintro t vs h2 ⟨rfl,lim',l2,rfl,o2,g2,c2⟩
   refine s_tag (s_castI ?_)
   have len2:=g2.len
   have kb2:=g2.kb (g1.kb kb)
   refine wp_call (c_choosePivot C o2 kb2 (by omega) (by omega) (by omega) (by omega)) fun ⟨(pz:Int),(hint:Int),_⟩ h3 e3 hp=>?_
   obtain ⟨p,hpz,hp1,hp2⟩:=hp
   have hpz:pz=(p:Int):=hpz
   subst hpz
   dsimp only
   have o3:PrO n h3 s l2:=(Chg.of_ext (F:=fun _=>False) e3).own o2 fun _ _ x=>x
   have hsb:subI .i64 (b':Int) 1=((b'-1:Nat):Int):=by rw [sub_ok (by omega) (by omega)]; omega
   have hpa:subI .i64 (p:Int) (a':Int)=((p-a':Nat):Int):=by rw [sub_ok (by omega) (by omega)]; omega
   have hpr:subI .i64 ((b'-1:Nat):Int) ((p-a':Nat):Int)=((b'-1-(p-a'):Nat):Int):=by rw [sub_ok (by omega) (by omega)]; omega
   rw [hsb,hpa,hpr]
   refine wp_bind (fun t vs h'=>t=0∧∃ (pv:Nat) (hint':Int) (l3:MkL),vs=[i64v pv,i64v hint']∧a'≤pv∧pv<b'∧PrO n h' s l3∧Sg a' b' l1 l3∧Chg (sBk s) h1 h')
    (wp_ifB (fun _=>wp_sorts (c_reverse o3 h1b (by omega) (by omega) (by omega)) fun _ l3 h4 c4 o4 g4 _=>s_ret ⟨rfl,b'-1-(p-a'),1,l3,rfl,by omega,by omega,o4,g2.trans g4,(c2.ext e3).trans c4 fun _ _ x=>x⟩) fun _=>s_ret ⟨rfl,p,hint,l2,rfl,hp1,hp2,o3,g2,c2.ext e3⟩) ?_
   rintro t vs h4 ⟨rfl,pv,hint',l3,rfl,hpv1,hpv2,o4,g3,c4⟩
   refine s_tag (s_castII ?_)
   dsimp only
   have len3:=g3.len
   have kb3:=g3.kb (g1.kb kb)
   refine wp_bind (fun t vs h'=>vs=[]∧∃ l4,PrO n h' s l4∧Sg a' b' l1 l4∧Chg (sBk s) h1 h'∧((t=1∧Srt a' b' l4)∨t=0)) ?_ ?_
   ·refine wp_bind (fun t vs h'=>t=0∧∃ bb:Bool,vs=[.bool bb]∧h'=h4) (wp_ifB (fun _=>wp_ifB (fun _=>s_ret ⟨rfl,_,rfl,rfl⟩) fun _=>s_ret ⟨rfl,_,rfl,rfl⟩) fun _=>s_ret ⟨rfl,_,rfl,rfl⟩) ?_
    rintro t vs h5 ⟨rfl,bb,rfl,rfl⟩
    refine s_tag (s_castB (wp_ifB (fun _=>?_) fun _=>s_ret ⟨rfl,l3,o4,g3,c4, .inr rfl⟩))
    refine wp_sorts (c_partial C o4 kb3 (by omega) (by omega) (by omega) (by omega)) fun ⟨(y:Bool),_⟩ l4 h6 c6 o6 g6 hs=>?_
    have hs:y=true→Srt a' b' l4:=hs
    dsimp only
    exact wp_ifB (fun hy=>s_ret ⟨rfl,l4,o6,g3.trans g6,c4.trans c6 fun _ _ x=>x, .inl ⟨rfl,hs hy⟩⟩) fun _=>s_ret ⟨rfl,l4,o6,g3.trans g6,c4.trans c6 fun _ _ x=>x, .inr rfl⟩
   rintro t vs h5 ⟨rfl,l4,o5,g4,c5,⟨rfl,hs⟩ | rfl⟩
   ·exact s_tag (s_cast0 (done c5 o5 g4 hs))
   refine s_skip (by decide) (s_tag (s_cast0 ?_))
   have len4:=g4.len
   have kb4:=g4.kb (g1.kb kb)
   have r4:=r1.sg g4 (by omega)
   have dk4:=g4.dk (g1.dk dk)
   refine wp_bind (fun t vs h'=>t=0∧vs=[.bool false]∧Ext h5 h'∧PrO n h' s l4) (wp_ifB (fun hd=>?_) fun _=>s_ret ⟨rfl,rfl,Ext.refl _,o5⟩) ?_
   ·rw [gtI_iff] at hd
    have ham:subI .i64 (a':Int) 1=((a'-1:Nat):Int):=by rw [sub_ok (by omega) (by omega)]; omega
    rw [ham]
    refine s_less C o5 kb4 rfl rfl (by omega) (by omega) fun h6 e6 o6=>s_ret ⟨rfl,?_,e6,o6⟩
    have hlt:ky l4 (a'-1)<ky l4 pv:=by
     rcases r4.pre with h0 | hp
     ·omega
     ·exact hp pv hpv1 hpv2
    have:notB (ltI (ky l4 (a'-1)-ky l4 pv) 0)=false:=by rw [notB_not,ltI_iff]; omega
    dsimp only
    rw [this]
   rintro t vs h6 ⟨rfl,rfl,e6,o6⟩
   refine s_tag (s_castB (wp_ifB (fun hc=>by cases hc) fun _=>?_))
   refine wp_sorts (c_partition C o6 kb4 hpv1 hpv2 (by omega) (by omega)) fun ⟨(mz:Int),(ap:Bool),_⟩ l5 h7 c7 o7 g5 hm=>?_
   obtain ⟨m,hmz,pt⟩:=hm
   have hmz:mz=(m:Int):=hmz
   subst hmz
   dsimp only
   have len5:=g5.len
   have kb5:=g5.kb kb4
   have dk5:=g5.dk dk4
   have r5:=r4.sg g5 (by omega)
   have hm1:=pt.1; have hm2:=pt.2.1
   have c17:Chg (sBk s) h1 h7:=(c5.ext e6).trans c7 fun _ _ x=>x
   have g15:Sg a b l l5:=(g1.trans (g4.mono h1a h1c)).trans (g5.mono h1a h1c)
   have hma:addI .i64 (m:Int) 1=((m+1:Nat):Int):=by rw [add_ok (by omega) (by omega)]; push_cast; rfl
   rw [hma]
   refine s_not (wp_ifB (fun _=>?_) fun _=>?_)
   ·refine wp_sorts (c_pdq C fuel a' m l5 lim' h7 (by omega) o7 kb5 dk5 hm1 (by omega) (by omega) ?_) fun _ l6 h8 c8 o8 g6 s6=>?_
    ·rcases r5.pre with h0 | hp
     ·exact .inl h0
     ·exact .inr fun i w1 w2=>hp i w1 (by omega)
    ·exact s_ret ⟨fun _=>⟨(((m+1:Nat):Int),(b':Int),lim',_,ap,()),rfl,⟨m+1,b',l6,rfl,rfl,o8,g15.trans (g6.mono (by omega) (by omega)),(c1.trans c17 fun _ _ x=>x).trans c8 fun _ _ x=>x,r5.left pt dk5 (by omega) g6 s6⟩,by dsimp only; omega⟩,fun hh=>absurd rfl hh⟩
   ·refine wp_sorts (c_pdq C fuel (m+1) b' l5 lim' h7 (by omega) o7 kb5 dk5 (by omega) (by omega) (by omega) (.inr fun i w1 w2=>?_)) fun _ l6 h8 c8 o8 g6 s6=>?_
    ·rw [Nat.add_sub_cancel]; exact pt.lt dk5 (by omega) i (by omega) w2
    ·exact s_ret ⟨fun _=>⟨((a':Int),(m:Int),lim',_,ap,()),rfl,⟨a',m,l6,rfl,rfl,o8,g15.trans (g6.mono (by omega) (by omega)),(c1.trans c17 fun _ _ x=>x).trans c8 fun _ _ x=>x,r5.right pt dk5 (by omega) g6 s6⟩,by dsimp only; omega⟩,fun hh=>absurd rfl hh⟩
  ·rintro t vs h1 ⟨rfl,rfl,l1,o1,g1,c1,s1⟩
   exact s_tag (s_cast0 (s_ret ⟨rfl,c1,(),l1,rfl,o1,g1,s1⟩))
theorem c_Sort (C:ClM P S) {n:Nat} {s:Sl} {l:MkL} (o:PrO n h s l) (kb:Kb l) (dk:Dk l) (h50:l.length<50) :
  Sorts P (F_slices_SortFunc_2_int__2_int___ S s (cmpV S)) [] n s 0 l.length l h fun _ l'=>Srt 0 l.length l':=by
 unfold F_slices_SortFunc_2_int__2_int___ Sorts
 have hlen:=PrO.len o
 have hnl:natI s.len=(l.length:Int):=by rw [natI_def,hlen]
 rw [hnl,u64_ok (by omega)]
 refine wp_call (c_BLen (by omega)) fun ⟨(y:Int),_⟩ h1 e1 hy=>?_
 dsimp only
 have o1:PrO n h1 s l:=(Chg.of_ext (F:=fun _=>False) e1).own o fun _ _ x=>x
 have hs:Sorts P (F_slices_pdqsortCmpFuncint___2 S s (Int.ofNat 0) (l.length:Int) y (cmpV S)) [] n s 0 l.length l h1 fun _ l'=>Srt 0 l.length l':=by
  unfold F_slices_pdqsortCmpFuncint___2 Sorts
  exact ⟨l.length+1,c_pdq C (l.length+1) 0 l.length l y h1 (by omega) o1 kb dk (Nat.zero_le _) (Nat.le_refl _) h50 (.inl rfl)⟩
 refine wp_sorts hs fun _ l2 h2 c2 o2 g2 s2=>s_ret ⟨rfl,Chg.pre e1 c2,(),l2,rfl,o2,g2,s2⟩
end Go.Sw.Hist

set_option linter.unusedVariables false
set_option linter.unusedSimpArgs false
set_option maxRecDepth 100000
namespace Go.Sw.Hist
open Go.Sw.Any Go.Sw.Codec Go.Sw.Piece
variable {P:Program} {S:Ids} {h:Heap} {Q:Nat→List Value→Heap→Prop}
theorem wp_mrangeS {tys:List Ty} {s0:Ts.den tys} {m:Nat} {l:Ents} {body:Ts.den tys→Int→Int→Prog} {fin:Ts.den tys→Prog} {K:Nat→List Value→Prog} (r:MapR h m l) (J:Ents→Ts.den tys→Heap→Prop) (R:Nat→List Value→Heap→Prop)
  (hJ:∀ told s h1,J told s h1→∃ c l',h1[m]? = some (mapO l' c)∧h[m]? = some (mapO l c)∧l'.map (fun e=>(e.1,e.2.2))=l.map (fun e=>(e.1,e.2.2))∧∀ e∈l,e∉told→e∈l')
  (hst:∀ told s h1 h2,J told s h1→Chg (fun i=>i=h.size) h1 h2→J told s h2)
  (h0:∀ h1,Ext h h1→h1.size=h.size+1→J [] s0 h1)
  (hs:∀ told s e h1,J told s h1→h.size<h1.size→e∈l→e∉told→told.length<l.length→wp P (body s e.1 e.2.1) h1 fun tag vs h2=>tag=0∧∃ s',vs=Ts.inj tys s'∧h2[h.size]? = h1[h.size]? ∧ J (told++[e]) s' h2)
  (hf:∀ told s h1,told.Perm l→J told s h1→wp P (fin s) h1 fun tag vs h2=>tag≠0∧R tag vs h2)
  (hk:∀ tag vs h1,R tag vs h1→wp P (K tag vs) h1 Q) :
  wp P (.miter (some m) fun a=>.bind (.loop tys s0 fun s=>.mnext (some a) (fun _ _=>.mentry (some a) fun k v=>body s k v) (fin s)) K) h Q:=by
 obtain ⟨c,h1,o⟩:=r
 have hmlt:=(Array.getElem?_eq_some_iff.1 h1).1
 refine ⟨m,l,c,rfl,h1,?_⟩
 have e0:Ext h (h.push (.mapIter (some m) c #[] c)):=ext_pushO _ _ mapIter_cells
 refine Tree.wp_whileG (G:=Ents) (fun told s g=>J told s g∧told.Nodup∧(∀ e∈told,e∈l)∧g[h.size]? = some (.mapIter (some m) c (told.map (·.2.2)).toArray c)) (fun told=>l.length-told.length)
  R [] ⟨h0 _ e0 (by simp),List.nodup_nil,by simp,by simp⟩ (fun told s g ⟨hj,hnd,hsub,hit⟩=>?_) hk
 obtain ⟨c',l',g1,g2,g3,g4⟩:=hJ told s g hj
 have hlc:mapO l c'=mapO l c:=Option.some.inj (g2.symm.trans h1)
 have hcc:c'=c:=by unfold mapO at hlc; injection hlc
 subst hcc
 obtain ⟨f1,f2⟩:=map_fst g3
 have nd':(l'.map (·.2.2)).Nodup:=by rw [f2]; exact o.borns
 have inj':=nodup_inj (f:=fun e:Int×Int×Nat=>e.2.2) nd'
 have inj:=nodup_inj (f:=fun e:Int×Int×Nat=>e.2.2) o.borns
 have seen_iff:∀ b:Nat,((told.map (·.2.2)).toArray.contains b=false)↔b∉told.map (·.2.2):=by
  intro b
  rw [← Bool.not_eq_true,Array.contains_iff_mem]
  simp
 have left:∀ e∈l',(told.map (·.2.2)).toArray.contains e.2.2=false→e∈l∧e∉told:=by
  intro e he hse
  rw [seen_iff] at hse
  have:e.2.2∈l.map (·.2.2):=by rw [← f2]; exact List.mem_map_of_mem (f:=(·.2.2)) he
  obtain ⟨e0,he0,hb⟩:=List.mem_map.1 this
  have hnt:e0∉told:=fun hx=>hse (by rw [← hb]; exact List.mem_map_of_mem (f:=(·.2.2)) hx)
  have:=g4 e0 he0 hnt
  have:=inj' _ this _ he hb
  subst this
  exact ⟨he0,hnt⟩
 refine ⟨h.size,m,c',_,c',l',c',rfl,hit,g1,?_,fun e he hse=>?_,fun hall=>?_⟩
 ·cases hl':l' with
  | nil=>exact .inr (.inl rfl)
  | cons e l2=>
   have he:e∈l':=by rw [hl']; exact List.mem_cons_self ..
   have:e.2.2∈l.map (·.2.2):=by rw [← f2]; exact List.mem_map_of_mem (f:=(·.2.2)) he
   obtain ⟨e0,he0,hb⟩:=List.mem_map.1 this
   exact .inr (.inr ⟨e,List.mem_cons_self .., by have:=o.old _ he0; omega⟩)
 ·obtain ⟨hel,hnt⟩:=left e he hse
  have hmi:m≠h.size:=by omega
  have cg:Chg (fun i=>i=h.size) g (g.setIfInBounds h.size (.mapIter (some m) c' ((told.map (·.2.2)).toArray.push e.2.2) c')):=(chg_set hit mapIter_cells).mono fun i _ hi=>by unfold own at hi; omega
  have hit2:=set_same (o':=.mapIter (some m) c' ((told.map (·.2.2)).toArray.push e.2.2) c') hit
  have hfind:l'.find? (fun x=>x.2.2 == e.2.2)=some e:=by
   have hsome:(l'.find? (fun x=>x.2.2 == e.2.2)).isSome:=by rw [List.find?_isSome]; exact ⟨e,he,by simp⟩
   obtain ⟨y,hy⟩:=Option.isSome_iff_exists.1 hsome
   have h1:=List.find?_some hy
   have h2:=List.mem_of_find?_eq_some hy
   rw [hy,inj' _ h2 _ he (by simpa using h1)]
  refine ⟨h.size,m,c',_,e.2.2,l',c',rfl,hit2,?_,e,hfind,?_⟩
  ·rw [Array.getElem?_setIfInBounds_ne hmi.symm]; exact g1
  ·have hlt:h.size<g.size:=(Array.getElem?_eq_some_iff.1 hit).1
   have hnd2:(told++[e]).Nodup:=by
    rw [List.nodup_append]
    exact ⟨hnd,by simp,fun a ha b hb e'=>by simp at hb; subst hb; subst e'; exact hnt ha⟩
   have hsub2:∀ x∈told++[e],x∈l:=fun x hx=>by
    rcases List.mem_append.1 hx with h | h
    ·exact hsub _ h
    ·simp at h; subst h; exact hel
   have hll:=nodup_le hnd2 hsub2
   rw [List.length_append,List.length_singleton] at hll
   refine wp_mono _ (fun tg vs g2 ⟨a1,s',a2,a3,a4⟩=>⟨fun _=>?_,fun hx=>absurd a1 hx⟩) (hs told s e _ (hst _ _ _ _ hj cg) (by rw [set_size]; exact hlt) hel hnt (by omega))
   refine ⟨told++[e],s',a2,⟨a4,hnd2,hsub2,by rw [a3,hit2]; simp⟩,?_⟩
   rw [List.length_append,List.length_singleton]
   omega
 ·have hperm:told.Perm l:=by
   have hnl:l.Nodup:=List.Pairwise.of_map (fun e:Int×Int×Nat=>e.2.2) (fun a b hab e=>hab (by rw [e])) o.borns
   refine (List.perm_ext_iff_of_nodup hnd hnl).2 fun x=>⟨fun hx=>hsub x hx,fun hx=>?_⟩
   by_cases hxt:x∈told
   ·exact hxt
   ·exfalso
    have hx':=g4 x hx hxt
    have hns:(told.map (·.2.2)).toArray.contains x.2.2=false:=by
     rw [seen_iff]
     intro hm
     obtain ⟨y,hy,hb⟩:=List.mem_map.1 hm
     exact hxt (by rw [← inj _ (hsub y hy) _ hx hb]; exact hy)
    have:=hall x hx' hns
    have:=o.old x hx
    omega
  exact wp_mono _ (fun tg vs h2 ⟨h1,h2⟩=>⟨fun hx=>absurd hx h1,fun _=>h2⟩) (hf told s g hperm hj)
theorem srt_pair {l:MkL} (s:Srt 0 l.length l) (d:Dk l):l.Pairwise fun a b=>a.1<b.1:=by
 rw [List.pairwise_iff_getElem]
 intro i j hi hj hij
 have h1:l[i]=el l i:=by simp [List.getD,List.getElem?_eq_getElem hi]
 have h2:l[j]=el l j:=by simp [List.getD,List.getElem?_eq_getElem hj]
 rw [h1,h2]
 have:=s i j (Nat.zero_le _) hij hj
 have:=d.ne hi hj (by omega)
 show ky l i<ky l j
 omega
theorem so_eq:∀ {a b:MkL},(a.Pairwise fun x y=>x.1<y.1)→(b.Pairwise fun x y=>x.1<y.1)→a.Perm b→a=b
 | [],b,_,_,p=>(List.nil_perm.1 p).symm
 | x::a,[],_,_,p=>absurd p.length_eq (by simp)
 | x::a,y::b,ha,hb,p=>by
  obtain ⟨h1,h2⟩:=List.pairwise_cons.1 ha
  obtain ⟨h3,h4⟩:=List.pairwise_cons.1 hb
  have hxy:x=y:=by
   rcases List.mem_cons.1 (p.mem_iff.1 (List.mem_cons_self ..)) with h | h
   ·exact h
   ·rcases List.mem_cons.1 (p.mem_iff.2 (List.mem_cons_self ..)) with h' | h'
    ·exact h'.symm
    ·have q1:=h1 y h'; have q2:=h3 x h; omega
  subst hxy
  rw [so_eq h2 h4 ((List.perm_cons x).1 p)]
def names:List Int:=[39,60,62,97,98,99,100,101,102,103,104,105,106,107,108,109,110,111,112,113,114,115,116,117,118,119,120,121,122]
theorem isN_mem {a:Int} (h:isN a):a∈names:=by
 unfold isN at h
 have h1:a=39∨a=60∨a=62∨∃ k:Fin 26,a=97+(k.val:Int):=by
  rcases h with h | h | h | h
  ·exact .inr (.inr (.inr ⟨⟨(a-97).toNat,by omega⟩,by dsimp only; omega⟩))
  ·exact .inl h
  ·exact .inr (.inl h)
  ·exact .inr (.inr (.inl h))
 rcases h1 with rfl | rfl | rfl | ⟨k,rfl⟩
 ·decide
 ·decide
 ·decide
 ·revert k; decide
theorem so_dk {l:MkL} (h:l.Pairwise fun a b=>a.1<b.1):Dk l:=List.pairwise_map.2 (h.imp fun hab=>by omega)
theorem c_BMarks (C:ClM P S) {n k:Nat} {rho:Nat→Nat} {X:Bk} {M:Mo} {N:Nat} (r:BookR S n h rho k X) (i:Inv X M N) :
  Gives P (F_Book_Marks S (some X.b)) [.one .sl] h fun (y:Sl×Unit) h'=>PrO h.size h' y.1 M.marks:=by
 unfold F_Book_Marks Gives
 have hdk:=so_dk i.ok.so
 have hlen:X.ms.length=M.marks.length:=by have:=i.lk.ms.length_eq; simpa using this
 have hnum:M.marks.length≤29:=by
  have h1:=nodup_le (l:=M.marks.map (fun e:Int×Int=>e.1)) (m:=names) hdk fun x hx=>isN_mem (i.ok.nm.1 x hx)
  rw [List.length_map] at h1
  exact h1
 refine r.rd (b:=.map) (some X.m) rfl (s_mlen r.mp ?_)
 rw [natI_def]
 refine ⟨⟨Int.le_refl _,by omega,by omega,by omega⟩,fun elem=>?_⟩
 have e1:Ext h (h.push (.cells (zeros [i64v 0,i64v 0] (X.ms.length:Int).toNat).toArray elem)):=Ext.push ..
 have o1:PrO h.size (h.push (.cells (zeros [i64v 0,i64v 0] (X.ms.length:Int).toNat).toArray elem)) ⟨some ⟨h.size,0,none⟩,0,(X.ms.length:Int).toNat⟩ []:=by
  refine ⟨rfl,Nat.zero_le _,by dsimp only; omega,rfl,rfl,Nat.le_refl _,(zeros [i64v 0,i64v 0] (X.ms.length:Int).toNat).toArray,elem,Array.getElem?_push_size,?_,fun j v hj=>by simp at hj⟩
  rw [List.size_toArray,zeros_len (size:=2) rfl]
 have z1:(h.push (.cells (zeros [i64v 0,i64v 0] (X.ms.length:Int).toNat).toArray elem)).size=h.size+1:=by simp
 generalize h.push (.cells (zeros [i64v 0,i64v 0] (X.ms.length:Int).toNat).toArray elem)=h1 at e1 o1 z1 ⊢
 have r1:=r.ext e1
 refine r1.rd (b:=.map) (some X.m) rfl ?_
 have hml:=r.mp.lt
 obtain ⟨c,hc,mo⟩:=r1.mp
 refine wp_mrangeS (tys:=[.one .sl]) (m:=X.m) (l:=X.ms) (body:=fun (q:Sl×Unit) x y=>.alloc [i64v x,i64v y] fun a=>.append 2 16 [i64v 0,i64v 0] q.1 ⟨some a,1,1⟩ fun l37=>.ret 0 [slv l37]) (fin:=fun (q:Sl×Unit)=>.ret 2 [slv q.1]) r1.mp
  (fun told q g=>Ext h g∧g[X.m]? = h1[X.m]? ∧ PrO h.size g q.1 (told.map kv)∧(∀ a,q.1.base=some a→a.block≠h1.size))
  (fun t vs g=>t=2∧∃ q:Sl,vs=[slv q]∧∃ told:Ents,told.Perm X.ms∧Ext h g∧PrO h.size g q (told.map kv))
  (fun told q g ⟨e,hg,_⟩=>⟨c,X.ms,by rw [hg]; exact hc,hc,rfl,fun e he _=>he⟩)
  (fun told q g g2 ⟨e,hg,og,hb⟩ v=>⟨⟨Nat.le_trans e.1 v.1,fun j hj=>by rw [v.2.1 j (Nat.lt_of_lt_of_le hj e.1) (by omega)]; exact e.2.1 j hj,fun a ha=>v.2.2 a (e.2.2 a ha)⟩,by rw [v.2.1 X.m (Nat.lt_of_lt_of_le hml e.1) (by omega)]; exact hg,v.own og hb,hb⟩)
  (fun g e z=>⟨e1.trans e,e.2.1 X.m (by omega),(Chg.of_ext (F:=fun _=>False) e).own o1 fun _ _ x=>x,fun a ha=>by cases ha; dsimp only; omega⟩)
  (fun told q e g ⟨eg,hg,og,hb⟩ hlt he hnt hl=>?_) (fun told q g hp ⟨eg,hg,og,hb⟩=>s_ret ⟨by decide,rfl,q.1,rfl,told,hp,eg,og⟩) ?_
 ·refine fun el2=>?_
  have e2:Ext g (g.push (.cells [i64v e.1,i64v e.2.1].toArray el2)):=Ext.push ..
  have rd2:Rd 2 (g.push (.cells [i64v e.1,i64v e.2.1].toArray el2)) ⟨some ⟨g.size,0,none⟩,1,1⟩ [i64v e.1,i64v e.2.1]:=rd_alloc rfl
  generalize g.push (.cells [i64v e.1,i64v e.2.1].toArray el2)=g2 at e2 rd2 ⊢
  have hs2:=e2.1
  have og2:Own h.size 2 g2 q.1 ((told.map kv).flatMap prC):=(Chg.of_ext (F:=fun _=>False) e2).own og fun _ _ x=>x
  have hql:q.1.len=told.length:=by have:=PrO.len og; simpa using this
  refine wp_appendE og2 (by have:=eg.1; omega) rd2 (by intro v hv; simp only [List.mem_cons,List.not_mem_nil,or_false] at hv; rcases hv with rfl | rfl <;> rfl) rfl (by dsimp only; omega) (by dsimp only; omega) fun q' g3 o3 l3 u3 b3 _=>?_
  have c3:Chg (fun j=>∃ a,q.1.base=some a∧a.block=j) g2 g3:=Chg.of_upd u3 fun a ha _=>⟨a,ha,rfl⟩
  have hbs:∀ a,q.1.base=some a→h.size≤a.block:=fun a ha=>(og.lt ha).1
  have egs:=eg.1
  refine s_ret ⟨rfl,(q',()),rfl,?_,⟨Nat.le_trans egs (Nat.le_trans e2.1 c3.1),fun j hj=>?_,fun a ha=>c3.2.2 a (e2.2.2 a (eg.2.2 a ha))⟩,?_,?_,fun a ha=>?_⟩
  ·rw [c3.2.1 h1.size (by omega) fun ⟨a,ha,e⟩=>hb a ha e,e2.2.1 h1.size hlt]
  ·rw [c3.2.1 j (by omega) fun ⟨a,ha,e⟩=>by have:=hbs a ha; omega,e2.2.1 j (by omega)]; exact eg.2.1 j hj
  ·rw [c3.2.1 X.m (by omega) fun ⟨a,ha,e⟩=>by have:=hbs a ha; omega,e2.2.1 X.m (by omega)]; exact hg
  ·show Own h.size 2 g3 q' (((told++[e]).map kv).flatMap prC)
   rw [List.map_append,List.flatMap_append]
   simpa using o3
  ·rcases b3 a ha with h1' | h1'
   ·exact hb a h1'
   ·omega
 ·rintro t vs g ⟨rfl,q,rfl,told,hp,eg,og⟩
  refine s_exit rfl (q,()) rfl ?_
  have hpm:(told.map kv).Perm M.marks:=(hp.map kv).trans i.lk.ms
  have dk2:Dk (told.map kv):=((hpm.map (fun e:Int×Int=>e.1)).nodup_iff).2 hdk
  have kb2:Kb (told.map kv):=fun e he=>by
   have:=i.ok.nm.1 e.1 (List.mem_map.2 ⟨e,hpm.mem_iff.1 he,rfl⟩)
   unfold isN at this
   omega
  have hl2:(told.map kv).length≤29:=by rw [hpm.length_eq]; exact hnum
  refine wp_sorts (c_Sort C og kb2 dk2 (by omega)) fun _ l' g2 c2 o2 g2' s2=>s_ret ⟨rfl,?_,(q,()),rfl,?_⟩
  ·exact ⟨Nat.le_trans eg.1 c2.1,fun j hj=>by rw [c2.2.1 j (Nat.lt_of_lt_of_le hj eg.1) fun ⟨a,ha,e⟩=>by have:=(og.lt ha).1; omega]; exact eg.2.1 j hj,fun a ha=>c2.2.2 a (eg.2.2 a ha)⟩
  ·have hl':=g2'.len
   rw [← hl'] at s2
   have:=so_eq (srt_pair s2 (g2'.dk dk2)) i.ok.so (g2'.perm.trans hpm)
   dsimp only
   rw [← this]; exact o2
end Go.Sw.Hist

set_option linter.unusedVariables false
set_option linter.unusedSimpArgs false
set_option maxRecDepth 100000
namespace Go.Sw.Hist
open Go.Sw.Any Go.Sw.Codec Go.Sw.Piece
variable {P:Program} {S:Ids} {h:Heap} {Q:Nat→List Value→Heap→Prop} {w:Wid} {M:Mo} {N:Nat}
theorem w_Marks (C:ClM P S) (w:Wid) (M:Mo):MarksC P S w M:=fun h N hN d=>by
 have d0:=d
 obtain ⟨rho,X,st,r,i,e1⟩:=d
 rw [← e1.2.1]
 exact (c_BMarks C r i).mono fun y h' e hy=>⟨hy,d0.ext e⟩
def LookK (m:Nat) (rho:Nat→Nat) (h:Heap) (y:LkV) (k:LkM):Prop:=
 LookR m h y k∧(∀ a,y.1.base=some a→rho a.block=0)∧(∀ a,y.2.1.base=some a→rho a.block=0)∧(∀ a,y.2.2.1.base=some a→rho a.block=0)∧∀ a,y.2.2.2.1.base=some a→rho a.block=0
theorem LookK.chg {m:Nat} {rho rho':Nat→Nat} {h':Heap} {y:LkV} {k:LkM} {F:Nat→Prop} (l:LookK m rho h y k) (c:Chg F h h') (hF:∀ i,i<h.size→F i→rho i≠0) (h0:∀ i,i<h.size→rho i=0→rho' i=0):LookK m rho' h' y k:=by
 obtain ⟨r,q1,q2,q3,q4⟩:=l
 exact ⟨⟨c.ownL r.ato fun a ha hf=>hF _ (r.ato.own.lt ha).2 hf (q1 a ha),c.ownL r.tag fun a ha hf=>hF _ (r.tag.own.lt ha).2 hf (q2 a ha),c.ownL r.wat fun a ha hf=>hF _ (r.wat.own.lt ha).2 hf (q3 a ha),c.own r.mar fun a ha hf=>hF _ (r.mar.lt ha).2 hf (q4 a ha),r.und,r.red,r.dir,r.ope⟩,
  fun a ha=>h0 _ (r.ato.own.lt ha).2 (q1 a ha),fun a ha=>h0 _ (r.tag.own.lt ha).2 (q2 a ha),fun a ha=>h0 _ (r.wat.own.lt ha).2 (q3 a ha),fun a ha=>h0 _ (r.mar.lt ha).2 (q4 a ha)⟩
end Go.Sw.Hist

set_option linter.unusedVariables false
set_option linter.unusedSimpArgs false
set_option maxRecDepth 100000
namespace Go.Sw.Hist
open Go.Sw.Any Go.Sw.Codec Go.Sw.Piece
variable {P:Program} {S:Ids} {h:Heap} {Q:Nat→List Value→Heap→Prop} {w:Wid} {M:Mo} {N:Nat}
structure Gw (w:Wid) (E0:List El) (i W:Nat) (l:List (LkV×LkM)) (M:Mo):Prop where
 now:M.now=none
 saved:M.saved=0
 lost:M.lost=[]
 next:M.next=[]
 dep:M.depth=200
 len:M.done.length≤i
 pos:1≤i→1≤M.done.length
 wt:WtG w.enc W M.E0 M.all
 e0:M.E0=E0
 ll:l.length=M.done.length+1
 lk:∀ j y,l[j]? = some y→y.2.E=playG E0 (M.done.take j)
structure Gon (E0:List El) (full:List GM) (gone:Nat) (M:Mo):Prop where
 now:M.now=none
 lost:M.lost=[]
 saved:M.saved=0
 e0:M.E0=E0
 done:M.done=full.take (full.length-gone)
 next:M.next=full.drop (full.length-gone)
 le:gone≤full.length
theorem Gon.E {E0:List El} {full:List GM} {gone:Nat} (u:Gon E0 full gone M):M.E=playG E0 (full.take (full.length-gone)):=by
 rw [Mo.E_shut u.now]; unfold Mo.C; rw [u.lost,u.e0,u.done]; rfl
theorem ok_slices {m:Nat} {xs:Edss} (o:Own m 1 h xs.1 (xs.2.map fun y=>slv y.1)) (he:∀ y∈xs.2,(Sh.list EdSh).ok h y):EdssSh.ok h xs:=by
 have hl:=o.1
 rw [List.length_map] at hl
 refine ⟨by omega,o.2.1,o.2.2.1,fun i y hi=>?_⟩
 obtain ⟨a,ea,c⟩:=o.rd.2 i (slv y.1) (by rw [List.getElem?_map,hi]; rfl)
 refine ⟨a,ea,cells_iff.2 fun j v hj=>?_,he y (List.mem_of_getElem? hi)⟩
 cases j with
 | zero=>
  simp [Sh.cells] at hj; subst hj
  simpa [Sh.size,add_zero'] using c
 | succ j=>simp [Sh.cells] at hj
end Go.Sw.Hist
