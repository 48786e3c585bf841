/-
  The laws of chapter 7: HistoryUndone.
-/
import Derived.Test.YtncolficnfcdcaaGreatSwG2
set_option linter.unusedVariables false
set_option linter.unusedSimpArgs false
set_option maxRecDepth 100000
namespace Go.Sw.Hist
open Go.Sw.Any Go.Sw.Codec Go.Sw.Piece
variable {P:Program} {S:Ids} {h:Heap} {Q:Nat→List Value→Heap→Prop} {w:Wid} {M:Mo} {N:Nat}
theorem byteArray_toList (l:List UInt8):(ByteArray.mk l.toArray).toList=l:=by rw [ByteArray.toList_eq]
def toB (l:List Int):List UInt8:=l.map fun x=>UInt8.ofNat x.toNat
theorem toB_back {l:List Int} (h:∀ x,x∈l→fitsI .u8 x):(toB l).map (fun b=>Value.int .u8 b.toNat)=l.map (.int .u8):=by
 induction l with
 | nil=>rfl
 | cons x l ih=>
  have hx:=fits_u8.1 (h x (List.mem_cons_self ..))
  have:=ih fun y hy=>h y (List.mem_cons_of_mem _ hy)
  simp only [toB,List.map_cons,List.map_map] at this ⊢
  rw [this]
  congr 2
  simp only [UInt8.toNat_ofNat']
  omega
theorem toB_inj {l m:List Int} (h:∀ x,x∈l→fitsI .u8 x) (h':∀ x,x∈m→fitsI .u8 x) (e:toB l=toB m):l=m:=by
 have:=congrArg (List.map fun b:UInt8=>Value.int .u8 b.toNat) e
 rw [toB_back h,toB_back h'] at this
 exact List.map_inj_right (f:=Value.int .u8) (fun x y e=>by injection e) |>.1 this
theorem s_bytes {x:Sl} {l:List Int} {K:ByteArray→Prog} (hr:Lst .u8 h x l) (hk:wp P (K ⟨(toB l).toArray⟩) h Q):wp P (.bytes x K) h Q:=by
 refine ⟨toB l,?_,hk⟩
 rw [toB_back hr.wf]
 have:=Rd.firsts hr.rd
 simpa using this
theorem eqS_is {l m:List Int} (h:∀ x,x∈l→fitsI .u8 x) (h':∀ x,x∈m→fitsI .u8 x):eqS ⟨(toB l).toArray⟩ ⟨(toB m).toArray⟩=decide (l=m):=by
 unfold eqS
 rw [byteArray_toList,byteArray_toList]
 by_cases e:l=m
 ·subst e; simp
 ·have:toB l≠toB m:=fun e'=>e (toB_inj h h' e')
  simp [e,this]
structure Gw (w:Wid) (E0:List El) (i W:Nat) (l:List (LkV×LkM)) (M:Mo):Prop where
 now:M.now=none
 saved:M.saved=0
 lost:M.lost=[]
 next:M.next=[]
 dep:M.depth=200
 len:M.done.length≤i
 pos:1≤i→1≤M.done.length
 wt:WtG w.enc W M.E0 M.all
 e0:M.E0=E0
 ll:l.length=M.done.length+1
 lk:∀ j y,l[j]? = some y→y.2.E=playG E0 (M.done.take j)
theorem Gw.no {E0:List El} {i W W':Nat} {l:List (LkV×LkM)} {cs:List (List EdD)} {bg en:Int} (g:Gw w E0 i W l M) (he:effC cs=false) (hi:1≤i) (hw:WtG w.enc W' (M.grp cs bg en).E0 (M.grp cs bg en).all):Gw w E0 (i+1) W' l (M.grp cs bg en):=by
 have hg:=Mo.grp_no (M:=M) (bg:=bg) (en:=en) he
 rw [hg] at hw ⊢
 exact ⟨rfl,g.saved,g.lost,g.next,g.dep,Nat.le_succ_of_le g.len,fun _=>g.pos hi,hw,g.e0,g.ll,g.lk⟩
theorem Gw.yes {enc limit:Int} {E0:List El} {i W W':Nat} {l:List (LkV×LkM)} {cs:List (List EdD)} {bg en:Int} {y:LkV} (g:Gw w E0 i W l M) (he:effC cs=true) (hi:i+1≤200) (ho:OkC enc limit M.C cs) (hw:WtG w.enc W' (M.grp cs bg en).E0 (M.grp cs bg en).all) :
  Gw w E0 (i+1) W' (l++[(y,(M.grp cs bg en).look)]) (M.grp cs bg en)∧(M.grp cs bg en).done.length=M.done.length+1:=by
 have hlen:=g.len
 obtain ⟨x,hx,_,q1,q2,q3,_⟩:=grp_eff (M:=M) (bg:=bg) (en:=en) (by rw [g.dep]; omega) he
 have hE:=Mo.grp_E (bg:=bg) (en:=en) g.now ho
 refine ⟨⟨Mo.grp_now,by rw [Mo.grp_saved,g.saved],by rw [q1]; exact g.lost,q3,by rw [Mo.grp_depth,g.dep],by rw [q2,List.length_append,List.length_singleton]; omega,fun _=>by rw [q2,List.length_append,List.length_singleton]; omega,hw,by rw [Mo.grp_E0]; exact g.e0,by rw [List.length_append,List.length_singleton,g.ll,q2,List.length_append,List.length_singleton],fun j z hj=>?_⟩,by rw [q2,List.length_append,List.length_singleton]⟩
 by_cases hjl:j<l.length
 ·rw [List.getElem?_append_left hjl] at hj
  rw [g.lk j z hj,q2,List.take_append_of_le_length (by have:=g.ll; omega)]
 ·rw [List.getElem?_append_right (by omega)] at hj
  have h0:j-l.length=0:=by
   have:=(List.getElem?_eq_some_iff.1 hj).1
   simp at this; omega
  rw [h0] at hj
  cases hj
  show (M.grp cs bg en).E=_
  rw [hE,q2,List.take_of_length_le (by rw [List.length_append,List.length_singleton]; have:=g.ll; omega),playG_snoc,hx]
  have:M.C=playG E0 M.done:=by unfold Mo.C; rw [g.lost,g.e0]; rfl
  rw [this]
structure Gon (E0:List El) (full:List GM) (gone:Nat) (M:Mo):Prop where
 now:M.now=none
 lost:M.lost=[]
 saved:M.saved=0
 e0:M.E0=E0
 done:M.done=full.take (full.length-gone)
 next:M.next=full.drop (full.length-gone)
 le:gone≤full.length
theorem Gon.E {E0:List El} {full:List GM} {gone:Nat} (u:Gon E0 full gone M):M.E=playG E0 (full.take (full.length-gone)):=by
 rw [Mo.E_shut u.now]; unfold Mo.C; rw [u.lost,u.e0,u.done]; rfl
theorem Gon.undo {E0:List El} {full:List GM} {gone:Nat} (u:Gon E0 full gone M) (hg:gone<full.length):∃ x M',M.undoR=(x,0,M')∧Gon E0 full (gone+1) M':=by
 obtain ⟨m,hm⟩:∃ m,full.length-gone=m+1:=⟨full.length-gone-1,by omega⟩
 have hml:m<full.length:=by omega
 have hd:M.done=full.take m++[full[m]]:=by rw [u.done,hm,List.take_add_one,List.getElem?_eq_getElem hml]; rfl
 refine ⟨(full[m]).bg,M.back (full.take m) full[m],?_,⟨u.now,u.lost,u.saved,u.e0,?_,?_,by omega⟩⟩
 ·unfold Mo.undoR; rw [u.now,if_neg (by decide),hd,lastG_snoc]
 ·show full.take m=_; congr 1; omega
 ·show full[m]::M.next=_
  rw [u.next,hm,show full.length-(gone+1)=m by omega, ← List.drop_eq_getElem_cons hml]
theorem Gon.undone {E0:List El} {full:List GM} (u:Gon E0 full full.length M):M.undoR=(0,72,M)∧M.dirty=false:=by
 have hd:M.done=[]:=by rw [u.done,Nat.sub_self]; rfl
 refine ⟨by unfold Mo.undoR; rw [u.now,if_neg (by decide),hd]; rfl,?_⟩
 rw [dirty_shut u.now,u.saved]
 have:M.st=0:=by unfold Mo.st; rw [u.lost,hd]; rfl
 rw [this]; decide
theorem Gon.redo {E0:List El} {full:List GM} {gone:Nat} (u:Gon E0 full (gone+1) M):∃ x M',M.redoR=(x,0,M')∧Gon E0 full gone M':=by
 have hle:=u.le
 obtain ⟨m,hm⟩:∃ m,full.length-(gone+1)=m:=⟨_,rfl⟩
 have hml:m<full.length:=by omega
 have hn:M.next=full[m]::full.drop (m+1):=by rw [u.next,hm,List.drop_eq_getElem_cons hml]
 refine ⟨(full[m]).en,M.forth full[m] (full.drop (m+1)),?_,⟨u.now,u.lost,u.saved,u.e0,?_,?_,by omega⟩⟩
 ·unfold Mo.redoR; rw [u.now,if_neg (by decide),hn]
 ·show M.done++[full[m]]=_
  rw [u.done,hm,show full.length-gone=m+1 by omega,List.take_add_one,List.getElem?_eq_getElem hml]; rfl
 ·show full.drop (m+1)=_; congr 1; omega
theorem Gon.redone {E0:List El} {full:List GM} (u:Gon E0 full 0 M):M.redoR=(0,73,M):=by
 have hn:M.next=[]:=by rw [u.next,Nat.sub_zero,List.drop_length]
 unfold Mo.redoR; rw [u.now,if_neg (by decide),hn]
theorem ok_slices {m:Nat} {xs:Edss} (o:Own m 1 h xs.1 (xs.2.map fun y=>slv y.1)) (he:∀ y∈xs.2,(Sh.list EdSh).ok h y):EdssSh.ok h xs:=by
 have hl:=o.1
 rw [List.length_map] at hl
 refine ⟨by omega,o.2.1,o.2.2.1,fun i y hi=>?_⟩
 obtain ⟨a,ea,c⟩:=o.rd.2 i (slv y.1) (by rw [List.getElem?_map,hi]; rfl)
 refine ⟨a,ea,cells_iff.2 fun j v hj=>?_,he y (List.mem_of_getElem? hi)⟩
 cases j with
 | zero=>
  simp [Sh.cells] at hj; subst hj
  simpa [Sh.size,add_zero'] using c
 | succ j=>simp [Sh.cells] at hj
theorem Wd.xs {m:Nat} {q:Sl} {l:List (LkV×LkM)} {xs:Edss} (d:Wd S (w.und m q l xs) h M N):EdssSh.ok h xs:=by
 obtain ⟨rho,k⟩:=d.keep
 exact k.2 h (Chg.refl _ h)
theorem Wd.xl {m:Nat} {q:Sl} {l:List (LkV×LkM)} {xs:Edss} (d:Wd S (w.und m q l xs) h M N):q.len=l.length:=by
 obtain ⟨rho,k⟩:=d.keep
 have:=k.1.1.1
 rw [lkCs_len] at this; omega
theorem s_alike (Me:Meth0 P S) (C0:Cl0 P S) (Ct:Clt P S) (Cm:ClM P S) {m:Nat} {q:Sl} {l:List (LkV×LkM)} {xs:Edss} {i:Nat} {x:Int} {z:LkV×LkM} (d:Wd S (w.und m q l xs) h M N) (hN:N≤68719476736) (hx:x=(i:Int)) (hz:l[i]? = some z) (hE:z.2.E=M.E) {K:Bool×Unit→Prog}
  (hk:∀ h',Wd S (w.und m q l xs) h' M N→Ext h h'→wp P (K (true,())) h' Q) :
  wp P (grd (andB (someB q.base) (inB x q.len)) <| .load (.agg LkT) (shiftTo q.base (mulN (toN x) 8)) fun (r1:LkV)=>.call (F_law7_see S (some w.b)) [.agg LkT] fun (r2:LkV×Unit)=>
   .check (shiftTo q.base (mulN (toN x) 8)) (lkC r1) <| .call (F_law7_alike S r2.1 r1) [.one .bool] K) h Q:=by
 have hq:∀ {g:Heap} {M:Mo} {N:Nat},Wd S (w.und m q l xs) g M N→Own m 8 g q (lkCs l)∧∃ rho,LookK m rho g z.1 z.2:=fun d=>by
  obtain ⟨rho,k⟩:=d.keep
  exact ⟨k.1.1,rho,k.1.2.2 z (List.mem_of_getElem? hz)⟩
 refine s_ldLk (hq d).1 hx hz ?_
 refine wp_call (w_see (w:=w.und m q l xs) Me C0 Ct (w_Marks Cm _ _) d hN) fun ⟨y,_⟩ h1 e1 hy=>?_
 obtain ⟨lr,d1⟩:=hy
 have lr:LookR h.size h1 y M.look:=lr
 dsimp only
 refine s_ckLk (hq d1).1 hx hz rfl ?_
 obtain ⟨_,rho,lz⟩:=hq d1
 refine wp_call (c_alike lr lz.1) fun ⟨(bb:Bool),_⟩ h2 e2 hb=>?_
 have hb:bb=true:=by
  refine hb.2 ?_
  rw [hE]; exact ⟨rfl,rfl⟩
 subst hb
 exact hk h2 (d1.ext e2) (e1.trans e2)
theorem c_HistoryUndone (Me:Meth0 P S) (C:ClH P S) (C0:Cl0 P S) (Ct:Clt P S) (Cm:ClM P S) {enc at_:Int} {b:Sl} {l:List Int} {x:Edss} (hb:Lst .u8 h b l) (hl:l.length≤1073741824) (hx:EdssSh.ok h x) (wx:EdssSh.wt x≤1048576) :
  Gives P (F_law7_HistoryUndone S enc b x.1 at_) [.one .bool] h fun (y:Bool×Unit) _=>y.1=true:=by
 unfold F_law7_HistoryUndone Gives
 have hsz:=szG_wt x
 have hxl:=hx.len
 refine wp_call (c_short hb.len (by omega) hx (by omega) (by omega)) fun ⟨(y:Bool),_⟩ h1 e1 hy=>wp_ifB (fun hc=>s_ret ⟨rfl,e1,(true,()),rfl,rfl⟩) fun hc=>?_
 rw [notB_not] at hc
 have hy:y=true↔l.length+szG x.2≤8000∧x.2.length≤190:=hy
 have hshort:=hy.1 hc
 clear hc hy
 refine wp_call (c_book7 Me (enc:=enc) (depth:=Int.ofNat 200) (hb.ext e1) (by omega) ⟨by decide,by decide⟩) fun ⟨(p:Option Addr),_⟩ h2 e2 hp=>?_
 obtain ⟨X,rfl,B⟩:=hp
 obtain ⟨n,hn,hr⟩:=B.r
 obtain ⟨rho,st0,_,r0⟩:=hr 0 fun _=>0
 have i0:=B.inv r0 (by omega) ⟨by decide,by decide⟩
 obtain ⟨E0,hE0⟩:∃ E0,E0=elsF 0 0 (toks (enc % 4+1) l):=⟨_,rfl⟩
 rw [← hE0] at i0
 obtain ⟨w,hw⟩:∃ w:Wid,w=Wid.one n h1 X.b X.T.p X.T.enc 60000:=⟨_,rfl⟩
 have d0:Wd S w h2 (Mo.new E0 (Int.ofNat 200)) 0:=by
  rw [hw]; exact ⟨rho,X,st_of st0,r0,i0,trivial,rfl,rfl,rfl,B.li⟩
 have hwb:X.b=w.b:=by rw [hw]; rfl
 have hwl:w.limit=60000:=by rw [hw]; rfl
 have hw0:w.h0=h1:=by rw [hw]; rfl
 have hB0:(bytesL X.T.cur.ps).length=blen w.enc E0∧(E0.map (·.1)).flatMap (putF w.enc)=l:=by
  have h1:=blen_state r0.t.cur r0.t.enc
  have h2:els X.T.enc X.T.cur.ps=E0:=by rw [B.en,hE0]; exact B.el
  have h3:=(toksL_els r0.t.enc r0.t.cur.bytes).2.1
  rw [h2] at h1 h3
  rw [B.bytes] at h3
  have h4:w.enc=X.T.enc:=by rw [hw]; rfl
  rw [h4]
  exact ⟨h1.symm,h3.symm⟩
 have b0:blen w.enc E0≤l.length:=by rw [← hB0.1,B.bytes]; exact Nat.le_refl _
 have hbytes:=hB0.2
 rw [hwb]
 clear hr st0 r0 i0 B hwb hB0
 dsimp only
 refine wp_ifB (fun hc=>by cases hc) fun _=>?_
 have hM0:(Mo.new E0 (Int.ofNat 200)).E=E0:=rfl
 have kpx:∀ {g:Heap} {n size:Nat} {s:Sl} {vs:List Value} {g':Heap},Own n size g s vs→Ext g g'→Own n size g' s vs:=fun o e=>(Chg.of_ext (F:=fun _=>False) e).own o fun _ _ x=>x
 refine wp_call (w_see Me C0 Ct (w_Marks Cm _ _) d0 (by omega)) fun ⟨y0,_⟩ h3 e3 hy=>?_
 obtain ⟨lr,d3⟩:=hy
 have lr:LookR h2.size h3 y0 (Mo.new E0 (Int.ofNat 200)).look:=lr
 dsimp only
 refine fun el4=>?_
 have e4:Ext h3 (h3.push (.cells (lkC y0).toArray el4)):=Ext.push ..
 have o4:Own h3.size 8 (h3.push (.cells (lkC y0).toArray el4)) ⟨some ⟨h3.size,0,none⟩,1,1⟩ (lkC y0):=own_alloc rfl (by decide) (by decide)
 show wp P _ (h3.push (.cells (lkC y0).toArray el4)) _
 generalize h3.push (.cells (lkC y0).toArray el4)=h4 at e4 o4 ⊢
 refine s_allocL (k:=.i64) [1] (by intro z hz; rw [List.mem_singleton.1 hz]; exact fits_i64.2 (by omega)) (by decide) fun h5 e5 o5=>fun el6=>?_
 have e6:Ext h5 (h5.push (.cells [i64v 0,i64v 0, .slice (some ⟨h4.size,0,none⟩) 1 1].toArray el6)):=Ext.push ..
 have o6:Own h5.size 1 (h5.push (.cells [i64v 0,i64v 0, .slice (some ⟨h4.size,0,none⟩) 1 1].toArray el6)) ⟨some ⟨h5.size,0,none⟩,3,3⟩ [i64v 0,i64v 0, .slice (some ⟨h4.size,0,none⟩) 1 1]:=own_alloc rfl (by decide) (by decide)
 generalize h5.push (.cells [i64v 0,i64v 0, .slice (some ⟨h4.size,0,none⟩) 1 1].toArray el6)=h6 at e6 o6 ⊢
 refine fun el7=>?_
 have e7:Ext h6 (h6.push (.cells [.slice (some ⟨h5.size,0,none⟩) 1 1].toArray el7)):=Ext.push ..
 have o7:Own h6.size 1 (h6.push (.cells [.slice (some ⟨h5.size,0,none⟩) 1 1].toArray el7)) ⟨some ⟨h6.size,0,none⟩,1,1⟩ [.slice (some ⟨h5.size,0,none⟩) 1 1]:=own_alloc rfl (by decide) (by decide)
 generalize h6.push (.cells [.slice (some ⟨h5.size,0,none⟩) 1 1].toArray el7)=h7 at e7 o7 ⊢
 have s3:=e3.1; have s4:h3.size<h4.size:=(o4.lt rfl).2; have s5:h4.size<h5.size:=(o5.own.lt rfl).2; have s6:h5.size<h6.size:=(o6.lt rfl).2; have s7:h6.size<h7.size:=(o7.lt rfl).2
 have e12:=e2
 have e17:Ext h1 h7:=((((e2.trans e3).trans e4).trans e5).trans e6).trans e7
 have hx7:EdssSh.ok h7 x:=(hx.ext e1).ext e17
 have rdx:Rd 1 h7 x.1 (x.2.map fun y=>slv y.1):=by
  obtain ⟨q1,q2,q3,q4⟩:=hx7
  refine ⟨by rw [List.length_map]; omega,fun i v hi=>?_⟩
  rw [List.getElem?_map] at hi
  cases hxi:x.2[i]? with
  | none=>rw [hxi] at hi; cases hi
  | some y=>
   rw [hxi] at hi
   cases hi
   obtain ⟨a,ea,c,_⟩:=q4 i y hxi
   refine ⟨a,ea,?_⟩
   have:=cells_iff.1 c 0 _ rfl
   rw [add_zero',show i*(Sh.list EdSh).size=i from Nat.mul_one i] at this
   exact this
 have hxs1:x.1.len=x.2.length:=hx7.1
 refine wp_appendE o7 (Nat.le_of_lt s7) rdx (by intro v hv; obtain ⟨z,_,rfl⟩:=List.mem_map.1 hv; rfl) rfl (by dsimp only; omega) (by dsimp only; omega) fun l8 h8 o8 n8 u8 b8 _=>?_
 have e8:Ext h6 h8:=Upd.extN e7 u8 fun a ha=>by cases ha; exact Nat.le_refl _
 have c8:Chg (fun i=>i=h6.size) h7 h8:=Chg.of_upd u8 fun a ha _=>by cases ha; rfl
 have s8:=c8.1
 obtain ⟨x0,hx0⟩:∃ x0:Eds,x0=(⟨some ⟨h5.size,0,none⟩,1,1⟩,[((0,0,(⟨some ⟨h4.size,0,none⟩,1,1⟩,[1]),()):EdD)]):=⟨_,rfl⟩
 obtain ⟨xs,hxs⟩:∃ xs:Edss,xs=(l8,x0::x.2):=⟨_,rfl⟩
 have o8':Own h6.size 1 h8 l8 (xs.2.map fun y=>slv y.1):=by rw [hxs,hx0]; exact o8
 have l8b:∀ a,l8.base=some a→h6.size≤a.block:=fun a ha=>(o8.lt ha).1
 have e28:Ext h2 h8:=(((e3.trans e4).trans e5).trans e6).trans e8
 have e48:Ext h4 h8:=(e5.trans e6).trans e8
 have d8:Wd S (w.und n ⟨some ⟨h3.size,0,none⟩,1,1⟩ [(y0,(Mo.new E0 (Int.ofNat 200)).look)] xs) h8 (Mo.new E0 (Int.ofNat 200)) 0:=by
  have hn2:n≤h2.size:=by
   obtain ⟨rho',X',_,r',_⟩:=d0
   have h1:=(r'.ob.lt rfl).1; have h2:=(r'.ob.lt rfl).2
   have h3:w.n=n:=by rw [hw]; rfl
   omega
  refine d0.upd (F:=fun _=>False) (G:=fun i=>i=h3.size) (Chg.of_ext e28) (fun _ _ _ _ f=>f.elim) ⟨rfl,rfl,rfl,rfl,rfl,rfl⟩ fun rho rho' hz0 k hold hnew=>⟨⟨?_,fun a ha=>?_,fun z hz=>?_⟩,fun g cg=>?_⟩
  ·have:lkCs [(y0,(Mo.new E0 (Int.ofNat 200)).look)]=lkC y0:=by simp [lkCs]
   rw [this]
   exact Own.mono (kpx o4 e48) (by omega)
  ·cases ha
   rw [hnew _ s3,if_pos rfl]
  ·rw [List.mem_singleton.1 hz]
   have zero:∀ i,h2.size≤i→i<h3.size→rho' i=0:=fun i hi1 hi2=>by rw [hnew i hi1,if_neg (by omega)]
   have lr8:=lr.ext (e4.trans e48)
   exact ⟨⟨lr8.ato.mono hn2,lr8.tag.mono hn2,lr8.wat.mono hn2,Own.mono lr8.mar hn2,lr8.und,lr8.red,lr8.dir,lr8.ope⟩,fun a ha=>zero _ (lr.ato.own.lt ha).1 (lr.ato.own.lt ha).2,fun a ha=>zero _ (lr.tag.own.lt ha).1 (lr.tag.own.lt ha).2,fun a ha=>zero _ (lr.wat.own.lt ha).1 (lr.wat.own.lt ha).2,fun a ha=>zero _ (lr.mar.lt ha).1 (lr.mar.lt ha).2⟩
  ·have zr0:∀ i,h4.size≤i→¬ 0<rho' i:=fun i hi=>by rw [hnew i (by omega),if_neg (by omega)]; omega
   have og8:=cg.own o8' fun a ha=>zr0 _ (by have:=l8b a ha; omega)
   have og5:=cg.ownL ((Chg.of_ext (F:=fun _=>False) (e6.trans e8)).ownL o5 fun _ _ x=>x) fun a ha=>by cases ha; exact zr0 _ (Nat.le_refl _)
   have og6:=cg.own (kpx o6 e8) fun a ha=>by cases ha; exact zr0 _ (by dsimp only; omega)
   have e28s:=e28.1
   have eg:Ext h1 g:=by
    refine ⟨Nat.le_trans (e2.trans e28).1 cg.1,fun i hi=>(cg.2.1 i (by have:=(e2.trans e28).1; omega) fun hf=>?_).trans ((e2.trans e28).2.1 i hi),fun a ha=>cg.2.2 a ((e2.trans e28).2.2 a ha)⟩
    have:=e2.1
    dsimp only at hf
    rw [hold i (by omega),hz0 i (by rw [hw0]; exact hi)] at hf; omega
   have oz:=ok_edit og5.lst og6 (fits_zero _) (fits_zero _)
   have ox:=(hx.ext e1).ext eg
   refine ok_slices (m:=h6.size) (by rw [hxs] at og8 ⊢; exact og8) ?_
   intro y hy
   rw [hxs] at hy
   rcases List.mem_cons.1 hy with rfl | hy
   ·rw [hx0]; exact oz
   ·obtain ⟨j,hj⟩:=List.getElem?_of_mem hy
    exact ox.el hj
 have hxs0:xs.2[0]? = some x0:=by rw [hxs]; rfl
 have hxsl:xs.2.length=x.2.length+1:=by rw [hxs]; rfl
 have hxsz:szG xs.2=2+szG x.2:=by rw [hxs,hx0]; simp [szG,putsOf]
 have hl8:l8=xs.1:=by rw [hxs]
 have hx0p:∃ c∈x0.2,c.2.2.1.2≠[]:=by rw [hx0]; exact ⟨_,List.mem_singleton.2 rfl,by simp⟩
 rw [hl8]
 have nle:∀ {g:Heap} {M:Mo} {N:Nat} {q:Sl} {l:List (LkV×LkM)},Wd S (w.und n q l xs) g M N→n≤g.size:=by
  intro g M N q l d
  obtain ⟨rho',X',_,r',_⟩:=d
  have h1:=(r'.ob.lt rfl).1; have h2:=(r'.ob.lt rfl).2
  have h3:(w.und n q l xs).n=n:=by rw [hw]; rfl
  omega
 have hbx:∀ {g:Heap} {M:Mo} {N:Nat} {q:Sl} {l':List (LkV×LkM)},Wd S (w.und n q l' xs) g M N→Lst .u8 g b l:=by
  intro g M N q l' d
  have he:Ext w.h0 g:=d.e
  rw [hw0] at he
  exact hb.ext (e1.trans he)
 clear o8 o8' l8b o7 o6 o5 o4 d3 d0 lr rdx b8 u8 c8 hxs hl8 hx7 e48 e28 s8 s7 s6 s5 s4 e8 e7 e6 e5 e4 e17 kpx hx0
 have g0:Gw w E0 0 (l.length+4*szG (xs.2.take 0)) [(y0,(Mo.new E0 (Int.ofNat 200)).look)] (Mo.new E0 (Int.ofNat 200)):=by
  refine ⟨rfl,rfl,rfl,rfl,rfl,Nat.le_refl _,fun h=>absurd h (by decide),?_,rfl,rfl,fun j y hj=>?_⟩
  ·exact Nat.le_trans b0 (Nat.le_add_right _ _)
  ·have:=(List.getElem?_eq_some_iff.1 hj).1
   simp at this
   subst this
   cases hj
   rfl
 refine wp_while (fun (s:Sl×Int×Unit) h'=>∃ (i:Nat) (M:Mo) (L:List (LkV×LkM)),s.2.1=i∧i≤xs.2.length∧Wd S (w.und n s.1 L xs) h' M (i+2*szG (xs.2.take i))∧Gw w E0 i (l.length+4*szG (xs.2.take i)) L M) (fun s _=>((xs.2.length:Int)-s.2.1).toNat)
  (fun t vs h'=>t=2∧∃ q M L,vs=[slv q]∧Wd S (w.und n q L xs) h' M (xs.2.length+2*szG xs.2)∧Gw w E0 xs.2.length (l.length+4*szG xs.2) L M)
  ⟨0,_,_,rfl,Nat.zero_le _,d8,g0⟩ ?_ ?_
 ·rintro ⟨(q:Sl),(si:Int),u⟩ h9 ⟨i,M,L,hsi,hi,d9,g9⟩
  dsimp only at hsi d9 ⊢
  subst hsi
  have hxl9:natI xs.1.len=(xs.2.length:Int):=by rw [natI_def,d9.xs.1]
  rw [hxl9]
  refine wp_ifB (fun hc=>?_) fun hc=>?_
  ·rw [ltI_iff] at hc
   have hlt:i<xs.2.length:=by omega
   obtain ⟨g,hg⟩:∃ g,xs.2[i]? = some g:=⟨xs.2[i],List.getElem?_eq_getElem hlt⟩
   have ht:=szG_take hg
   have hle:=szG_le xs.2 (i+1)
   have hE:=Mo.E_shut g9.now
   have hbl:blen w.enc M.E≤l.length+4*szG (xs.2.take i):=by rw [hE]; exact g9.wt.pre.2.head
   have hll:=g9.ll
   have hdl:=g9.len
   refine wp_bind (fun tg vs h'=>tg=0∧∃ q' M' L',vs=[slv q']∧Wd S (w.und n q' L' xs) h' M' (i+1+2*szG (xs.2.take (i+1)))∧Gw w E0 (i+1) (l.length+4*szG (xs.2.take (i+1))) L' M') ?_ ?_
   ·refine wp_call (w_Depth (w:=w.und n q L xs) d9) fun ⟨(a:Int),(a':Int),_⟩ h10 e10 hy=>?_
    obtain ⟨⟨ha,_⟩,d10⟩:=hy
    have ha:a=M.done.length:=ha
    subst ha
    dsimp only
    refine s_ldEs d10.xs hg ?_
    refine wp_callW (w_groupA (w:=w.und n q L xs) Me C d10 (fun rho k=>k.2) hg g9.now (by show (blen w.enc M.E:Int)+_≤w.limit; rw [hwl]; omega) (by omega)) fun tg vs h11 hq=>?_
    obtain ⟨rfl,rfl,bg,en,d11⟩:=hq
    refine ⟨rfl,(true,()),rfl,wp_ifB (fun hc=>by cases hc) fun _=>?_⟩
    refine wp_call (w_Depth (w:=w.und n q L xs) d11) fun ⟨(a:Int),(a':Int),_⟩ h12 e12 hy=>?_
    obtain ⟨⟨ha,_⟩,d12⟩:=hy
    have ha:a=(M.grp (cutC M.C g.2) bg en).done.length:=ha
    subst ha
    dsimp only
    have hkn:known w.enc:=d9.ok.en
    have ok:=cut_ok (enc:=w.enc) (limit:=60000) hkn (l:=g.2) (E:=M.C) (by rw [← hE]; omega)
    have wt':WtG w.enc (l.length+4*szG (xs.2.take (i+1))) (M.grp (cutC M.C g.2) bg en).E0 (M.grp (cutC M.C g.2) bg en).all:=(grp_wt (bg:=bg) (en:=en) (cuts:=g.2) hkn g9.wt (limit:=60000) (by omega)).mono (by omega)
    have d12:=d12.mono (N':=i+1+2*szG (xs.2.take (i+1))) (by omega)
    cases hef:effC (cutC M.C g.2) with
    | true=>
     obtain ⟨gy,hdn⟩:=g9.yes (y:=y0) (bg:=bg) (en:=en) hef (by omega) ok.1 wt'
     rw [hdn]
     rw [add_ok (by omega) (by omega)]
     refine wp_ifB (fun _=>?_) fun hc=>by rw [eqI_not] at hc; exact absurd (by push_cast; rfl) hc
     refine w_pushLook Me C0 Ct Cm (nle d12) d12 (by omega) (by omega) fun h13 q' y d13 _=>s_ret ⟨rfl,q',_,_,rfl,d13,?_⟩
     exact (g9.yes (y:=y) (bg:=bg) (en:=en) hef (by omega) ok.1 wt').1
    | false=>
     have hi1:1≤i:=by
      rcases Nat.eq_zero_or_pos i with h0 | h0
      ·subst h0
       rw [hxs0] at hg
       cases hg
       rw [cut_eff hx0p] at hef; cases hef
      ·exact h0
     have gn:=g9.no (bg:=bg) (en:=en) hef hi1 wt'
     have hdn:(M.grp (cutC M.C g.2) bg en).done=M.done:=by rw [Mo.grp_no hef]; rfl
     rw [hdn]
     rw [add_ok (by omega) (by omega)]
     refine wp_ifB (fun hc=>by rw [eqI_iff] at hc; omega) fun _=>?_
     have hpe:∀ c∈g.2,c.2.2.1.2=[]:=fun c hc=>by
      by_cases hn:c.2.2.1.2=[]
      ·exact hn
      ·rw [cut_eff ⟨c,hc,hn⟩] at hef; cases hef
     refine bind_val (tys:=[.one .bool]) (fun (y:Bool×Unit) h'=>y.1=false∧h'=h12) ?_ fun ⟨(y:Bool),_⟩ h13 e13 hy=>?_
     ·refine wp_ifB (fun hc=>by rw [neI_iff] at hc; exact absurd rfl hc) fun _=>?_
      have hgo:=d12.xs.el hg
      refine s_ldEs d12.xs hg ?_
      have hgl:natI g.1.len=(g.2.length:Int):=by rw [natI_def,hgo.1]
      rw [hgl]
      refine wp_ifB (fun hc=>?_) fun hc=>s_ret ⟨rfl,Ext.refl _,(false,()),rfl,rfl,rfl⟩
      rw [gtI_iff] at hc
      refine s_ldEs d12.xs hg ?_
      obtain ⟨c,hc0⟩:∃ c,g.2[0]? = some c:=⟨g.2[0]'(by omega),List.getElem?_eq_getElem (by omega)⟩
      obtain ⟨o1,o2,o3,o4⟩:=hgo
      obtain ⟨a,ea,hcc,hco⟩:=o4 0 c hc0
      refine wp_grd (andB_iff.2 ⟨by rw [ea]; rfl,inB_is.2 ⟨by decide,by omega⟩⟩) (wp_grd (by rw [ea]; rfl) ?_)
      rw [ea]
      have h2:=cells_iff.1 hcc 2 (slv c.2.2.1.1) rfl
      rw [Nat.zero_mul,add_zero'] at h2
      refine wp_load1 (a.add 2) c.2.2.1.1 (by show some ((a.add 0).add 2)=_; rw [add_zero']) h2 ?_
      have hp:=hpe c (List.mem_of_getElem? hc0)
      have hpl:c.2.2.1.1.len=0:=by
       have:=hco.2.2.1.1
       rw [this,hp]; rfl
      rw [hpl]
      exact s_ret ⟨rfl,Ext.refl _,(false,()),rfl,rfl,rfl⟩
     ·obtain ⟨hy,rfl⟩:=hy
      have hy:y=false:=hy
      subst hy
      exact wp_ifB (fun hc=>by cases hc) fun _=>s_ret ⟨rfl,q,_,_,rfl,d12,gn⟩
   ·rintro tg vs h13 ⟨rfl,q',M',L',rfl,d13,g13⟩
    refine s_tagNo (by decide) (s_tag (s_castS ?_))
    rw [add_ok (by omega) (by omega)]
    exact s_ret ⟨fun _=>⟨(q',(i:Int)+1,()),rfl,⟨i+1,M',L',by push_cast; rfl,by omega,d13,g13⟩,by dsimp only; omega⟩,fun hh=>absurd rfl hh⟩
  ·rw [ltI_not] at hc
   have hi:i=xs.2.length:=by omega
   subst hi
   rw [List.take_length] at d9 g9
   exact s_ret ⟨fun hh=>absurd hh (by decide),fun _=>⟨rfl,q,M,L,rfl,d9,g9⟩⟩
 rintro t vs h9 ⟨rfl,q,M,L,rfl,d9,g9⟩
 refine s_tag (s_castS ?_)
 generalize hN9:xs.2.length+2*szG xs.2=N9 at d9
 have hN:N9≤68719476736:=by omega
 have hqL:=d9.xl
 obtain ⟨full,hfull⟩:∃ full,full=M.done:=⟨_,rfl⟩
 have hLl:L.length=full.length+1:=by rw [hfull]; exact g9.ll
 have hLk:∀ j y,L[j]? = some y→y.2.E=playG E0 (full.take j):=by rw [hfull]; exact g9.lk
 have hp1:1≤full.length:=by rw [hfull]; exact g9.pos (by omega)
 have hfl:full.length≤200:=by have:=g9.len; rw [← hfull] at this; omega
 have u0:Gon E0 full 0 M:=⟨g9.now,g9.lost,g9.saved,g9.e0,by rw [Nat.sub_zero,List.take_length]; exact hfull.symm,by rw [Nat.sub_zero,List.drop_length]; exact g9.next,Nat.zero_le _⟩
 have hql:natI q.len=(full.length:Int)+1:=by rw [natI_def,hqL,hLl]; push_cast; rfl
 dsimp only
 show wp P (.bind (.loop [.one (.int .i64)] (subI .i64 (natI q.len) 2,()) _) _) h9 _
 rw [hql,sub_ok (by omega) (by omega)]
 refine wp_while (fun (s:Int×Unit) h'=>∃ (g:Nat) (M:Mo),s.1=(full.length:Int)-1-g∧Wd S (w.und n q L xs) h' M N9∧Gon E0 full g M) (fun s _=>(s.1+1).toNat)
  (fun t vs h'=>t=4∧vs=[]∧∃ M,Wd S (w.und n q L xs) h' M N9∧Gon E0 full full.length M)
  ⟨0,M,by dsimp only; omega,d9,u0⟩ ?_ ?_
 ·rintro ⟨(si:Int),u⟩ h10 ⟨g,M,hsi,d,u⟩
  dsimp only at hsi ⊢
  have hgl:=u.le
  refine wp_ifB (fun hc=>?_) fun hc=>?_
  ·rw [geI_iff] at hc
   obtain ⟨x,M',hu,u'⟩:=u.undo (by omega)
   refine wp_callW (w_Undo (w:=w.und n q L xs) d hN) fun tg vs h11 hq=>?_
   rw [hu] at hq
   obtain ⟨rfl,rfl,d11⟩:=hq
   refine ⟨rfl,(x,0,()),rfl,?_⟩
   refine bind_val (tys:=[.one .bool]) (fun (y:Bool×Unit) h'=>y.1=false∧Wd S (w.und n q L xs) h' M' N9) ?_ fun ⟨(y:Bool),_⟩ h12 e12 hy=>?_
   ·refine wp_call c_num7 fun ⟨(a:Int),_⟩ h12 e12 ha=>?_
    have ha:a=0:=ha
    subst ha
    refine wp_ifB (fun hc=>by rw [neI_iff] at hc; exact absurd rfl hc) fun _=>?_
    obtain ⟨z,hz⟩:∃ z,L[full.length-(g+1)]? = some z:=⟨L[full.length-(g+1)]'(by omega),List.getElem?_eq_getElem (by omega)⟩
    refine s_alike Me C0 Ct Cm (d11.ext e12) hN (by rw [hsi]; omega) hz ?_ fun h13 d13 e13=>s_ret ⟨rfl,e12.trans e13,(false,()),rfl,rfl,d13⟩
    rw [hLk _ z hz,u'.E]
   ·obtain ⟨hy,d12⟩:=hy
    have hy:y=false:=hy
    subst hy
    refine wp_ifB (fun hc=>by cases hc) fun _=>?_
    rw [sub_ok (by omega) (by omega)]
    exact s_ret ⟨fun _=>⟨(si-1,()),rfl,⟨g+1,M',by dsimp only; omega,d12,u'⟩,by dsimp only; omega⟩,fun hh=>absurd rfl hh⟩
  ·rw [geI_not] at hc
   have hg:g=full.length:=by omega
   subst hg
   exact s_ret ⟨fun hh=>absurd hh (by decide),fun _=>⟨rfl,rfl,M,d,u⟩⟩
 rintro t vs h10 ⟨rfl,rfl,M1,d10,u10⟩
 refine s_tag (s_cast0 ?_)
 refine wp_callW (w_Undo (w:=w.und n q L xs) d10 hN) fun tg vs h11 hq=>?_
 rw [u10.undone.1] at hq
 obtain ⟨rfl,rfl,d11⟩:=hq
 refine ⟨rfl,(0,72,()),rfl,?_⟩
 refine wp_call (w_Dirty (w:=w.und n q L xs) d11) fun ⟨(y:Bool),_⟩ h12 e12 hy=>?_
 obtain ⟨hy,d12⟩:=hy
 have hy:y=false:=hy.trans u10.undone.2
 subst hy
 have hE10:M1.E=E0:=by rw [u10.E,Nat.sub_self]; rfl
 refine bind_val (tys:=[.one .bool]) (fun (y:Bool×Unit) h'=>y.1=false∧Wd S (w.und n q L xs) h' M1 N9) ?_ fun ⟨(y:Bool),_⟩ h13 e13 hy=>?_
 ·refine wp_call c_num7 fun ⟨(a:Int),_⟩ h13 e13 ha=>?_
  have ha:a=72:=ha
  subst ha
  have d13:=d12.ext e13
  refine wp_ifB (fun hc=>by rw [eqI_iff] at hc; exact absurd (show (72:Int)=0 from hc) (by decide)) fun _=>wp_ifB (fun hc=>by cases hc) fun _=>?_
  refine s_bytes (hbx d13) ?_
  refine wp_call (w_Text (w:=w.und n q L xs) d13) fun ⟨(p:Option Addr),_⟩ h14 e14 hy=>?_
  obtain ⟨hp,d14⟩:=hy
  have hp:p=some w.p:=hp
  subst hp
  refine s_bytes (hbx d14) (wp_grd (by rw [eqS_is (hbx d14).wf (hbx d14).wf]; exact decide_eq_true rfl) ?_)
  refine wp_call (w_Bytes (w:=w.und n q L xs) C0 d14) fun ⟨(sb:Sl),_⟩ h15 e15 hy=>?_
  obtain ⟨ob,d15⟩:=hy
  have ob:OwnL h14.size .u8 h15 sb ((M1.E.map (·.1)).flatMap (putF w.enc)):=ob
  rw [hE10,hbytes] at ob
  refine s_bytes (hbx d15) (wp_grd (by rw [eqS_is (hbx d15).wf (hbx d15).wf]; exact decide_eq_true rfl) ?_)
  refine s_bytes ob.lst ?_
  rw [eqS_is ob.lst.wf (hbx d15).wf,decide_eq_true rfl]
  exact s_ret ⟨rfl,(e13.trans e14).trans e15,(false,()),rfl,rfl,d15⟩
 obtain ⟨hy,d13⟩:=hy
 have hy:y=false:=hy
 subst hy
 refine wp_ifB (fun hc=>by cases hc) fun _=>?_
 show wp P (.bind (.loop [.one (.int .i64)] ((1:Int),()) _) _) h13 _
 refine wp_while (fun (s:Int×Unit) h'=>∃ (g:Nat) (M:Mo),s.1=(full.length:Int)+1-g∧Wd S (w.und n q L xs) h' M N9∧Gon E0 full g M) (fun s _=>((full.length:Int)+1-s.1).toNat)
  (fun t vs h'=>t=6∧vs=[]∧∃ M,Wd S (w.und n q L xs) h' M N9∧Gon E0 full 0 M)
  ⟨full.length,M1,by dsimp only; omega,d13,u10⟩ ?_ ?_
 ·rintro ⟨(si:Int),u⟩ h10 ⟨g,M,hsi,d,u⟩
  dsimp only at hsi ⊢
  have hgl:=u.le
  refine wp_ifB (fun hc=>?_) fun hc=>?_
  ·rw [ltI_iff] at hc
   obtain ⟨g',rfl⟩:∃ g',g=g'+1:=⟨g-1,by omega⟩
   obtain ⟨x,M',hu,u'⟩:=u.redo
   refine wp_callW (w_Redo (w:=w.und n q L xs) d hN) fun tg vs h11 hq=>?_
   rw [hu] at hq
   obtain ⟨rfl,rfl,d11⟩:=hq
   refine ⟨rfl,(x,0,()),rfl,?_⟩
   refine bind_val (tys:=[.one .bool]) (fun (y:Bool×Unit) h'=>y.1=false∧Wd S (w.und n q L xs) h' M' N9) ?_ fun ⟨(y:Bool),_⟩ h12 e12 hy=>?_
   ·refine wp_call c_num7 fun ⟨(a:Int),_⟩ h12 e12 ha=>?_
    have ha:a=0:=ha
    subst ha
    refine wp_ifB (fun hc=>by rw [neI_iff] at hc; exact absurd rfl hc) fun _=>?_
    obtain ⟨z,hz⟩:∃ z,L[full.length-g']? = some z:=⟨L[full.length-g' ]'(by omega),List.getElem?_eq_getElem (by omega)⟩
    refine s_alike Me C0 Ct Cm (d11.ext e12) hN (by rw [hsi]; omega) hz ?_ fun h13 d13 e13=>s_ret ⟨rfl,e12.trans e13,(false,()),rfl,rfl,d13⟩
    rw [hLk _ z hz,u'.E]
   ·obtain ⟨hy,d12⟩:=hy
    have hy:y=false:=hy
    subst hy
    refine wp_ifB (fun hc=>by cases hc) fun _=>?_
    rw [add_ok (by omega) (by omega)]
    exact s_ret ⟨fun _=>⟨(si+1,()),rfl,⟨g',M',by dsimp only; omega,d12,u'⟩,by dsimp only; omega⟩,fun hh=>absurd rfl hh⟩
  ·rw [ltI_not] at hc
   have hg:g=0:=by omega
   subst hg
   exact s_ret ⟨fun hh=>absurd hh (by decide),fun _=>⟨rfl,rfl,M,d,u⟩⟩
 rintro t vs h14 ⟨rfl,rfl,M2,d14,u14⟩
 refine s_tag (s_cast0 ?_)
 refine wp_callW (w_Redo (w:=w.und n q L xs) d14 hN) fun tg vs h15 hq=>?_
 rw [u14.redone] at hq
 obtain ⟨rfl,rfl,d15⟩:=hq
 refine ⟨rfl,(0,73,()),rfl,?_⟩
 have ew:∀ {g:Heap} {M:Mo},Wd S (w.und n q L xs) g M N9→Ext h g:=by
  intro g M d
  have he:Ext w.h0 g:=d.e
  rw [hw0] at he
  exact e1.trans he
 refine bind_val (tys:=[.one .bool]) (fun (y:Bool×Unit) h'=>y.1=true) ?_ fun ⟨(y:Bool),_⟩ h16 e16 hy=>?_
 ·refine wp_call c_num7 fun ⟨(a:Int),_⟩ h16 e16 ha=>?_
  have ha:a=73:=ha
  subst ha
  refine wp_ifB (fun _=>?_) fun hc=>by rw [neI_not] at hc; exact absurd (show (73:Int)=0 from hc) (by decide)
  refine s_ret ⟨rfl,e16,(_,()),rfl,?_⟩
  show gtI ((full.length:Int)+1) 1=true
  rw [gtI_iff]; omega
 have hy:y=true:=hy
 subst hy
 exact s_ret ⟨rfl,(ew d15).trans e16,(true,()),rfl,rfl⟩
end Go.Sw.Hist
