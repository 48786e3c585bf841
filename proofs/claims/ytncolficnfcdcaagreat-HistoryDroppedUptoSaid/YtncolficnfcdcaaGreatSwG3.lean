/-
  The laws of chapter 7: looks that are the same; what HistoryDropped needs.
-/
import Derived.Test.YtncolficnfcdcaaGreatSwG2
set_option linter.unusedVariables false
set_option linter.unusedSimpArgs false
set_option maxRecDepth 100000
namespace Go.Sw.Hist
open Go.Sw.Any Go.Sw.Codec Go.Sw.Piece
variable {P:Program} {S:Ids} {h:Heap} {Q:Nat→List Value→Heap→Prop} {w:Wid} {M:Mo} {N:Nat}
theorem c_same {m m':Nat} {y z:LkV} {k:LkM} (r:LookR m h y k) (r':LookR m' h z k):Gives P (F_law7_same S y z) [.one .bool] h fun (x:Bool×Unit) _=>x.1=true:=by
 unfold F_law7_same Gives
 refine fun el1=>?_
 have e1:Ext h (h.push (.cells (lkC y).toArray el1)):=Ext.push ..
 have o1:Own h.size 1 (h.push (.cells (lkC y).toArray el1)) ⟨some ⟨h.size,0,none⟩,8,8⟩ (lkC y):=own_alloc rfl (by decide) (by decide)
 show wp P _ (h.push (.cells (lkC y).toArray el1)) _
 generalize h.push (.cells (lkC y).toArray el1)=h1 at e1 o1 ⊢
 refine fun el2=>?_
 have e2:Ext h1 (h1.push (.cells (lkC z).toArray el2)):=Ext.push ..
 have o2:Own h1.size 1 (h1.push (.cells (lkC z).toArray el2)) ⟨some ⟨h1.size,0,none⟩,8,8⟩ (lkC z):=own_alloc rfl (by decide) (by decide)
 show wp P _ (h1.push (.cells (lkC z).toArray el2)) _
 generalize h1.push (.cells (lkC z).toArray el2)=h2 at e2 o2 ⊢
 have o1':=(Chg.of_ext (F:=fun _=>False) e2).own o1 fun _ _ x=>x
 have e02:=e1.trans e2
 have kp:∀ {g g':Heap} {n:Nat} {a:Addr} {vs:List Value},Own n 1 g ⟨some a,8,8⟩ vs→Ext g g'→Own n 1 g' ⟨some a,8,8⟩ vs:=fun o e=>(Chg.of_ext (F:=fun _=>False) e).own o fun _ _ x=>x
 refine bind_val (tys:=[.one .bool]) (fun (x:Bool×Unit) _=>x.1=false) ?_ fun ⟨(x:Bool),_⟩ h3 e3 hx=>?_
 ·refine s_loadO y o1' rfl (s_loadO z o2 rfl ?_)
  refine wp_call (c_alike (r.ext e02) (r'.ext e02)) fun ⟨(b1:Bool),_⟩ h3 e3 hb=>?_
  have hb:b1=true:=hb.2 ⟨rfl,rfl⟩
  subst hb
  refine wp_ifB (fun hc=>by cases hc) fun _=>?_
  refine s_cell (b:=.sl) y.2.2.1 rfl (kp o1' e3).cells rfl (s_cell (b:=.sl) z.2.2.1 rfl (kp o2 e3).cells rfl ?_)
  refine wp_call (c_same7I (r.ext (e02.trans e3)).wat.lst (r'.ext (e02.trans e3)).wat.lst) fun ⟨(b2:Bool),_⟩ h4 e4 hb=>?_
  have hb:b2=true:=by have hb:b2=decide _:=hb; rw [hb]; exact decide_eq_true rfl
  subst hb
  have e34:=e3.trans e4
  refine wp_ifB (fun hc=>by cases hc) fun _=>?_
  refine s_cell (b:=.sl) y.2.2.2.1 rfl (kp o1' e34).cells rfl (s_cell (b:=.sl) z.2.2.2.1 rfl (kp o2 e34).cells rfl ?_)
  refine s_ret ⟨rfl,e34,(_,()),rfl,?_⟩
  show neI (natI y.2.2.2.1.len) (natI z.2.2.2.1.len)=false
  rw [neI_not,PrO.len r.mar,PrO.len r'.mar]
 have hx:x=false:=hx
 subst hx
 refine wp_ifB (fun hc=>by cases hc) fun _=>?_
 have o3:=kp o1' e3
 have o4:=kp o2 e3
 have r3:=r.ext (e02.trans e3)
 have r4:=r'.ext (e02.trans e3)
 have hl:=PrO.len r3.mar
 refine wp_while (fun (s:Int×Unit) h'=>h'=h3∧∃ i:Nat,s.1=i∧i≤k.ms.length) (fun s _=>((k.ms.length:Int)-s.1).toNat)
  (fun t vs h'=>h'=h3∧t=2∧vs=[]) ⟨rfl,0,rfl,Nat.zero_le _⟩ ?_ ?_
 ·rintro ⟨(s:Int),u⟩ h' ⟨rfl,i,hs,hi⟩
  dsimp only at hs ⊢
  subst hs
  refine s_cell (b:=.sl) y.2.2.2.1 rfl o3.cells rfl ?_
  rw [natI_def,hl]
  refine wp_ifB (fun hc=>?_) fun hc=>?_
  ·rw [ltI_iff] at hc
   refine s_cell (b:=.sl) y.2.2.2.1 rfl o3.cells rfl (s_ldP r3.mar rfl (by omega) ?_)
   refine s_cell (b:=.sl) z.2.2.2.1 rfl o4.cells rfl (s_ldP r4.mar rfl (by omega) ?_)
   refine wp_ifB (fun hc=>?_) fun _=>?_
   ·rw [notB_iff] at hc
    have:andB (eqI (el k.ms i).1 (el k.ms i).1) (eqI (el k.ms i).2 (el k.ms i).2)=true:=andB_iff.2 ⟨eqI_iff.2 rfl,eqI_iff.2 rfl⟩
    rw [this] at hc; cases hc
   ·have hlt:=r3.mar.2.1
    have hmx:=r3.mar.2.2.1
    rw [add_ok (by omega) (by omega)]
    exact s_ret ⟨fun _=>⟨((i:Int)+1,()),rfl,⟨rfl,i+1,by push_cast; rfl,by omega⟩,by dsimp only; omega⟩,fun hh=>absurd rfl hh⟩
  ·exact s_ret ⟨fun hh=>absurd hh (by decide),fun _=>⟨rfl,rfl,rfl⟩⟩
 rintro t vs h' ⟨rfl,rfl,rfl⟩
 refine s_tag (s_cast0 ?_)
 refine bind_val (tys:=[.one .bool]) (fun (x:Bool×Unit) g=>x.1=true∧g=h') ?_ fun ⟨(x:Bool),_⟩ h5 e5 hx=>?_
 ·refine s_cell (b:=.int .i64) y.2.2.2.2.1 rfl o3.cells rfl (s_cell (b:=.int .i64) z.2.2.2.2.1 rfl o4.cells rfl ?_)
  refine wp_ifB (fun _=>?_) fun hc=>by rw [eqI_not] at hc; exact absurd (r.und.trans r'.und.symm) hc
  refine s_cell (b:=.int .i64) y.2.2.2.2.2.1 rfl o3.cells rfl (s_cell (b:=.int .i64) z.2.2.2.2.2.1 rfl o4.cells rfl ?_)
  refine wp_ifB (fun _=>?_) fun hc=>by rw [eqI_not] at hc; exact absurd (r.red.trans r'.red.symm) hc
  refine s_cell (b:=.bool) y.2.2.2.2.2.2.1 rfl o3.cells rfl (s_cell (b:=.bool) z.2.2.2.2.2.2.1 rfl o4.cells rfl ?_)
  have hdir:eqB y.2.2.2.2.2.2.1 z.2.2.2.2.2.2.1=true:=by rw [r.dir,r'.dir]; simp [eqB]
  have hope:eqB y.2.2.2.2.2.2.2.1 z.2.2.2.2.2.2.2.1=true:=by rw [r.ope,r'.ope]; simp [eqB]
  refine wp_ifB (fun _=>?_) fun hc=>by rw [hdir] at hc; cases hc
  refine s_cell (b:=.bool) y.2.2.2.2.2.2.2.1 rfl o3.cells rfl (s_cell (b:=.bool) z.2.2.2.2.2.2.2.1 rfl o4.cells rfl ?_)
  exact s_ret ⟨rfl,Ext.refl _,(_,()),rfl,hope,rfl⟩
 ·obtain ⟨hx,rfl⟩:=hx
  have hx:x=true:=hx
  subst hx
  exact s_ret ⟨rfl,e02.trans e3,(true,()),rfl,rfl⟩
theorem lett_put {enc:Int} (he:known enc) (a:Int):(putF enc (lett a)).length≤2:=by
 have h1:=putF_len (lett_fits he a)
 have h2:=lett_in a
 have h3:sizeF enc (lett a)≤2:=by
  unfold sizeF
  repeat' split
  all_goals omega
 omega
theorem letts_put {enc:Int} (he:known enc):∀ l:List Int,((l.map lett).flatMap (putF enc)).length≤2*l.length
 | []=>Nat.le_refl _
 | a::l=>by
  have h1:=letts_put he l
  have h2:=lett_put he a
  rw [List.map_cons,List.flatMap_cons,List.length_append,List.length_cons]; omega
theorem cut_okay2 {enc limit:Int} {E:List El} {c:EdD} (he:known enc) (hb:(blen enc E:Int)+2*c.2.2.1.2.length≤limit):Okay enc limit E [cutE E c]∧blen enc (allE E [cutE E c])≤blen enc E+2*c.2.2.1.2.length:=by
 have h1:=slot_in (i:=c.1) (n:=E.length) (by omega)
 have h2:=slot_in (i:=c.2.1) (n:=min 3 (E.length-slotF c.1 E.length)) (by omega)
 have hf:fitsE enc (c.2.2.1.2.map lett):=fun a ha=>by
  obtain ⟨x,_,rfl⟩:=List.mem_map.1 ha
  exact lett_fits he x
 have ha:allE E [cutE E c]=one1 E (cutE E c):=rfl
 have hb2:blen enc (allE E [cutE E c])≤blen enc E+2*c.2.2.1.2.length:=by
  rw [ha]
  obtain ⟨f,hf'⟩:∃ f,f=(cutE E c).1.toNat:=⟨_,rfl⟩
  obtain ⟨t,ht'⟩:∃ t,t=(cutE E c).2.1.toNat:=⟨_,rfl⟩
  have hft:f≤t:=by
   rw [hf',ht']
   show (slotF c.1 E.length).toNat≤(slotF c.1 E.length+slotF c.2.1 (min 3 (E.length-slotF c.1 E.length))).toNat
   omega
  unfold one1
  rw [← hf', ← ht',blen_append,blen_append]
  have h2:=blen_append enc (E.take f) (E.drop f)
  rw [List.take_append_drop] at h2
  have h3:=blen_append enc ((E.drop f).take (t-f)) ((E.drop f).drop (t-f))
  rw [List.take_append_drop,List.drop_drop,show f+(t-f)=t by omega] at h3
  have h4:blen enc ((cutE E c).2.2.1.2.map fun a=>((a, -1):El))≤2*c.2.2.1.2.length:=by
   rw [blen_new]
   exact letts_put he c.2.2.1.2
  omega
 refine ⟨⟨⟨h1.1,?_,?_,trivial⟩,?_,?_⟩,hb2⟩
 ·show slotF c.1 E.length≤slotF c.1 E.length+_; omega
 ·show slotF c.1 E.length+slotF c.2.1 (min 3 (E.length-slotF c.1 E.length))≤_; omega
 ·have:putsOf [cutE E c]=c.2.2.1.2.map lett:=by simp [putsOf,cutE]
  rw [this]; exact hf
 ·omega
theorem cut_len2 {enc:Int} (he:known enc):∀ {l:List EdD} {E:List El},blen enc (playC E (cutC E l))≤blen enc E+2*(putsOf l).length
 | [],E=>Nat.le_add_right _ _
 | c::l,E=>by
  have hp:(putsOf (c::l)).length=c.2.2.1.2.length+(putsOf l).length:=by simp [putsOf]
  have h2:=(cut_okay2 (enc:=enc) (limit:=(blen enc E:Int)+2*c.2.2.1.2.length) (E:=E) (c:=c) he (by omega)).2
  have h4:=cut_len2 (enc:=enc) he (l:=l) (E:=allE E [cutE E c])
  show blen enc (playC (allE E [cutE E c]) (cutC _ l))≤_
  omega
theorem w_cut1 (Me:Meth0 P S) {M0:Mo} {cs:List (List EdD)} {bg:Int} {c:EdD} (d:Wd S w h (M0.mid cs bg) N) (hc:Lst .i64 h c.2.2.1.1 c.2.2.1.2) (hcl:c.2.2.1.2.length≤1073741824) (hb:(blen w.enc (playC M0.C cs):Int)+2*c.2.2.1.2.length≤w.limit)
  (hN:N+1+c.2.2.1.2.length≤68719476736) {L:Int} (hL:L=(playC M0.C cs).length) {X K:Prog}
  (hk:∀ h',Wd S w h' (M0.mid (cs++[[cutE (playC M0.C cs) c]]) bg) (N+1+c.2.2.1.2.length)→wp P K h' Q) :
  wp P (.call (F_law7_edit S (c.1,c.2.1,c.2.2.1.1,()) L) [.agg [.int .i64, .int .i64, .sl]] fun (r:(Int×Int×Sl×Unit)×Unit)=>.alloc [i64v r.1.1,i64v r.1.2.1,slv r.1.2.2.1] fun a=>.call (F_Book_Change S (some w.b) ⟨some a,1,1⟩) [.one (.int .i64)] fun (r4:Int×Unit)=>
   .call (F_law7_num S r4.1) [.one (.int .i64)] fun (r5:Int×Unit)=>ifB (neI r5.1 0) X K) h Q:=by
 subst hL
 have hlen:=d.ok.len
 have hE:(M0.mid cs bg).E=playC M0.C cs:=rfl
 generalize hEE:playC M0.C cs=E at *
 rw [hE] at hlen
 refine wp_call (c_edit7 (c1:=c.1) (c2:=c.2.1) (n:=E.length) hc (by omega) (by omega) (by omega)) fun ⟨⟨(f:Int),(t:Int),(s:Sl),_⟩,_⟩ h8 e8 hy=>?_
 obtain ⟨hf,ht,ow⟩:=hy
 have hf:f=slotF c.1 E.length:=hf
 have ht:t=slotF c.1 E.length+slotF c.2.1 (min 3 (E.length-slotF c.1 E.length)):=ht
 have ow:OwnL h.size .i64 h8 s (c.2.2.1.2.map lett):=ow
 dsimp only
 have hen:=d.ok.en
 obtain ⟨rho,X',st,r,i,q⟩:=d
 have r8:=r.zr e8
 have st8:=st_on st (StepR.ofExt (k:=0) (rho:=rho) e8)
 have k8:=w.ks _ _ _ _ (StepR.ofExt (k:=0) e8) q.1
 have hstrip:[((f,t,(s,c.2.2.1.2.map lett),()):EdD)].map strip=[cutE E c]:=by rw [hf,ht]; rfl
 have hok8:Okay X'.T.enc X'.T.limit (M0.mid cs bg).E [((f,t,(s,c.2.2.1.2.map lett),()):EdD)]:=by
  rw [← strip_okay,hstrip,hE,q.2.2.2.1,q.2.2.2.2]
  exact (cut_okay2 hen hb).1
 rw [← q.2.1]
 refine s_change1 Me (q:=⟨cs,bg,M0.marks,M0.watched⟩) r8 i rfl ow (fun a ha=>?_) hok8 (by rw [List.length_map]; omega) fun h9 rho9 X9 st9 r9 i9 sm9=>?_
 ·have:=(ow.own.lt ha).1
  rw [zr_new this]; omega
 rw [Mo.mid_chg,hstrip,List.length_map] at i9
 refine wp_call (c_num7) fun ⟨(y:Int),_⟩ h10 e10 hy=>?_
 have hy:y=0:=hy
 subst hy
 refine wp_ifB (fun hc=>by cases hc) fun _=>hk h10 ?_
 exact Wd.of st8 ⟨k8,q.2⟩ ⟨_,X9,st9.trans (StepR.ofExt e10),r9.zr e10,i9,sm9⟩
end Go.Sw.Hist

set_option linter.unusedVariables false
set_option linter.unusedSimpArgs false
set_option maxRecDepth 100000
namespace Go.Sw.Hist
open Go.Sw.Any Go.Sw.Codec Go.Sw.Piece
variable {P:Program} {S:Ids} {h:Heap} {Q:Nat→List Value→Heap→Prop} {w:Wid} {M:Mo} {N:Nat}
def LkA (m:Nat) (a:Addr) (y:LkV) (k:LkM) (rho:Nat→Nat) (h:Heap):Prop:=LookK m rho h y k∧Own m 1 h ⟨some a,8,8⟩ (lkC y)∧rho a.block=0
theorem LkA.st (m:Nat) (a:Addr) (y:LkV) (k:LkM):∀ rho h rho' h',StepR 0 h rho h' rho'→LkA m a y k rho h→LkA m a y k rho' h':=fun rho h rho' h' st ⟨k1,k2,k3⟩=>
 ⟨k1.chg st.c (fun i hi hf=>by omega) fun i hi h0=>by rw [st.old i hi (.inl (by omega))]; exact h0,st.c.own k2 fun b hb hf=>by cases hb; omega,by rw [st.old _ (k2.lt rfl).2 (.inl (by omega))]; exact k3⟩
abbrev lkZ:List Value:=[.slice none 0 0, .slice none 0 0, .slice none 0 0, .slice none 0 0,i64v 0,i64v 0, .bool false, .bool false]
theorem w_keepLook (Me:Meth0 P S) (C0:Cl0 P S) (Ct:Clt P S) (Cm:ClM P S) (d:Wd S w h M N) (hN:N≤68719476736) {K:Addr→Prog}
  (hk:∀ h' a y,Wd S (w.add (LkA h.size a y M.look) (LkA.st _ _ _ _)) h' M N→wp P (K a) h' Q) :
  wp P (.call (F_law7_see S (some w.b)) [.agg LkT] fun (r:LkV×Unit)=>.alloc lkZ fun a=>.store (some a) (lkC r.1) (K a)) h Q:=by
 refine wp_call (w_see Me C0 Ct (w_Marks Cm _ _) d hN) fun ⟨y,_⟩ h1 e1 hy=>?_
 obtain ⟨lr,d1⟩:=hy
 have lr:LookR h.size h1 y M.look:=lr
 dsimp only
 refine fun el=>?_
 have e2:Ext h1 (h1.push (.cells lkZ.toArray el)):=Ext.push ..
 have o2:Own h1.size 1 (h1.push (.cells lkZ.toArray el)) ⟨some ⟨h1.size,0,none⟩,8,8⟩ lkZ:=own_alloc rfl (by decide) (by decide)
 generalize h1.push (.cells lkZ.toArray el)=h2 at e2 o2 ⊢
 have s1:=e1.1
 refine s_putV (lkC y) o2 rfl (by intro v hv; simp only [lkC,List.mem_cons,List.not_mem_nil,or_false] at hv; rcases hv with rfl | rfl | rfl | rfl | rfl | rfl | rfl | rfl <;> rfl) fun h3 o3 u3 z3=>?_
 have e13:Ext h1 h3:=Upd.extN e2 u3 fun x hx=>by cases hx; exact Nat.le_refl _
 have lr3:=lr.ext e13
 refine hk h3 _ y (d.add (e1.trans e13) fun rho hz=>?_)
 have zz:∀ {a:Addr},h.size≤a.block→rho a.block=0:=fun h=>hz _ h
 exact ⟨⟨lr3,fun a ha=>zz (lr.ato.own.lt ha).1,fun a ha=>zz (lr.tag.own.lt ha).1,fun a ha=>zz (lr.wat.own.lt ha).1,fun a ha=>zz (lr.mar.lt ha).1⟩,Own.mono o3 s1,hz _ s1⟩
structure Dr (w:Wid) (W:Nat) (M:Mo):Prop where
 now:M.now=none
 wt:WtG w.enc W M.E0 M.all
theorem Dr.E {W:Nat} (g:Dr w W M):blen w.enc M.E≤W:=by rw [Mo.E_shut g.now]; exact g.wt.pre.2.head
theorem Dr.grp {limit:Int} {W:Nat} {cuts:List EdD} {bg en:Int} (g:Dr w W M) (o:MoOk w.enc limit M N) (hl:(W:Int)+4*(putsOf cuts).length≤limit):Dr w (W+4*(putsOf cuts).length) (M.grp (cutC M.C cuts) bg en):=
 ⟨Mo.grp_now,grp_wt (bg:=bg) (en:=en) o.en g.wt hl⟩
theorem Dr.set {W:Nat} {n a:Int} (g:Dr w W M):Dr w W (M.setR n a).2:=by
 unfold Mo.setR
 split
 ·split
  ·exact ⟨g.now,g.wt⟩
  ·exact g
 ·exact g
theorem Dr.watch {W:Nat} {l:List Int} (g:Dr w W M):Dr w W (M.watchR l).2:=by
 unfold Mo.watchR
 split
 ·exact ⟨g.now,g.wt⟩
 ·exact g
theorem Dr.undo {W:Nat} (g:Dr w W M):Dr w W M.undoR.2.2:=by
 unfold Mo.undoR
 rw [g.now,if_neg (by decide)]
 rcases lastG_cases M.done with hd | ⟨ds,x,hd,hl⟩
 ·rw [hd]; exact g
 ·rw [hl]
  refine ⟨g.now,?_⟩
  show WtG w.enc W (M.back ds x).E0 (M.back ds x).all
  rw [Mo.back_all hd]; exact g.wt
theorem s_ckI {s:Sl} {l:List Int} {i:Nat} {v:Int} {K:Prog} (o:Lst .i64 h s l) (hv:l[i]? = some v) (hk:wp P K h Q):wp P (.check (shiftTo s.base (mulN (toN (i:Int)) 1)) [i64v v] K) h Q:=by
 obtain ⟨a,ea,hc⟩:=o.rd.2 i (.int .i64 v) (by rw [List.getElem?_map,hv]; rfl)
 refine ⟨⟨a.add (i*1),by rw [ea,mulN_def,toN_def,Int.toNat_natCast]; rfl,cells_iff.2 fun j x hj=>?_⟩,hk⟩
 cases j with
 | zero=>
  cases hj
  rw [add_zero',Nat.mul_one]; exact hc
 | succ j=>simp at hj
theorem s_ckV {n:Nat} {a:Addr} {m c:Nat} {vs:List Value} {K:Prog} (o:Own n 1 h ⟨some a,m,c⟩ vs) (hk:wp P K h Q):wp P (.check (some a) vs K) h Q:=⟨⟨a,rfl,o.cells⟩,hk⟩
theorem drop_mid {cs:List (List EdD)} {bg:Int} {ms:MkL} {ws:List Int} (hn:M.now=none):({ M.mid cs bg with marks:=ms,watched:=ws }:Mo).dropR=(bg,0,M):=by
 unfold Mo.dropR Mo.mid
 dsimp only
 cases M
 dsimp only at hn
 subst hn
 rfl
end Go.Sw.Hist

set_option linter.unusedVariables false
set_option linter.unusedSimpArgs false
set_option maxRecDepth 100000
namespace Go.Sw.Hist
open Go.Sw.Any Go.Sw.Codec Go.Sw.Piece
variable {P:Program} {S:Ids} {h:Heap} {Q:Nat→List Value→Heap→Prop} {w:Wid} {M:Mo} {N:Nat}
theorem set_is (M:Mo) (n a:Int):∃ ms,(M.setR n a).2={ M with marks:=ms }:=by
 unfold Mo.setR
 split
 ·split
  ·exact ⟨_,rfl⟩
  ·exact ⟨M.marks,rfl⟩
 ·exact ⟨M.marks,rfl⟩
theorem watch_is (M:Mo) (l:List Int):∃ ws,(M.watchR l).2={ M with watched:=ws }:=by
 unfold Mo.watchR
 split
 ·exact ⟨_,rfl⟩
 ·exact ⟨M.watched,rfl⟩
theorem slot_zero (n:Int):slotF 0 n=0:=by unfold slotF; simp
theorem one_longer (E:List El) (s:Sl) (a:Int):(allE E [cutE E ((0,0,(s,[a]),()):EdD)]).length=E.length+1:=by
 show (one1 E (cutE E ((0,0,(s,[a]),()):EdD))).length=_
 unfold one1 cutE
 simp [slot_zero]
theorem c_HistoryDropped (Me:Meth0 P S) (C:ClH P S) (C0:Cl0 P S) (Ct:Clt P S) (Cm:ClM P S) {enc back:Int} {b mk:Sl} {l ml:List Int} {x:Edss} {cu:Eds} (hb:Lst .u8 h b l) (hl:l.length≤1073741824) (hx:EdssSh.ok h x) (wx:EdssSh.wt x≤1048576)
  (hc:(Sh.list EdSh).ok h cu) (wc:(Sh.list EdSh).wt cu≤1048576) (hm:Lst .i64 h mk ml) (hml:ml.length≤1073741824) :
  Gives P (F_law7_HistoryDropped S enc b x.1 back cu.1 mk) [.one .bool] h fun (y:Bool×Unit) _=>y.1=true:=by
 unfold F_law7_HistoryDropped Gives
 have hsz:=szG_wt x
 have hxl:=hx.len
 have hnl:natI x.1.len=(x.2.length:Int):=by rw [natI_def,hxl]
 have hcl:=hc.len
 have hnc:natI cu.1.len=(cu.2.length:Int):=by rw [natI_def,hcl]
 have hnm:natI mk.len=(ml.length:Int):=by rw [natI_def,hm.len]
 refine bind_val (tys:=[.one .bool]) (fun (y:Bool×Unit) _=>y.1=false→l.length+szG x.2≤8000∧x.2.length≤190∧l.length+(cu.2.length+(putsOf cu.2).length)≤8000∧ml.length≤20) ?_ fun ⟨(y:Bool),_⟩ h1 e1 hy=>?_
 ·refine wp_call (c_short hb.len (by omega) hx (by omega) (by omega)) fun ⟨(y:Bool),_⟩ h1 e1 hy=>wp_ifB (fun hc=>s_ret ⟨rfl,e1,(true,()),rfl,fun h=>by cases h⟩) fun hc1=>?_
  rw [notB_not] at hc1
  have hy:y=true↔l.length+szG x.2≤8000∧x.2.length≤190:=hy
  have hy1:=hy.1 hc1
  refine fun el=>?_
  have e2:Ext h1 (h1.push (.cells [slv cu.1].toArray el)):=Ext.push ..
  have o2:Own h1.size 1 (h1.push (.cells [slv cu.1].toArray el)) ⟨some ⟨h1.size,0,none⟩,1,1⟩ [slv cu.1]:=own_alloc rfl (by decide) (by decide)
  show wp P _ (h1.push (.cells [slv cu.1].toArray el)) _
  generalize h1.push (.cells [slv cu.1].toArray el)=g2 at e2 o2 ⊢
  obtain ⟨xs,hxs⟩:∃ xs:Edss,xs=(⟨some ⟨h1.size,0,none⟩,1,1⟩,[cu]):=⟨_,rfl⟩
  have okx:EdssSh.ok g2 xs:=by
   refine ok_slices (m:=h1.size) (by rw [hxs]; exact o2) fun y hy=>?_
   rw [hxs] at hy
   rw [List.mem_singleton.1 hy]
   exact (hc.ext e1).ext e2
  have hz:=szG_wt xs
  have hwx:EdssSh.wt xs=(Sh.list EdSh).wt cu+1:=by rw [hxs]; simp [EdssSh,Sh.wt]
  have hz1:szG xs.2=cu.2.length+(putsOf cu.2).length:=by rw [hxs]; simp [szG]
  have hz2:xs.2.length=1:=by rw [hxs]; rfl
  have hxs1:(⟨some ⟨h1.size,0,none⟩,1,1⟩:Sl)=xs.1:=by rw [hxs]
  dsimp only
  rw [hxs1]
  refine wp_call (c_short hb.len (by omega) okx (by omega) (by omega)) fun ⟨(y:Bool),_⟩ h3 e3 hy=>wp_ifB (fun hc=>s_ret ⟨rfl,(e1.trans e2).trans e3,(true,()),rfl,fun h=>by cases h⟩) fun hc3=>?_
  rw [notB_not] at hc3
  have hy:y=true↔l.length+szG xs.2≤8000∧xs.2.length≤190:=hy
  have hy3:=hy.1 hc3
  refine s_ret ⟨rfl,(e1.trans e2).trans e3,(_,()),rfl,fun hh=>?_⟩
  have hh:gtI (natI mk.len) 20=false:=hh
  rw [gtI_not,hnm] at hh
  omega
 refine wp_ifB (fun hc=>s_ret ⟨rfl,e1,(true,()),rfl,rfl⟩) fun hc0=>?_
 have hshort:=hy hc0
 clear hy hc0
 refine wp_call (c_book7 Me (enc:=enc) (depth:=Int.ofNat 4) (hb.ext e1) (by omega) ⟨by decide,by decide⟩) fun ⟨(p:Option Addr),_⟩ h2 e2 hp=>?_
 obtain ⟨X,rfl,B⟩:=hp
 obtain ⟨n,hn,hr⟩:=B.r
 obtain ⟨rho,st0,_,r0⟩:=hr 0 fun _=>0
 have i0:=B.inv r0 (by omega) ⟨by decide,by decide⟩
 obtain ⟨E0,hE0⟩:∃ E0,E0=elsF 0 0 (toks (enc % 4+1) l):=⟨_,rfl⟩
 rw [← hE0] at i0
 obtain ⟨w,hw⟩:∃ w:Wid,w=Wid.one n h1 X.b X.T.p X.T.enc 60000:=⟨_,rfl⟩
 have d0:Wd S w h2 (Mo.new E0 (Int.ofNat 4)) 0:=by
  rw [hw]; exact ⟨rho,X,st_of st0,r0,i0,trivial,rfl,rfl,rfl,B.li⟩
 have hwb:X.b=w.b:=by rw [hw]; rfl
 have hwl:w.limit=60000:=by rw [hw]; rfl
 have hw0:w.h0=h1:=by rw [hw]; rfl
 have hx1:EdssSh.ok w.h0 x:=by rw [hw0]; exact hx.ext e1
 have ew:∀ {g:Heap} {M:Mo} {N:Nat},Wd S w g M N→Ext h g:=by
  intro g M N d
  have he:Ext w.h0 g:=d.e
  rw [hw0] at he
  exact e1.trans he
 have b0:blen w.enc E0≤l.length:=by
  have h1:=blen_state r0.t.cur r0.t.enc
  rw [B.bytes] at h1
  have h2:els X.T.enc X.T.cur.ps=E0:=by rw [B.en,hE0]; exact B.el
  rw [h2] at h1
  rw [hw]; exact Nat.le_of_eq h1
 rw [hwb]
 clear hr st0 r0 i0 B hwb
 dsimp only
 have hMC:(Mo.new E0 (Int.ofNat 4)).E=E0:=rfl
 have g0:Dr w l.length (Mo.new E0 (Int.ofNat 4)):=⟨rfl,b0⟩
 refine wp_bind (fun tg vs h'=>tg=0∧vs=[.bool false]∧∃ M,Wd S w h' M 3∧Dr w (l.length+4) M) ?_ ?_
 ·refine wp_ifB (fun hc=>by cases hc) fun _=>?_
  refine w_one Me C d0 rfl (fits_i64.2 (by omega)) (by rw [hwl,hMC]; omega) (by omega) fun h5 bg en s d5=>s_ret ⟨rfl,rfl,_,d5.mono (by omega),?_⟩
  have ok0:=d0.ok
  rw [hwl] at ok0
  have:=g0.grp (bg:=bg) (en:=en) (cuts:=[((0,0,(s,[1]),()):EdD)]) ok0 (by rw [one_put]; omega)
  rw [one_put] at this
  exact this
 rintro tg vs h3 ⟨rfl,rfl,M3,d3,g3⟩
 refine s_tag (s_castB (wp_ifB (fun hc=>by cases hc) fun _=>?_))
 clear d0 g0
 rw [hnl]
 refine wp_while (fun (s:Int×Unit) h'=>∃ (i:Nat) (M:Mo),s.1=i∧i≤x.2.length∧Wd S w h' M (3+i+2*szG (x.2.take i))∧Dr w (l.length+4+4*szG (x.2.take i)) M) (fun s _=>((x.2.length:Int)-s.1).toNat)
  (fun t vs h'=>t=2∧vs=[]∧∃ M,Wd S w h' M (3+x.2.length+2*szG x.2)∧Dr w (l.length+4+4*szG x.2) M)
  ⟨0,M3,rfl,Nat.zero_le _,d3,g3⟩ ?_ ?_
 ·rintro ⟨(s:Int),u⟩ h4 ⟨i,M,hs,hi,d4,g4⟩
  dsimp only at hs ⊢
  subst hs
  refine wp_ifB (fun hc=>?_) fun hc=>?_
  ·rw [ltI_iff] at hc
   have hlt:i<x.2.length:=by omega
   obtain ⟨g,hg⟩:∃ g,x.2[i]? = some g:=⟨x.2[i],List.getElem?_eq_getElem hlt⟩
   have ht:=szG_take hg
   have hle:=szG_le x.2 (i+1)
   refine s_ldEs (hx1.ext d4.e) hg ?_
   have hbl:=g4.E
   refine wp_callW (w_group Me C (x:=g) d4 g4.now (hx1.el hg) (by rw [hwl]; omega) (by omega)) fun tg vs h5 hq=>?_
   obtain ⟨rfl,rfl,bg,en,d5⟩:=hq
   refine ⟨rfl,(true,()),rfl,wp_ifB (fun hc=>by cases hc) fun _=>?_⟩
   rw [add_ok (by omega) (by omega)]
   have ok4:=d4.ok
   rw [hwl] at ok4
   have g5:=g4.grp (bg:=bg) (en:=en) (cuts:=g.2) ok4 (by omega)
   exact s_ret ⟨fun _=>⟨((i:Int)+1,()),rfl,⟨i+1,_,by push_cast; rfl,by omega,d5.mono (by omega),⟨g5.now,g5.wt.mono (by omega)⟩⟩,by dsimp only; omega⟩,fun hh=>absurd rfl hh⟩
  ·rw [ltI_not] at hc
   have hi:i=x.2.length:=by omega
   subst hi
   rw [List.take_length] at d4 g4
   exact s_ret ⟨fun hh=>absurd hh (by decide),fun _=>⟨rfl,rfl,M,d4,g4⟩⟩
 rintro t vs h4 ⟨rfl,rfl,M4,d4,g4⟩
 refine s_tag (s_cast0 ?_)
 generalize hN4:3+x.2.length+2*szG x.2=N4 at d4
 generalize hW4:l.length+4+4*szG x.2=W4 at g4
 clear g3 d3
 rw [hnm]
 refine wp_while (fun (s:Int×Unit) h'=>∃ (i:Nat) (M:Mo),s.1=i∧i≤ml.length∧Wd S w h' M (N4+i)∧Dr w W4 M) (fun s _=>((ml.length:Int)-s.1).toNat)
  (fun t vs h'=>t=4∧vs=[]∧∃ M,Wd S w h' M (N4+ml.length)∧Dr w W4 M)
  ⟨0,M4,rfl,Nat.zero_le _,d4,g4⟩ ?_ ?_
 ·rintro ⟨(s:Int),u⟩ h5 ⟨i,M,hs,hi,d5,g5⟩
  dsimp only at hs ⊢
  subst hs
  refine wp_ifB (fun hc=>?_) fun hc=>?_
  ·rw [ltI_iff] at hc
   have hlt:i<ml.length:=by omega
   have hlen:=d5.ok.len
   refine s_at (hm.ext (ew d5)) (by omega) (by omega) fun _=>?_
   have hv:ml[i]? = some (ml.getD (i:Int).toNat 0):=by simp [List.getD,List.getElem?_eq_getElem hlt]
   generalize ml.getD (i:Int).toNat 0=v at hv ⊢
   refine wp_call (w_Text d5) fun ⟨(p:Option Addr),_⟩ h6 e6 hp=>?_
   obtain ⟨hp,d6⟩:=hp
   have hp:p=some w.p:=hp
   subst hp
   refine s_ckI (hm.ext (ew d6)) hv (wp_call (w_Len d6) fun ⟨(L:Int),_⟩ h7 e7 hL=>?_)
   obtain ⟨hL,d7⟩:=hL
   have hL:L=M.E.length:=hL
   subst hL
   refine s_ckI (hm.ext (ew d7)) hv ?_
   dsimp only
   refine wp_call (c_slot (i:=v) (n:=M.E.length) (by omega) (by omega)) fun ⟨(a:Int),_⟩ h8 e8 ha=>?_
   have ha:a=slotF v M.E.length:=ha
   have hin:=slot_in (i:=v) (n:=M.E.length) (by omega)
   rw [← ha] at hin
   dsimp only
   rw [add_ok (a:=97) (by omega) (by omega)]
   refine wp_callW (w_SetMark (d7.ext e8) (fits_i64.2 (by omega)) (fits_i64.2 (by omega))) fun tg vs h9 hq=>?_
   obtain ⟨rfl,rfl,d9⟩:=hq
   refine ⟨rfl,(_,()),rfl,?_⟩
   rw [add_ok (by omega) (by omega)]
   exact s_ret ⟨fun _=>⟨((i:Int)+1,()),rfl,⟨i+1,_,by push_cast; rfl,by omega,d9,g5.set⟩,by dsimp only; omega⟩,fun hh=>absurd rfl hh⟩
  ·rw [ltI_not] at hc
   have hi:i=ml.length:=by omega
   subst hi
   exact s_ret ⟨fun hh=>absurd hh (by decide),fun _=>⟨rfl,rfl,M,d5,g5⟩⟩
 rintro t vs h5 ⟨rfl,rfl,M5,d5,g5⟩
 refine s_tag (s_cast0 ?_)
 clear d4 g4
 generalize hN5:N4+ml.length=N5 at d5
 refine wp_call (c_slot (i:=back) (n:=Int.ofNat 3) (by decide) (by decide)) fun ⟨(u0:Int),_⟩ h6 e6 hu=>?_
 have hu:u0=slotF back 3:=hu
 have hui:=slot_in (i:=back) (n:=3) (by omega)
 rw [← hu] at hui
 refine wp_while (fun (s:Int×Unit) h'=>s.1≤3∧∃ (M:Mo),Wd S w h' M N5∧Dr w W4 M) (fun s _=>s.1.toNat)
  (fun t vs h'=>t=6∧vs=[]∧∃ M,Wd S w h' M N5∧Dr w W4 M)
  ⟨hui.2,M5,d5.ext e6,g5⟩ ?_ ?_
 ·rintro ⟨(s:Int),u⟩ h7 ⟨hs,M,d7,g7⟩
  dsimp only at hs ⊢
  refine wp_ifB (fun hc=>?_) fun hc=>s_ret ⟨fun hh=>absurd hh (by decide),fun _=>⟨rfl,rfl,M,d7,g7⟩⟩
  rw [gtI_iff] at hc
  refine wp_callW (w_Undo d7 (by omega)) fun tg vs h8 hq=>?_
  obtain ⟨rfl,rfl,d8⟩:=hq
  refine ⟨rfl,(_,_,()),rfl,?_⟩
  rw [sub_ok (by omega) (by omega)]
  exact s_ret ⟨fun _=>⟨(s-1,()),rfl,⟨by dsimp only; omega,_,d8,g7.undo⟩,by dsimp only; omega⟩,fun hh=>absurd rfl hh⟩
 rintro t vs h7 ⟨rfl,rfl,M7,d7,g7⟩
 refine s_tag (s_cast0 ?_)
 clear d5 g5
 refine wp_call (w_Text d7) fun ⟨(p:Option Addr),_⟩ h8 e8 hp=>?_
 obtain ⟨hp,d8⟩:=hp
 have hp:p=some w.p:=hp
 subst hp
 refine wp_call (w_Len d8) fun ⟨(L:Int),_⟩ h9 e9 hL=>?_
 obtain ⟨hL,d9⟩:=hL
 have hL:L=M7.E.length:=hL
 subst hL
 have hlen7:=d9.ok.len
 dsimp only
 refine s_allocL (k:=.i64) [0,(M7.E.length:Int)] (by intro z hz; simp only [List.mem_cons,List.not_mem_nil,or_false] at hz; exact fits_i64.2 (by omega)) (by simp) fun h10 e10 o10=>?_
 refine wp_callW (w_Watch (d9.ext e10) o10.lst (by simp)) fun tg vs h11 hq=>?_
 obtain ⟨rfl,rfl,d11⟩:=hq
 refine ⟨rfl,(_,()),rfl,?_⟩
 have g11:=g7.watch (l:=[0,(M7.E.length:Int)])
 generalize (M7.watchR [0,(M7.E.length:Int)]).2=M at d11 g11
 have hN11:N5+[0,(M7.E.length:Int)].length=N5+2:=rfl
 rw [hN11] at d11
 clear d7 d8 d9 g7
 refine w_keepLook Me C0 Ct Cm d11 (by omega) fun h12 aA yA d12=>?_
 obtain ⟨wa,hwa⟩:∃ wa,wa=w.add (LkA h11.size aA yA M.look) (LkA.st _ _ _ _):=⟨_,rfl⟩
 rw [← hwa] at d12
 have wab:w.b=wa.b:=by rw [hwa]; rfl
 have wap:w.p=wa.p:=by rw [hwa]; rfl
 have wae:w.enc=wa.enc:=by rw [hwa]; rfl
 have wal:wa.limit=60000:=by rw [hwa]; exact hwl
 rw [wab]
 refine wp_call (w_Text d12) fun ⟨(p:Option Addr),_⟩ h13 e13 hp=>?_
 obtain ⟨hp,d13⟩:=hp
 have hp:p=some wa.p:=hp
 subst hp
 refine wp_call (w_Len d13) fun ⟨(L:Int),_⟩ h14 e14 hL=>?_
 obtain ⟨hL,d14⟩:=hL
 have hL:L=M.E.length:=hL
 subst hL
 have hlen:=d14.ok.len
 dsimp only
 refine wp_call (c_slot (i:=back) (n:=M.E.length) (by omega) (by omega)) fun ⟨(bg:Int),_⟩ h15 e15 hbg=>?_
 have hbg:bg=slotF back M.E.length:=hbg
 have hin:=slot_in (i:=back) (n:=M.E.length) (by omega)
 rw [← hbg] at hin
 dsimp only
 refine wp_callW (w_Begin (a:=bg) (d14.ext e15) (by omega)) fun tg vs h16 hq=>?_
 have hbr:M.beginR bg=(0,M.mid [] bg):=by
  unfold Mo.beginR
  rw [g11.now,if_neg (by decide),if_pos (show M.ins bg from hin)]
  rfl
 rw [hbr] at hq
 obtain ⟨rfl,rfl,d16⟩:=hq
 refine ⟨rfl,(0,()),rfl,wp_call (c_num7) fun ⟨(y:Int),_⟩ h17 e17 hy=>?_⟩
 have hy:y=0:=hy
 subst hy
 refine wp_ifB (fun hc=>by cases hc) fun _=>?_
 refine s_allocL (k:=.i64) [2] (by intro z hz; rw [List.mem_singleton.1 hz]; exact fits_i64.2 (by omega)) (by simp) fun h18 e18 o18=>?_
 have d18:=d16.ext (e17.trans e18)
 refine wp_call (w_Text d18) fun ⟨(p:Option Addr),_⟩ h19 e19 hp=>?_
 obtain ⟨hp,d19⟩:=hp
 have hp:p=some wa.p:=hp
 subst hp
 refine wp_call (w_Len d19) fun ⟨(L:Int),_⟩ h20 e20 hL=>?_
 obtain ⟨hL,d20⟩:=hL
 have hL:L=(M.mid [] bg).E.length:=hL
 have o20:=(Chg.of_ext (F:=fun _=>False) (e19.trans e20)).ownL o18 fun _ _ x=>x
 obtain ⟨c0,hc0⟩:∃ c0:EdD,c0=(0,0,(⟨some ⟨h17.size,0,none⟩,1,1⟩,[2]),()):=⟨_,rfl⟩
 have hp0:c0.2.2.1.2.length=1:=by rw [hc0]; rfl
 have hEC:M.E=M.C:=Mo.E_shut g11.now
 have hbE:=g11.E
 have hbC:blen wa.enc M.C≤W4:=by rw [← wae, ← hEC]; exact hbE
 have hken:known wa.enc:=d20.ok.en
 refine w_cut1 Me (c:=((0,0,(⟨some ⟨h17.size,0,none⟩,1,1⟩,[2]),()):EdD)) d20 o20.lst (by simp) (by rw [wal]; show (blen wa.enc M.C:Int)+2*(1:Nat)≤_; omega) (by show N5+2+1+1≤_; omega) hL fun h21 d21=>?_
 rw [← hc0] at d21
 have hcs:([]++[[cutE (playC M.C []) c0]]:List (List EdD))=cutC M.C [c0]:=rfl
 rw [hcs,hp0] at d21
 refine w_keepLook Me C0 Ct Cm d21 (by omega) fun h22 aI yI d22=>?_
 obtain ⟨wi,hwi⟩:∃ wi,wi=wa.add (LkA h21.size aI yI (M.mid (cutC M.C [c0]) bg).look) (LkA.st _ _ _ _):=⟨_,rfl⟩
 rw [← hwi] at d22
 have wib:wa.b=wi.b:=by rw [hwi]; rfl
 have wip:wa.p=wi.p:=by rw [hwi]; rfl
 have wie:wa.enc=wi.enc:=by rw [hwi]; rfl
 have wil:wi.limit=60000:=by rw [hwi]; exact wal
 have eI:∀ {g:Heap} {M:Mo} {N:Nat},Wd S wi g M N→Ext h g:=by
  intro g M N d
  have he:Ext wi.h0 g:=d.e
  rw [hwi,hwa] at he
  have he:Ext w.h0 g:=he
  rw [hw0] at he
  exact e1.trans he
 rw [wib]
 rw [wie] at hbC hken
 clear d11 d12 d13 d14 d16 d18 d19 d20 d21 o18 o20
 rw [hnc]
 refine wp_while (fun (s:Int×Unit) h'=>∃ j:Nat,s.1=j∧j≤cu.2.length∧Wd S wi h' (M.mid (cutC M.C (c0::cu.2.take j)) bg) (N5+2+1+1+j+(putsOf (cu.2.take j)).length)) (fun s _=>((cu.2.length:Int)-s.1).toNat)
  (fun t vs h'=>t=8∧vs=[]∧Wd S wi h' (M.mid (cutC M.C (c0::cu.2)) bg) (N5+2+1+1+cu.2.length+(putsOf cu.2).length))
  ⟨0,rfl,Nat.zero_le _,by simpa [putsOf] using d22⟩ ?_ ?_
 ·rintro ⟨(s:Int),u⟩ h23 ⟨j,hs,hj,d23⟩
  dsimp only at hs ⊢
  subst hs
  refine wp_ifB (fun hc'=>?_) fun hc'=>?_
  ·rw [ltI_iff] at hc'
   have hjl:j<cu.2.length:=by omega
   obtain ⟨c,hcj⟩:∃ c,cu.2[j]? = some c:=⟨cu.2[j],List.getElem?_eq_getElem hjl⟩
   have htk:cu.2.take (j+1)=cu.2.take j++[c]:=by rw [List.take_add_one,hcj]; rfl
   have hple:(putsOf (cu.2.take j)).length+c.2.2.1.2.length≤(putsOf cu.2).length:=by
    have h1:=putsOf_le cu.2 (j+1)
    rw [htk,putsOf_snoc] at h1; exact h1
   have hok:=hc.ext (eI d23)
   refine s_atSh (e:=EdSh) (x:=cu) (y:=c) hok (by omega) (by simpa using hcj) rfl (z:=(c.1,c.2.1,c.2.2.1.1,())) rfl ?_
   dsimp only
   refine wp_call (w_Text d23) fun ⟨(p:Option Addr),_⟩ h24 e24 hp=>?_
   obtain ⟨hp,d24⟩:=hp
   have hp:p=some wi.p:=hp
   subst hp
   refine s_ckSh (e:=EdSh) (x:=cu) (y:=c) (hok.ext e24) (by omega) (by simpa using hcj) rfl rfl ?_
   refine wp_call (w_Len d24) fun ⟨(L:Int),_⟩ h25 e25 hL=>?_
   obtain ⟨hL,d25⟩:=hL
   have hok25:=(hok.ext e24).ext e25
   refine s_ckSh (e:=EdSh) (x:=cu) (y:=c) hok25 (by omega) (by simpa using hcj) rfl rfl ?_
   have hbl:=cut_len2 hken (l:=c0::cu.2.take j) (E:=M.C)
   rw [putsOf_cons,hp0] at hbl
   refine w_cut1 Me (c:=c) d25 (Sh.lst (hok25.el hcj).2.2.1) (by omega) (by rw [wil]; omega) (by omega) hL fun h26 d26=>?_
   rw [← cutC_snoc,List.cons_append, ← htk] at d26
   rw [add_ok (by omega) (by omega)]
   refine s_ret ⟨fun _=>⟨((j:Int)+1,()),rfl,⟨j+1,by push_cast; rfl,by omega,d26.mono ?_⟩,by dsimp only; omega⟩,fun hh=>absurd rfl hh⟩
   rw [htk,putsOf_snoc]; omega
  ·rw [ltI_not] at hc'
   have hj:j=cu.2.length:=by omega
   subst hj
   rw [List.take_length] at d23
   exact s_ret ⟨fun hh=>absurd hh (by decide),fun _=>⟨rfl,rfl,d23⟩⟩
 rintro t vs h23 ⟨rfl,rfl,d23⟩
 refine s_tag (s_cast0 ?_)
 generalize hN23:N5+2+1+1+cu.2.length+(putsOf cu.2).length=N23 at d23
 refine wp_callW (w_SetMark (name:=Int.ofNat 98) (a:=Int.ofNat 0) d23 (fits_i64.2 (by decide)) (fits_i64.2 (by decide))) fun tg vs h24 hq=>?_
 obtain ⟨rfl,rfl,d24⟩:=hq
 refine ⟨rfl,(_,()),rfl,?_⟩
 refine wp_callW (w_Watch (s:=⟨none,0,0⟩) (l:=[]) d24 (Lst.nil (by decide)) (by simp)) fun tg vs h25 hq=>?_
 obtain ⟨rfl,rfl,d25⟩:=hq
 refine ⟨rfl,(_,()),rfl,?_⟩
 obtain ⟨ms,hms⟩:=set_is (M.mid (cutC M.C (c0::cu.2)) bg) (Int.ofNat 98) (Int.ofNat 0)
 rw [hms] at d25
 obtain ⟨ws,hws⟩:=watch_is ({ M.mid (cutC M.C (c0::cu.2)) bg with marks:=ms }:Mo) []
 rw [hws] at d25
 refine wp_callW (w_Drop C d25) fun tg vs h26 hq=>?_
 have hdr:({ ({ M.mid (cutC M.C (c0::cu.2)) bg with marks:=ms }:Mo) with watched:=ws }:Mo).dropR=(bg,0,M):=drop_mid g11.now
 rw [hdr] at hq
 obtain ⟨rfl,rfl,d26⟩:=hq
 refine ⟨rfl,(bg,0,()),rfl,?_⟩
 have hN26:N23+1+([]:List Int).length=N23+1:=rfl
 rw [hN26] at d26
 clear d22 d23 d24 d25
 have kA:∀ {g:Heap} {M':Mo} {N:Nat},Wd S wi g M' N→∃ rho,LkA h11.size aA yA M.look rho g∧LkA h21.size aI yI (M.mid (cutC M.C [c0]) bg).look rho g:=by
  intro g M' N d
  obtain ⟨rho,k⟩:=d.keep
  rw [hwi,hwa] at k
  exact ⟨rho,k.1.2,k.2⟩
 refine bind_val (tys:=[.one .bool]) (fun (y:Bool×Unit) _=>y.1=true) ?_ fun ⟨(y:Bool),_⟩ h27 e27 hy=>?_
 ·refine wp_call (c_num7) fun ⟨(y:Int),_⟩ h27 e27 hy=>?_
  have hy:y=0:=hy
  subst hy
  refine wp_ifB (fun _=>?_) fun hc=>by rw [eqI_not] at hc; exact absurd rfl hc
  refine wp_ifB (fun _=>?_) fun hc=>by rw [eqI_not] at hc; exact absurd rfl hc
  have d27:=d26.ext e27
  obtain ⟨rho27,la,li⟩:=kA d27
  refine s_loadO yI li.2.1 rfl (s_loadO yA la.2.1 rfl ?_)
  refine wp_call (c_alike li.1.1 la.1.1) fun ⟨(bb:Bool),_⟩ h28 e28 hb=>?_
  have hbb:bb=false:=by
   cases hbb:bb with
   | false=>rfl
   | true=>
    have h1:=(hb.1 hbb).1
    have h2:=congrArg List.length h1
    rw [List.length_map,List.length_map] at h2
    have h3:(M.mid (cutC M.C [c0]) bg).look.E.length=M.C.length+1:=by
     show (allE M.C [cutE M.C c0]).length=_
     rw [hc0]; exact one_longer _ _ _
    have h4:M.look.E.length=M.C.length:=by show M.E.length=_; rw [hEC]
    omega
  subst hbb
  refine wp_ifB (fun _=>?_) fun hc=>by cases hc
  have d28:=d27.ext e28
  obtain ⟨rho28,la,li⟩:=kA d28
  refine s_cell (b:=.bool) yI.2.2.2.2.2.2.1 rfl li.2.1.cells rfl ?_
  have hdi:yI.2.2.2.2.2.2.1=true:=by
   rw [li.1.1.dir]
   show (M.mid (cutC M.C [c0]) bg).dirty=true
   unfold Mo.dirty
   have:effC (cutC M.C [c0])=true:=by rw [hc0]; exact one_eff _ _ _
   show (_ || effC (cutC M.C [c0]))=true
   rw [this,Bool.or_true]
  refine wp_ifB (fun _=>?_) fun hc=>by rw [hdi] at hc; cases hc
  refine s_cell (b:=.bool) yI.2.2.2.2.2.2.2.1 rfl li.2.1.cells rfl ?_
  have hop:yI.2.2.2.2.2.2.2.1=true:=by rw [li.1.1.ope]; rfl
  refine wp_ifB (fun _=>?_) fun hc=>by rw [hop] at hc; cases hc
  refine s_loadO yA la.2.1 rfl ?_
  refine wp_call (w_see (w:=wi) Me C0 Ct (w_Marks Cm _ _) d28 (by omega)) fun ⟨yS,_⟩ h29 e29 hy=>?_
  obtain ⟨lr,d29⟩:=hy
  have lr:LookR h28.size h29 yS M.look:=lr
  obtain ⟨rho29,la,li⟩:=kA d29
  refine s_ckV la.2.1 ?_
  refine wp_call (c_same lr la.1.1) fun ⟨(y:Bool),_⟩ h30 e30 hy=>?_
  have hy:y=true:=hy
  subst hy
  exact s_ret ⟨rfl,((e27.trans e28).trans e29).trans e30,(true,()),rfl,rfl⟩
 ·have hy:y=true:=hy
  subst hy
  exact s_ret ⟨rfl,(eI d26).trans e27,(true,()),rfl,rfl⟩
end Go.Sw.Hist
