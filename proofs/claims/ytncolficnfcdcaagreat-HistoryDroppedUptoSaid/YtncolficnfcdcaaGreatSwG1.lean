/-
  A text: heads and tails of pieces; what a text shows; replace.
-/
import Derived.Test.YtncolficnfcdcaaGreatSwG0
import Derived.Test.YtncolficnfcdcaaGreatSwU6
set_option linter.unusedVariables false
set_option linter.unusedSimpArgs false
set_option maxRecDepth 100000
namespace Go.Sw.Piece
open Go.Sw.Any Go.Sw.Codec
open Go.Sw.Tree (iv s_putAll s_newP s_getP s_getT s_putP eqI_self Placed cell_own wp_whileG minI_eq)
variable {P:Program} {S:Ids} {h:Heap} {Q:Nat→List Value→Heap→Prop}
def headPc (enc:Int) (q:Pc) (n:Nat):Pc:=(headP enc q.1 q.2 n,q.2.take (offs ((toks enc q.2).take n)))
def tailPc (enc:Int) (q:Pc) (n:Nat):Pc:=(tailP enc q.1 q.2 n,q.2.drop (offs ((toks enc q.2).take n)))
theorem elsP_head {enc:Int} {q:Pc} (hb:isBytes q.2) {n:Nat} (hn:n≤(toks enc q.2).length):elsP enc (headPc enc q n)=(elsP enc q).take n:=by
 unfold elsP headPc
 dsimp only
 rw [toks_take hb n hn,elsF_take]; rfl
theorem elsP_tail {enc:Int} {q:Pc} (hb:isBytes q.2) {n:Nat} (hn:n≤(toks enc q.2).length):elsP enc (tailPc enc q n)=(elsP enc q).drop n:=by
 unfold elsP tailPc
 dsimp only
 rw [(toks_at hb n hn).2,elsF_drop]
 show elsF (tagF q.1.2.1 _) 0 _=_
 rw [elsF_tag]
theorem offs_pos {ts:List (Int×Int)} (h:okT ts) (hl:0<ts.length):0<offs ts:=by
 cases ts with
 | nil=>simp at hl
 | cons t ts=>have:=h t (List.mem_cons_self ..); rw [offs_cons]; omega
theorem PcR.base {T:TX} {q:Pc} (r:PcR h T q):∃ a,q.1.1.base=some a:=by
 obtain ⟨a,e,_⟩:=r.lst.rd.at (i:=0) r.ne
 exact ⟨a,e⟩
theorem PcR.head {T:TX} {q:Pc} (r:PcR h T q) {n:Nat} (h0:0<n) (hn:n≤(toks T.enc q.2).length):PcR h T (headPc T.enc q n):=by
 have hb:=r.bytes
 have okt:=okT_toks (enc:=T.enc) hb
 have hk:=(toks_at (enc:=T.enc) hb n hn).1.le hb
 have hpos:=offs_pos (okt.take n) (by rw [List.length_take]; omega)
 have htt:=toks_take (enc:=T.enc) hb n hn
 have hlen:=r.lst.len
 have hcap:=r.lst.cap
 have hmax:=r.lst.max
 have htag:=r.tag
 have hl:=r.len
 unfold headPc headP
 generalize hkk:offs ((toks T.enc q.2).take n)=k at *
 have hlt:(q.2.take k).length=k:=by rw [List.length_take]; omega
 refine ⟨r.lst.take hk (Nat.le_refl _) (by omega),by dsimp only; omega,?_,?_,by dsimp only; omega,fun a ha=>?_⟩
 ·dsimp only; rw [htt]; rfl
 ·dsimp only; rw [hlt]
  show -1≤q.1.2.1∧q.1.2.1+(k:Int)≤65536
  omega
 ·obtain ⟨b1,b2,b3⟩:=r.blk a ha
  refine ⟨b1,b2,fun b hb hab=>?_⟩
  obtain ⟨b4,b5⟩:=b3 b hb hab
  exact ⟨b4,by dsimp only; omega⟩
theorem PcR.tail {T:TX} {q:Pc} (r:PcR h T q) {n:Nat} (hn:n<(toks T.enc q.2).length):PcR h T (tailPc T.enc q n):=by
 have hb:=r.bytes
 have okt:=okT_toks (enc:=T.enc) hb
 have hk:=(toks_at (enc:=T.enc) hb n (by omega)).1.le hb
 have htd:=(toks_at (enc:=T.enc) hb n (by omega)).2
 have hoff:=toks_offs (enc:=T.enc) hb
 have hsp:=offs_append ((toks T.enc q.2).take n) ((toks T.enc q.2).drop n)
 rw [List.take_append_drop] at hsp
 have hpos:=offs_pos (okt.drop n) (by rw [List.length_drop]; omega)
 have hlen:=r.lst.len
 have hcap:=r.lst.cap
 have hmax:=r.lst.max
 have htag:=r.tag
 have hl:=r.len
 unfold tailPc tailP
 generalize hkk:offs ((toks T.enc q.2).take n)=k at *
 have hlt:(q.2.drop k).length=q.2.length-k:=List.length_drop
 obtain ⟨a0,ha0⟩:=r.base
 have hcut:cutBase q.1.1.base q.1.1.cap k 1=some (a0.add k):=by unfold cutBase; rw [if_neg (by omega),ha0]; simp
 refine ⟨r.lst.tail (i:=k) hk,by dsimp only; omega,?_,?_,by dsimp only; omega,fun a ha=>?_⟩
 ·dsimp only; rw [htd]; rfl
 ·dsimp only; rw [hlt]
  show -1≤tagF q.1.2.1 k∧tagF q.1.2.1 k+((q.2.length-k:Nat):Int)≤65536
  unfold tagF; split <;> omega
 ·have ha:cutBase q.1.1.base q.1.1.cap k 1=some a:=ha
  rw [hcut] at ha
  cases ha
  obtain ⟨b1,b2,b3⟩:=r.blk a0 ha0
  rw [add_block]
  refine ⟨b1,b2,fun b hb hab=>?_⟩
  obtain ⟨b4,b5⟩:=b3 b hb hab
  refine ⟨add_spot b4 _,?_⟩
  rw [add_off]
  show a0.off+k+(q.2.drop k).length≤_
  omega
theorem els_append (enc:Int) (a b:List Pc):els enc (a++b)=els enc a++els enc b:=by simp [els]
theorem els_one (enc:Int) (q:Pc):els enc [q]=elsP enc q:=by simp [els]
theorem els_split {enc:Int} {ps:List Pc} {i:Nat} {q:Pc} (hq:ps[i]? = some q):els enc ps=els enc (ps.take i)++elsP enc q++els enc (ps.drop (i+1)):=by
 have hlt:=(List.getElem?_eq_some_iff.1 hq).1
 have he:=(List.getElem?_eq_some_iff.1 hq).2
 have h2:ps=ps.take i++[q]++ps.drop (i+1):=by
  rw [← he,List.append_assoc]
  show ps=ps.take i++(ps[i]::ps.drop (i+1))
  rw [← List.drop_eq_getElem_cons hlt,List.take_append_drop]
 conv=>lhs; rw [h2]
 rw [els_append,els_append,els_one]
theorem elsP_len (enc:Int) (q:Pc):(elsP enc q).length=(toks enc q.2).length:=elsF_len ..
theorem els_take {enc:Int} {ps:List Pc} {at_:Int} {i n:Nat} (f:FindR enc ps at_ i n) (h0:0≤at_):(els enc ps).take at_.toNat=els enc (ps.take i)++(match ps[i]? with | some q=>(elsP enc q).take n | none=>[]) ∧
  (els enc ps).drop at_.toNat=(match ps[i]? with | some q=>(elsP enc q).drop n | none=>[])++els enc (ps.drop (i+1))∧(∀ q,ps[i]? = some q→n≤(toks enc q.2).length):=by
 obtain ⟨f1,f2,f3,f4⟩:=f
 have hat:at_.toNat=(els enc (ps.take i)).length+n:=by rw [els_len]; omega
 cases hq:ps[i]? with
 | none=>
  by_cases h:0<at_
  ·obtain ⟨q,hq',_⟩:=f4 h; rw [hq] at hq'; cases hq'
  ·obtain ⟨rfl,rfl⟩:=f3 (by omega)
   have:ps=[]:=by
    cases ps with
    | nil=>rfl
    | cons q ps=>simp at hq
   subst this
   exact ⟨by simp [els],by simp [els],fun q hq=>(by cases hq)⟩
 | some q=>
  have hn:n≤(elsP enc q).length:=by
   rw [elsP_len]
   by_cases h:0<at_
   ·obtain ⟨q',hq',_,h3⟩:=f4 h; rw [hq] at hq'; cases hq'; exact h3
   ·obtain ⟨_,rfl⟩:=f3 (by omega); exact Nat.zero_le _
  have hs:=els_split (enc:=enc) hq
  refine ⟨?_,?_,fun q' hq'=>by cases hq'; rw [← elsP_len]; exact hn⟩
  ·rw [hs,hat,List.append_assoc,List.take_append,List.take_of_length_le (by omega),Nat.add_sub_cancel_left,List.take_append_of_le_length hn]
  ·rw [hs,hat,List.append_assoc,List.drop_append,List.drop_of_length_le (by omega),Nat.add_sub_cancel_left,List.drop_append_of_le_length hn,List.nil_append]
theorem find_mono {enc:Int} {ps:List Pc} {a b:Int} {i n j m:Nat} (f:FindR enc ps a i n) (g:FindR enc ps b j m) (h0:0≤a) (hab:a≤b):i≤j:=by
 obtain ⟨f1,f2,f3,f4⟩:=f
 obtain ⟨g1,g2,g3,g4⟩:=g
 by_cases ha:0<a
 ·obtain ⟨q,hq,n0,n1⟩:=f4 ha
  obtain ⟨r,hr,m0,m1⟩:=g4 (by omega)
  by_cases hij:i≤j
  ·exact hij
  ·have h1:=toksL_succ (enc:=enc) hr
   have h2:(toksL enc (ps.take (j+1))).length≤(toksL enc (ps.take i)).length:=by
    have:ps.take (j+1)=(ps.take i).take (j+1):=by rw [List.take_take,Nat.min_eq_left (by omega)]
    rw [this]; exact toksL_take_le _ _
   rw [h1,List.length_append] at h2
   omega
 ·have:=(f3 (by omega)).1; omega
theorem elsF_fst (tag:Int):∀ (ts:List (Int×Int)) (o:Nat),(elsF tag o ts).map (·.1)=ts.map (·.1)
 | [],_=>rfl
 | t::ts,o=>by simp only [elsF,List.map_cons,elsF_fst tag ts]
theorem toksL_els {enc:Int} (he:known enc):∀ {ps:List Pc},(∀ q,q∈ps→isBytes q.2)→toksL enc ps=((els enc ps).map (·.1)).map (tk enc)∧bytesL ps=((els enc ps).map (·.1)).flatMap (putF enc)∧∀ a,a∈(els enc ps).map (·.1)→0<sizeF enc a
 | [],_=>⟨rfl,rfl,fun a ha=>(by cases ha)⟩
 | q::ps,hb=>by
  have hq:=toks_is he (hb q (List.mem_cons_self ..))
  obtain ⟨i1,i2,i3⟩:=toksL_els he (ps:=ps) fun x hx=>hb x (List.mem_cons_of_mem _ hx)
  have e:els enc (q::ps)=elsP enc q++els enc ps:=by simp [els]
  have e1:(elsP enc q).map (·.1)=(toks enc q.2).map (·.1):=by unfold elsP; rw [elsF_fst]
  have e2:toks enc q.2=((toks enc q.2).map (·.1)).map (tk enc):=by
   rw [List.map_map]
   conv=>lhs; rw [← List.map_id (toks enc q.2)]
   refine List.map_congr_left fun t ht=>?_
   show t=(t.1,sizeF enc t.1)
   rw [← (hq.1 t ht).2]
  rw [e,List.map_append,List.map_append,List.flatMap_append,e1]
  refine ⟨?_,?_,fun a ha=>?_⟩
  ·rw [← e2, ← i1]; simp [toksL]
  ·rw [← i2,List.flatMap_map,hq.2]; simp [bytesL]
  ·rcases List.mem_append.1 ha with ha | ha
   ·obtain ⟨t,ht,rfl⟩:=List.mem_map.1 ha
    exact (hq.1 t ht).1
   ·exact i3 a ha
theorem elsP_new {enc:Int} {q:Pc} (h:q.1.2.1 = -1):elsP enc q=(toks enc q.2).map fun t=>(t.1, -1):=by
 unfold elsP
 rw [h]
 have:∀ (ts:List (Int×Int)) (o:Nat),elsF (-1) o ts=ts.map fun t=>(t.1, -1):=by
  intro ts
  induction ts with
  | nil=>intro o; rfl
  | cons t ts ih=>intro o; simp only [elsF,List.map_cons,ih]; rw [if_pos (by decide)]
 exact this _ _
theorem els_new {enc:Int}:∀ {qs:List Pc},(∀ q,q∈qs→q.1.2.1 = -1)→els enc qs=(toksL enc qs).map fun t=>(t.1, -1)
 | [],_=>rfl
 | q::qs,h=>by
  have:=els_new (enc:=enc) (qs:=qs) fun x hx=>h x (List.mem_cons_of_mem _ hx)
  unfold els toksL at this ⊢
  rw [List.flatMap_cons,List.flatMap_cons,List.map_append,this,elsP_new (h q (List.mem_cons_self ..))]
structure Nxt (T T':TX) (m:Nat):Prop where
 p:T'.p=T.p
 enc:T'.enc=T.enc
 limit:T'.limit=T.limit
 kept:T'.kept=T.kept
 zm:∀ i,T.Z i→T'.Z i
 zn:∀ i,T'.Z i→T.Z i∨m≤i
 adc:∀ b,T'.ad.base=some b→T.ad.base=some b∨m≤b.block
theorem Nxt.refl (T:TX) (m:Nat):Nxt T T m:=⟨rfl,rfl,rfl,rfl,fun _ h=>h,fun _ h=>.inl h,fun _ h=>.inl h⟩
theorem Nxt.trans {T T' T'':TX} {m m':Nat} (a:Nxt T T' m) (b:Nxt T' T'' m') (hm:m≤m'):Nxt T T'' m:=
 ⟨b.p.trans a.p,b.enc.trans a.enc,b.limit.trans a.limit,b.kept.trans a.kept,fun i hi=>b.zm i (a.zm i hi),fun i hi=>(b.zn i hi).elim (a.zn i) fun h=>.inr (Nat.le_trans hm h),
  fun x hx=>(b.adc x hx).elim (a.adc x) fun h=>.inr (Nat.le_trans hm h)⟩
theorem Nxt.foot {T T':TX} {m i:Nat} (a:Nxt T T' m) (hi:wfoot T' i):wfoot T i∨m≤i:=by
 rcases hi with rfl | ⟨b,hb,rfl⟩
 ·rw [a.p]; exact .inl (.inl rfl)
 ·exact (a.adc b hb).imp (fun h=>.inr ⟨b,h,rfl⟩) id
end Go.Sw.Piece

set_option linter.unusedVariables false
set_option linter.unusedSimpArgs false
set_option maxRecDepth 100000
namespace Go.Sw.Piece
open Go.Sw.Any Go.Sw.Codec
open Go.Sw.Tree (iv s_putAll s_newP s_getP s_getT s_putP eqI_self Placed cell_own wp_whileG minI_eq)
variable {P:Program} {S:Ids} {h:Heap} {Q:Nat→List Value→Heap→Prop}
theorem wp_callW {m:Prog} {tys:List Ty} {K:Ts.den tys→Prog} {R:Nat→List Value→Heap→Prop} (g:wp P m h R) (hk:∀ t vs h',R t vs h'→t=0∧∃ x,vs=Ts.inj tys x∧wp P (K x) h' Q):wp P (.call m tys K) h Q:=wp_mono m hk g
theorem its_own {n:Nat} {Z:Nat→Prop} {s:Sl} {l:List Part} (o:OwnPs n h s l) (hw:∀ x,x∈l→VS (wtP x) (sumP x)):Its (part S Z) h s l:=⟨o.rd,o.2.1,o.2.2.1,hw⟩
theorem pcs_le {T:TX}:∀ {ps:List Pc},(∀ q,q∈ps→PcR h T q)→ps.length≤(bytesL ps).length
 | [],_=>Nat.le_refl _
 | q::ps,hq=>by
  have h1:=pcs_le (ps:=ps) fun x hx=>hq x (List.mem_cons_of_mem _ hx)
  have h2:=(hq q (List.mem_cons_self ..)).ne
  unfold bytesL at h1 ⊢
  rw [List.flatMap_cons,List.length_append,List.length_cons]; omega
theorem bytesL_append (a b:List Pc):bytesL (a++b)=bytesL a++bytesL b:=by simp [bytesL]
theorem bytes_sub {ps qs:List Pc} (hs:qs.Sublist ps):(bytesL qs).length≤(bytesL ps).length:=by
 induction hs with
 | slnil=>exact Nat.le_refl _
 | cons q hs ih=>unfold bytesL at ih ⊢; rw [List.flatMap_cons,List.length_append]; omega
 | cons_cons q hs ih=>unfold bytesL at ih ⊢; rw [List.flatMap_cons,List.flatMap_cons,List.length_append,List.length_append]; omega
theorem set_state {n:Nat} {T:TX} {h2:Heap} {m:Nat} {root:Option Addr} {t':Bt Part} {ps':List Pc} (t:TextR S n h T) (hm:∀ i,T.Z i→i<m) (hmh:n≤m∧m≤h.size)
  (nd:Nd (part S fun i=>T.Z i∨m≤i) h root t') (ls:t'.list=ps'.map (·.1)) (pcs:∀ q,q∈ps'→PcR h T q) (small:(bytesL ps').length≤1099511627776)
  (o2:Own n 1 h2 ⟨some T.p,4,4⟩ [i64v T.enc,i64v T.limit, .pointer root,slv T.ad]) (u2:Upd ⟨some T.p,4,4⟩ h h2) :
  TextR S n h2 { T with cur:=⟨root,t',ps'⟩,Z:=fun i=>(T.Z i∨m≤i)∧i<h2.size }:=by
 have hp:T.p.block<h.size:=(t.lo _ t.zp).2
 have hpe:(⟨T.p.block,0,none⟩:Addr)=T.p:=by
  obtain ⟨_,_,_,o4⟩:=t.ob
  obtain ⟨e0,e1,_⟩:=o4
  show (⟨T.p.block,0,none⟩:Addr)=⟨T.p.block,T.p.off,T.p.spot⟩
  rw [e0,e1]
 have ku:∀ b,(⟨some T.p,4,4⟩:Sl).base=some b→∃ k x,Sw.cell h ⟨b.block,0,none⟩=some (.int k x):=fun b hb=>by
  cases hb
  have c:=t.c0
  rw [add_zero'] at c
  rw [hpe]; exact ⟨_,_,c⟩
 have hs2:=u2.1
 have pc:∀ {q},PcR h T q→PcR h2 { T with cur:=⟨root,t',ps'⟩,Z:=fun i=>(T.Z i∨m≤i)∧i<h2.size } q:=fun {q} pq=>
  ⟨pq.lst.blocks fun a ha hl=>u2.2.1 _ hl fun b hb=>by cases hb; exact fun e=>(pq.blk a ha).2.1 e.symm,pq.ne,pq.is,pq.tag,pq.len,fun a ha=>⟨⟨.inl (pq.blk a ha).1,by have:=(t.lo _ (pq.blk a ha).1).2; omega⟩,(pq.blk a ha).2⟩⟩
 have st:∀ {s},StR S h T s→StR S h2 { T with cur:=⟨root,t',ps'⟩,Z:=fun i=>(T.Z i∨m≤i)∧i<h2.size } s:=fun {s} hs=>⟨part_mono (hs.nd.updK u2 ku) fun i hi hz=>⟨.inl hz,hi⟩,hs.ls,fun q hq=>pc (hs.pcs q hq),hs.small⟩
 refine ⟨t.enc,t.lim,o2,t.ad.upd u2 fun a b ha hb=>by cases hb; exact fun e=>t.adp a ha e.symm,t.adp,t.adk,⟨part_mono (nd.updK u2 ku) fun i hi hz=>⟨hz,hi⟩,ls,fun q hq=>pc (pcs q hq),small⟩,fun s hs=>st (t.kept s hs),⟨.inl t.zp,show T.p.block<h2.size by omega⟩,fun b hb=>⟨.inl (t.za b hb),by have:=(t.lo _ (t.za b hb)).2; omega⟩,fun i hi=>?_⟩
 obtain ⟨hi | hi,hlt⟩:=hi
 ·exact ⟨(t.lo i hi).1,hlt⟩
 ·exact ⟨by omega,hlt⟩
def leftL (enc:Int) (ps:List Pc) (i n:Nat):List Pc:=match ps[i]? with | some q=>if 0<n then [headPc enc q n] else [] | none=>[]
def rightL (enc:Int) (ps:List Pc) (j m:Nat):List Pc:=match ps[j]? with | some q=>if m<(toks enc q.2).length then [tailPc enc q m] else [] | none=>[]
theorem c_replace (M:Meth0 P S) {n:Nat} {T:TX} {from_ to:Int} {put:Sl} {l:List Int} (t:TextR S n h T) (hn:n≤h.size) (hp:Lst .i64 h put l) (hf:∀ a,a∈l→0<sizeF T.enc a) (hA:T.A.length+4*l.length≤1099511627776)
  (hz:l≠[]→∀ a,put.base=some a→¬ T.Z a.block) (h0:0≤from_) (h1:from_≤to) (h2:to≤(els T.enc T.cur.ps).length) (hroom:(bytesL T.cur.ps).length+4*l.length≤500000000000) :
  wp P (F_Text_replace S (some T.p) from_ to put) h fun tg vs h'=>tg=0∧vs=[]∧Chg (wfoot T) h h'∧∃ T',TextR S n h' T'∧Nxt T T' h.size∧T'.A=T.A++l.flatMap (putF T.enc) ∧
   els T.enc T'.cur.ps=(els T.enc T.cur.ps).take from_.toNat++l.map (fun a=>(a, -1))++(els T.enc T.cur.ps).drop to.toNat:=by
 unfold F_Text_replace
 have htl:(toksL T.enc T.cur.ps).length=(els T.enc T.cur.ps).length:=(els_len ..).symm
 have hpsl:=pcs_le t.cur.pcs
 have hput:=put_le hf
 refine wp_call (c_find t h0 (by omega)) fun ⟨(i':Int),(n':Int),_⟩ ha ea ⟨i,ni,hi,hni,fi⟩=>wp_call (c_find (t.ext ea) (by omega) (by omega)) fun ⟨(j':Int),(m':Int),_⟩ hb eb ⟨j,mj,hj,hmj,fj⟩=>?_
 have hi:i'=i:=hi
 have hni:n'=ni:=hni
 have hj:j'=j:=hj
 have hmj:m'=mj:=hmj
 subst hi; subst hni; subst hj; subst hmj
 dsimp only
 have hij:=find_mono fi fj h0 h1
 obtain ⟨eT,_,hniq⟩:=els_take fi h0
 obtain ⟨_,eD,hmjq⟩:=els_take fj (by omega:0≤to)
 have e0b:=ea.trans eb
 have tb:=t.ext e0b
 have O:∀ Z,(part S Z).Ok P:=fun Z=>part_ok S Z
 have hil:=fi.1
 have hjl:=fj.1
 have hbT:=t.cur.bytes
 have hleft:∀ q,q∈leftL T.enc T.cur.ps i ni→PcR h T q:=fun q hq=>by
  unfold leftL at hq
  cases hqi:T.cur.ps[i]? with
  | none=>rw [hqi] at hq; cases hq
  | some x=>
   rw [hqi] at hq
   dsimp only at hq
   split at hq
   ·rw [List.mem_singleton.1 hq]; exact (t.cur.pcs x (List.mem_of_getElem? hqi)).head (by omega) (hniq x hqi)
   ·cases hq
 refine wp_bind (fun tg vs h'=>tg=0∧Ext hb h'∧∃ s,vs=[slv s]∧OwnPs hb.size h' s ((leftL T.enc T.cur.ps i ni).map (·.1))) ?_ ?_
 ·cases hq:T.cur.ps[i]? with
  | none=>
   have hll:leftL T.enc T.cur.ps i ni=[]:=by unfold leftL; rw [hq]
   refine s_root tb (wp_call (R:=fun (y:Part×Bool×Unit) _=>y.1=zP∧y.2.1=false) (c_AtNo (O T.Z) tb.cur.nd (Nat.le_of_lt (tb.cur.room tb.lim.2)) (by omega) (.inr ?_)) fun ⟨(y:Part),(ok:Bool),_⟩ h5 e5 ⟨hy,hok⟩=>?_)
   ·have h1:T.cur.t.list.length≤i:=by rw [t.cur.ls,List.length_map]; exact List.getElem?_eq_none_iff.1 hq
    show ((List.length T.cur.t.list:Nat):Int)≤_
    omega
   ·have hok:ok=false:=hok
    subst hok
    dsimp only
    refine s_newO (bs:=PB) zP (by decide) fun h6 e6 o6=>s_stoO (bs:=PB) y o6 (flatP _) fun h7 o7 u7=>?_
    have e57:Ext hb h7:=Upd.extN (e5.trans e6) u7 (by intro x hx; cases hx; exact e5.size)
    refine bind_bool False (s_ifF (s_ret ⟨rfl,Ext.refl _,false,rfl,Iff.intro (fun h=>by cases h) False.elim⟩)) fun bb h8 e8 hb8=>wp_ifB (fun hx=>(hb8.1 hx).elim) fun _=>s_ret ⟨rfl,e57.trans e8,⟨none,0,0⟩,rfl,?_⟩
    rw [hll]; exact Own.nil _ _ _
  | some q=>
   have hx:T.cur.t.list[((i:Int)).toNat]? = some q.1:=by rw [Int.toNat_natCast,t.cur.ls,List.getElem?_map,hq]; rfl
   refine s_root tb (wp_call (R:=fun (y:Part×Bool×Unit) _=>y.1=q.1∧y.2.1=true) (c_At (O T.Z) tb.cur.nd tb.cur.wf (Nat.le_of_lt (tb.cur.room tb.lim.2)) (by omega) hx) fun ⟨(y:Part),(ok:Bool),_⟩ h5 e5 ⟨hy,hok⟩=>?_)
   have hok:ok=true:=hok
   have hy:y=q.1:=hy
   subst hok; subst hy
   dsimp only
   refine s_newO (bs:=PB) zP (by decide) fun h6 e6 o6=>s_stoO (bs:=PB) q.1 o6 (flatP _) fun h7 o7 u7=>?_
   have e57:Ext hb h7:=Upd.extN (e5.trans e6) u7 (by intro x hx; cases hx; exact e5.size)
   have t7:=tb.ext e57
   have hqm:=List.mem_of_getElem? hq
   refine bind_bool (0<ni) (s_ifT (s_ret ⟨rfl,Ext.refl _,_,rfl,by rw [gtI_iff]; omega⟩)) fun bb h8 e8 hb8=>wp_ifB (fun hx=>?_) fun hx=>?_
   ·have hpos:=hb8.1 hx
    have hll:leftL T.enc T.cur.ps i ni=[headPc T.enc q ni]:=by unfold leftL; rw [hq]; dsimp only; rw [if_pos hpos]
    have t8:=t7.ext e8
    have pc:=t8.cur.pcs q hqm
    refine wp_bind (fun tg vs h'=>tg=0∧Ext h8 h'∧∃ A:Addr,vs=[.pointer (some A)]∧OwnP h8.size h' A (headP T.enc q.1 q.2 ni)) ?_ ?_
    ·refine c_cutB M (fin:=fun A B=>.ret 0 [.pointer (some A)]) t8 (x:=q.1) (bs:=q.2) pc (o7.ext e8) (by omega) (by have:=hniq q hq; omega) fun h9 A B e9 oA oB=>s_ret ⟨rfl,e9,A,rfl,?_⟩
     rw [Int.toNat_natCast] at oA; exact oA
    ·rintro tg vs h9 ⟨rfl,e9,A,rfl,oA⟩
     refine s_tag (wp_cast (tys:=[.one .ptr]) (some A,()) rfl ?_)
     dsimp only
     refine s_getO (bs:=PB) oA ?_
     have e09:=(e57.trans e8).trans e9
     refine wp_push (n:=hb.size) (old:=[]) (new:=Bs.inj PB (headP T.enc q.1 q.2 ni)) (Own.nil _ _ _) e09.size rfl (flatP _) rfl (by decide) (by decide) fun r h10 a10 b10 u10 d10=>s_ret ⟨rfl,?_,r,rfl,?_⟩
     ·exact Upd.extN e09 u10 (by intro x hx; cases hx)
     ·rw [hll]
      show Own hb.size 7 h10 r (cP [headP T.enc q.1 q.2 ni])
      rw [cP_one]; simpa using a10
   ·have hll:leftL T.enc T.cur.ps i ni=[]:=by unfold leftL; rw [hq]; dsimp only; rw [if_neg fun k=>by rw [hb8.2 k] at hx; cases hx]
    refine s_ret ⟨rfl,e57.trans e8,⟨none,0,0⟩,rfl,?_⟩
    rw [hll]; exact Own.nil _ _ _
 rintro tg vs hc ⟨rfl,ec,s,rfl,os⟩
 refine s_tag (wp_cast (tys:=[.one .sl]) (s,()) rfl ?_)
 dsimp only
 have e0c:=e0b.trans ec
 have tc:=t.ext e0c
 have hnc:n≤hc.size:=Nat.le_trans hn e0c.size
 refine wp_callW (c_fresh M tc hnc (hp.ext e0c) hf hA hz) fun tg vs h' hx=>?_
 obtain ⟨rfl,cd,g,rfl,F⟩:=hx
 refine ⟨rfl,(g.ps,()),rfl,?_⟩
 dsimp only
 have td:=F.t
 have cT:Chg (wfoot T) h h':=Chg.pre e0c cd
 have hs0:∀ {x:Addr},hb.size≤x.block→¬ wfoot T x.block:=fun {x} hx hw=>by have:=(tb.lo _ (wfoot_Z tb hw)).2; omega
 have osd:OwnPs hb.size h' s ((leftL T.enc T.cur.ps i ni).map (·.1)):=cd.own os fun x hx hw=>hs0 (os.lt hx).1 hw
 have hll1:(leftL T.enc T.cur.ps i ni).length≤1:=by unfold leftL; split; split <;> simp; simp
 have hsl:=OwnPs.len os
 rw [List.length_map] at hsl
 have hgl:=OwnPs.len F.op
 rw [List.length_map] at hgl
 have hqn:g.qs.length≤4*l.length:=by
  have h1:=pcs_le fun q hq=>(F.pcs q hq).1
  rw [F.put] at h1; omega
 refine wp_append osd (Nat.le_trans ec.size cd.1) F.op.rd (cP_flat _) rfl (by show (s.len+g.ps.len)*64≤_; omega) (by omega) fun r1 he a1 b1 u1 d1=>?_
 rw [← cP_append, ← List.map_append] at a1
 have ce:Chg (fun i=>∃ b,s.base=some b∧b.block=i) h' he:=Chg.of_upd u1 fun x hx _=>⟨x,hx,rfl⟩
 have snz:∀ b,s.base=some b→¬ g.Z b.block:=fun b hb hz=>by
  have h1:=(os.lt hb)
  rcases F.zn _ hz with hx | hx
  ·have:=(tb.lo _ hx).2; omega
  ·omega
 have te:TextR S n he (T.at_ g):=td.chg ce fun i hi ⟨b,hb,e⟩=>snz b hb (e ▸ hi)
 have pcsE:∀ q,q∈g.qs→PcR he (T.at_ g) q:=fun q hq=>(F.pcs q hq).1.chg ce fun i hi ⟨b,hb,e⟩=>snz b hb (e ▸ hi)
 have r1nz:∀ b,r1.base=some b→¬ g.Z b.block∧hb.size≤b.block:=fun b hb=>by
  refine ⟨fun hz=>?_,(a1.lt hb).1⟩
  rcases d1 b hb with hx | hx
  ·exact snz b hx hz
  ·have:=(td.lo _ hz).2; omega
 refine wp_bind (fun tg vs h'=>tg=0∧Chg (fun i=>∃ b,r1.base=some b∧b.block=i) he h'∧∃ r2,vs=[slv r2]∧OwnPs hb.size h' r2 ((leftL T.enc T.cur.ps i ni++g.qs++rightL T.enc T.cur.ps j mj).map (·.1))∧∀ b,r2.base=some b→¬ g.Z b.block) ?_ ?_
 ·cases hq:T.cur.ps[j]? with
  | none=>
   have hrr:rightL T.enc T.cur.ps j mj=[]:=by unfold rightL; rw [hq]
   refine s_root (T:=T.at_ g) te (wp_call (R:=fun (y:Part×Bool×Unit) _=>y.1=zP∧y.2.1=false) (c_AtNo (O g.Z) te.cur.nd (Nat.le_of_lt (te.cur.room te.lim.2)) (by omega) (.inr ?_)) fun ⟨(y:Part),(ok:Bool),_⟩ h5 e5 ⟨hy,hok⟩=>?_)
   ·have h1:T.cur.t.list.length≤j:=by rw [t.cur.ls,List.length_map]; exact List.getElem?_eq_none_iff.1 hq
    show ((List.length T.cur.t.list:Nat):Int)≤_
    omega
   ·have hok:ok=false:=hok
    subst hok
    dsimp only
    refine s_newO (bs:=PB) zP (by decide) fun h6 e6 o6=>s_stoO (bs:=PB) y o6 (flatP _) fun h7 o7 u7=>?_
    have e57:Ext he h7:=Upd.extN (e5.trans e6) u7 (by intro x hx; cases hx; exact e5.size)
    refine s_ifF (s_ret ⟨rfl,Chg.of_ext e57,r1,rfl,?_,fun b hb=>(r1nz b hb).1⟩)
    rw [hrr,List.append_nil]; exact a1.ext e57
  | some q=>
   have hx:T.cur.t.list[((j:Int)).toNat]? = some q.1:=by rw [Int.toNat_natCast,t.cur.ls,List.getElem?_map,hq]; rfl
   refine s_root (T:=T.at_ g) te (wp_call (R:=fun (y:Part×Bool×Unit) _=>y.1=q.1∧y.2.1=true) (c_At (O g.Z) te.cur.nd te.cur.wf (Nat.le_of_lt (te.cur.room te.lim.2)) (by omega) hx) fun ⟨(y:Part),(ok:Bool),_⟩ h5 e5 ⟨hy,hok⟩=>?_)
   have hok:ok=true:=hok
   have hy:y=q.1:=hy
   subst hok; subst hy
   dsimp only
   refine s_newO (bs:=PB) zP (by decide) fun h6 e6 o6=>s_stoO (bs:=PB) q.1 o6 (flatP _) fun h7 o7 u7=>s_ifT ?_
   have e57:Ext he h7:=Upd.extN (e5.trans e6) u7 (by intro x hx; cases hx; exact e5.size)
   have t7:=te.ext e57
   have hqm:=List.mem_of_getElem? hq
   have pc:=t7.cur.pcs q hqm
   have hmq:=hmjq q hq
   refine wp_bind (fun tg vs h'=>tg=0∧Ext h7 h'∧∃ B:Addr,vs=[.pointer (some B)]∧OwnP h7.size h' B (tailP T.enc q.1 q.2 mj)) ?_ ?_
   ·refine c_cutB M (T:=T.at_ g) (fin:=fun A B=>.ret 0 [.pointer (some B)]) t7 (x:=q.1) (bs:=q.2) pc o7 (by omega) (show ((mj:Nat):Int)≤((toks T.enc q.2).length:Nat) by omega) fun h9 A B e9 oA oB=>s_ret ⟨rfl,e9,B,rfl,?_⟩
    rw [Int.toNat_natCast] at oB; exact oB
   ·rintro tg vs h9 ⟨rfl,e9,B,rfl,oB⟩
    refine s_tag (wp_cast (tys:=[.one .ptr]) (some B,()) rfl ?_)
    dsimp only
    have e09:=e57.trans e9
    have okt:=okT_toks (enc:=T.enc) (hbT q hqm)
    have hcell:Sw.cell h9 ((B.add 2).add 0)=some (i64v ((toks T.enc q.2).drop mj).length):=by
     rw [add_zero']
     have:=cells_iff.1 oB.cells 2 _ rfl
     rw [this]
     show some (Value.int .i64 (sumT ((toks T.enc q.2).drop mj)).1)=_
     rw [(sumT_is (okt.drop mj)).1]
    refine wp_grd rfl (wp_grd rfl (wp_load1 (b:=.int .i64) ((B.add 2).add 0) _ rfl hcell (wp_ifB (fun hx=>?_) fun hx=>?_)))
    ·rw [gtI_iff,List.length_drop] at hx
     have hrr:rightL T.enc T.cur.ps j mj=[tailPc T.enc q mj]:=by unfold rightL; rw [hq]; dsimp only; rw [if_pos (by omega)]
     refine s_getO (bs:=PB) oB ?_
     have hr1:=OwnPs.len a1
     rw [List.length_map,List.length_append] at hr1
     refine wp_push (n:=hb.size) (new:=Bs.inj PB (tailP T.enc q.1 q.2 mj)) (a1.ext e09) (Nat.le_trans (Nat.le_trans ec.size cd.1) (Nat.le_trans ce.1 e09.size)) rfl (flatP _) rfl (by show (r1.len+1)*64≤_; omega) (by omega) fun r2 h10 a10 b10 u10 d10=>s_ret ⟨rfl,?_,r2,rfl,?_,fun b hb=>?_⟩
     ·exact (Chg.of_ext e09).trans (Chg.of_upd u10 fun x hx _=>⟨x,hx,rfl⟩) fun i _ x=>x
     ·rw [hrr,List.map_append]
      show Own hb.size 7 h10 r2 (cP (_++[tailP T.enc q.1 q.2 mj]))
      rw [cP_append,cP_one]; exact a10
     ·rcases d10 b hb with hx | hx
      ·exact (r1nz b hx).1
      ·intro hz; have:=(te.lo _ hz).2; have:=e09.size; omega
    ·rw [gtI_not,List.length_drop] at hx
     have hrr:rightL T.enc T.cur.ps j mj=[]:=by unfold rightL; rw [hq]; dsimp only; rw [if_neg (by omega)]
     refine s_ret ⟨rfl,Chg.of_ext e09,r1,rfl,?_,fun b hb=>(r1nz b hb).1⟩
     rw [hrr,List.append_nil]; exact a1.ext e09
 rintro tg vs hf ⟨rfl,cf,r2,rfl,a2,z2⟩
 refine s_tag (wp_cast (tys:=[.one .sl]) (r2,()) rfl ?_)
 dsimp only
 have tf:TextR S n hf (T.at_ g):=te.chg cf fun i hi ⟨b,hb,e⟩=>(r1nz b hb).1 (e ▸ hi)
 have pcsF:∀ q,q∈g.qs→PcR hf (T.at_ g) q:=fun q hq=>(pcsE q hq).chg cf fun i hi ⟨b,hb,e⟩=>(r1nz b hb).1 (e ▸ hi)
 have hright:∀ q,q∈rightL T.enc T.cur.ps j mj→PcR hf (T.at_ g) q:=fun q hq=>by
  unfold rightL at hq
  cases hqi:T.cur.ps[j]? with
  | none=>rw [hqi] at hq; cases hq
  | some x=>
   rw [hqi] at hq
   dsimp only at hq
   split at hq
   ·rename_i hlt
    rw [List.mem_singleton.1 hq]
    exact PcR.tail (T:=T.at_ g) (tf.cur.pcs x (List.mem_of_getElem? hqi)) hlt
   ·cases hq
 have hleftF:∀ q,q∈leftL T.enc T.cur.ps i ni→PcR hf (T.at_ g) q:=fun q hq=>by
  unfold leftL at hq
  cases hqi:T.cur.ps[i]? with
  | none=>rw [hqi] at hq; cases hq
  | some x=>
   rw [hqi] at hq
   dsimp only at hq
   split at hq
   ·rename_i hlt
    rw [List.mem_singleton.1 hq]
    exact PcR.head (T:=T.at_ g) (tf.cur.pcs x (List.mem_of_getElem? hqi)) hlt (hniq x hqi)
   ·cases hq
 have hmid:∀ q,q∈leftL T.enc T.cur.ps i ni++g.qs++rightL T.enc T.cur.ps j mj→PcR hf (T.at_ g) q:=fun q hq=>by
  rcases List.mem_append.1 hq with hq | hq
  ·rcases List.mem_append.1 hq with hq | hq
   ·exact hleftF q hq
   ·exact pcsF q hq
  ·exact hright q hq
 have hsize:T.cur.t.list.length=T.cur.ps.length:=by rw [t.cur.ls,List.length_map]
 refine s_root (T:=T.at_ g) tf (s_root (T:=T.at_ g) tf (wp_call (R:=fun (x:Int×Unit) _=>x.1=((T.cur.t.list.length:Nat):Int)) (Any.c_Size (I:=part S g.Z) tf.cur.nd) fun ⟨(sz:Int),_⟩ hg eg hsz=>?_))
 have hsz:sz=_:=hsz
 rw [hsize] at hsz
 subst hsz
 dsimp only
 have tg:=tf.ext eg
 refine s_ckC tg.c2 ?_
 rw [add_ok (by omega) (by omega),minI_eq]
 have hJ:min ((j:Int)+1) (T.cur.ps.length:Int)=((min (j+1) T.cur.ps.length:Nat):Int):=by omega
 rw [hJ]
 let Z2:Nat→Prop:=fun i=>g.Z i∨hg.size≤i
 have hfr:Fresh (part S Z2) hg:=fun i hi=>.inr hi
 have nd2:Nd (part S Z2) hg T.cur.root T.cur.t:=part_mono tg.cur.nd fun i _ hi=>.inl hi
 have hwM:∀ x,x∈(leftL T.enc T.cur.ps i ni++g.qs++rightL T.enc T.cur.ps j mj).map (·.1)→VS (wtP x) (sumP x):=fun x hx=>by
  obtain ⟨q,hq,rfl⟩:=List.mem_map.1 hx
  exact (hmid q hq).wt.2
 have its:Its (part S Z2) hg r2 ((leftL T.enc T.cur.ps i ni++g.qs++rightL T.enc T.cur.ps j mj).map (·.1)):=its_own (a2.ext eg) hwM
 have hWm:=W_ps hmid
 have hmb:(bytesL (leftL T.enc T.cur.ps i ni++g.qs++rightL T.enc T.cur.ps j mj)).length≤131072+4*l.length:=by
  have h1:(bytesL (leftL T.enc T.cur.ps i ni)).length≤65536:=by
   unfold leftL
   split
   ·rename_i q hq
    split
    ·have:=(t.cur.pcs q (List.mem_of_getElem? hq)).len
     show (bytesL [headPc T.enc q ni]).length≤_
     unfold bytesL headPc; simp only [List.flatMap_cons,List.flatMap_nil,List.append_nil,List.length_take]; omega
    ·simp [bytesL]
   ·simp [bytesL]
  have h2:(bytesL (rightL T.enc T.cur.ps j mj)).length≤65536:=by
   unfold rightL
   split
   ·rename_i q hq
    split
    ·have:=(t.cur.pcs q (List.mem_of_getElem? hq)).len
     show (bytesL [tailPc T.enc q mj]).length≤_
     unfold bytesL tailPc; simp only [List.flatMap_cons,List.flatMap_nil,List.append_nil,List.length_drop]; omega
    ·simp [bytesL]
   ·simp [bytesL]
  rw [bytesL_append,bytesL_append,List.length_append,List.length_append,F.put]; omega
 have hmt:=(toksL_le (enc:=T.enc) fun q hq=>(hmid q hq).bytes).1
 have hfew:=(t.cur.few t.lim.2).2
 have hWr:(part S Z2).W T.cur.t.list+(part S Z2).W ((leftL T.enc T.cur.ps i ni++g.qs++rightL T.enc T.cur.ps j mj).map (·.1))≤4398046511104:=by
  have h1:(part S Z2).W T.cur.t.list≤1099511627776:=hfew
  have h2:(part S Z2).W ((leftL T.enc T.cur.ps i ni++g.qs++rightL T.enc T.cur.ps j mj).map (·.1))=(toksL T.enc (leftL T.enc T.cur.ps i ni++g.qs++rightL T.enc T.cur.ps j mj)).length:=hWm
  rw [h2]
  refine Nat.le_trans (Nat.add_le_add h1 (Nat.le_trans hmt hmb)) ?_
  omega
 have hrep:=c_Replace (O Z2) (i:=(i:Int)) (j:=((min (j+1) T.cur.ps.length:Nat):Int)) nd2 its tg.cur.wf (by omega) (by omega) (by show _≤((T.cur.t.list.length:Nat):Int); omega) hWr hfr
 rw [← g_Replace S Z2] at hrep
 refine wp_call (R:=fun (y:TR×Int×Unit) h'=>y.2.1=0∧∃ t':Bt Part,Nd (part S Z2) h' y.1.1 t'∧t'.list=T.cur.t.list.take ((i:Int)).toNat++(leftL T.enc T.cur.ps i ni++g.qs++rightL T.enc T.cur.ps j mj).map (·.1)++T.cur.t.list.drop (((min (j+1) T.cur.ps.length:Nat):Int)).toNat) (Gives.mono hrep fun y h' e ⟨h1,t',h2,h3,_⟩=>⟨h1,t',h2,h3⟩) fun ⟨⟨(root':Option Addr),_⟩,(er:Int),_⟩ hh eh ⟨_,t',nd',hl'⟩=>?_
 have nd':Nd (part S Z2) hh root' t':=nd'
 dsimp only
 have th:=tg.ext eh
 refine wp_grd rfl (wp_grd rfl (s_setC' (.pointer root') (show Own n 1 hh ⟨some T.p,4,4⟩ [i64v T.enc,i64v T.limit, .pointer T.cur.root,slv g.ad] from th.ob) (by simp) rfl fun hk ok uk=>s_ret ⟨rfl,rfl,?_,?_⟩))
 ·have c1:Chg (wfoot T) h hf:=(cT.trans ce fun i hi ⟨b,hb,e⟩=>by have:=(os.lt hb).1; have:=e0b.size; omega).trans cf fun i hi ⟨b,hb,e⟩=>by have:=(r1nz b hb).2; have:=e0b.size; omega
  exact (c1.ext (eg.trans eh)).trans (upd_chg uk) fun i _ e=>.inl e
 ·have ok:Own n 1 hk ⟨some T.p,4,4⟩ [i64v T.enc,i64v T.limit, .pointer root',slv g.ad]:=ok
  have hdJ:T.cur.ps.drop (min (j+1) T.cur.ps.length)=T.cur.ps.drop (j+1):=by
   by_cases hx:j+1≤T.cur.ps.length
   ·rw [Nat.min_eq_left hx]
   ·rw [Nat.min_eq_right (by omega),List.drop_length,List.drop_of_length_le (by omega)]
  have hls:t'.list=(T.cur.ps.take i++(leftL T.enc T.cur.ps i ni++g.qs++rightL T.enc T.cur.ps j mj)++T.cur.ps.drop (j+1)).map (·.1):=by
   rw [hl',t.cur.ls,Int.toNat_natCast,Int.toNat_natCast, ← List.map_take, ← List.map_drop,hdJ]
   simp only [List.map_append]
  have hb1:=bytes_sub (List.take_sublist i T.cur.ps)
  have hb2:=bytes_sub (List.drop_sublist (j+1) T.cur.ps)
  have hs:=set_state (T:=T.at_ g) (ps':=T.cur.ps.take i++(leftL T.enc T.cur.ps i ni++g.qs++rightL T.enc T.cur.ps j mj)++T.cur.ps.drop (j+1)) th (m:=hg.size) (fun i hi=>(tg.lo i hi).2) ⟨by have:=e0c.size; have:=cd.1; have:=ce.1; have:=cf.1; have:=eg.size; omega,eh.size⟩ nd' hls
   (fun q hq=>by
    rcases List.mem_append.1 hq with hq | hq
    ·rcases List.mem_append.1 hq with hq | hq
     ·exact th.cur.pcs q (List.mem_of_mem_take hq)
     ·exact (hmid q hq).chg (Chg.of_ext (F:=fun _=>False) (eg.trans eh)) fun _ _ x=>x
    ·exact th.cur.pcs q (List.mem_of_mem_drop hq))
   (by rw [bytesL_append,bytesL_append,List.length_append,List.length_append]; omega) ok uk
  refine ⟨_,hs,⟨rfl,rfl,rfl,rfl,fun i hi=>⟨.inl (F.zm i hi),?_⟩,fun i hi=>?_,fun b hb=>?_⟩,F.all,?_⟩
  ·have h1:=(t.lo i hi).2; have:=e0c.size; have:=cd.1; have:=ce.1; have:=cf.1; have:=eg.size; have:=eh.size; have:=uk.1; omega
  ·rcases hi.1 with hx | hx
   ·exact (F.zn i hx).imp id fun h=>by have:=e0c.size; omega
   ·right; have:=e0c.size; have:=cd.1; have:=ce.1; have:=cf.1; have:=eg.size; omega
  ·exact (F.adc b hb).imp id fun h=>by have:=e0c.size; omega
  ·show els T.enc (T.cur.ps.take i++(leftL T.enc T.cur.ps i ni++g.qs++rightL T.enc T.cur.ps j mj)++T.cur.ps.drop (j+1))=_
   have hq1:els T.enc g.qs=l.map fun a=>(a, -1):=by
    rw [els_new fun q hq=>(F.pcs q hq).2,F.tks,List.map_map]; rfl
   have hl1:els T.enc (leftL T.enc T.cur.ps i ni)=(match T.cur.ps[i]? with | some q=>(elsP T.enc q).take ni | none=>[]):=by
    unfold leftL
    cases hq:T.cur.ps[i]? with
    | none=>rfl
    | some q=>
     dsimp only
     by_cases hx:0<ni
     ·rw [if_pos hx,els_one,elsP_head (hbT q (List.mem_of_getElem? hq)) (hniq q hq)]
     ·rw [if_neg hx,show ni=0 by omega]; simp [els]
   have hr1:els T.enc (rightL T.enc T.cur.ps j mj)=(match T.cur.ps[j]? with | some q=>(elsP T.enc q).drop mj | none=>[]):=by
    unfold rightL
    cases hq:T.cur.ps[j]? with
    | none=>rfl
    | some q=>
     dsimp only
     by_cases hx:mj<(toks T.enc q.2).length
     ·rw [if_pos hx,els_one,elsP_tail (hbT q (List.mem_of_getElem? hq)) (hmjq q hq)]
     ·rw [if_neg hx,List.drop_of_length_le (by rw [elsP_len]; omega)]; simp [els]
   rw [els_append,els_append,els_append,els_append,hq1,hl1,hr1,eT,eD]
   simp only [List.append_assoc]
   all_goals rfl
end Go.Sw.Piece

set_option linter.unusedVariables false
set_option linter.unusedSimpArgs false
set_option maxRecDepth 100000
namespace Go.Sw.Piece
open Go.Sw.Any Go.Sw.Codec
open Go.Sw.Tree (iv s_putAll s_newP s_getP s_getT s_putP eqI_self Placed cell_own wp_whileG minI_eq)
variable {P:Program} {S:Ids} {h:Heap} {Q:Nat→List Value→Heap→Prop}
abbrev El:=Int×Int
def one1 (E:List El) (e:EdD):List El:=E.take e.1.toNat++e.2.2.1.2.map (fun a=>(a, -1))++E.drop e.2.1.toNat
def allE (E:List El) (es:List EdD):List El:=es.foldr (fun e E=>one1 E e) E
theorem allE_cons (E:List El) (e:EdD) (es:List EdD):allE E (e::es)=one1 (allE E es) e:=rfl
def blen (enc:Int) (E:List El):Nat:=((E.map (·.1)).flatMap (putF enc)).length
theorem blen_append (enc:Int) (a b:List El):blen enc (a++b)=blen enc a+blen enc b:=by simp [blen]
theorem blen_state {T:TX} {s:St} (r:StR S h T s) (he:known T.enc):blen T.enc (els T.enc s.ps)=(bytesL s.ps).length:=by
 unfold blen; rw [← (toksL_els he r.bytes).2.1]
theorem blen_one {enc:Int} {E:List El} {e:EdD} (hf:fitsE enc e.2.2.1.2) (h0:0≤e.1) (h1:e.1≤e.2.1):blen enc (one1 E e)≤blen enc E+4*e.2.2.1.2.length:=by
 unfold one1
 have h2:=blen_append enc (E.take e.1.toNat) (E.drop e.1.toNat)
 rw [List.take_append_drop] at h2
 have h3:=blen_append enc ((E.drop e.1.toNat).take (e.2.1.toNat-e.1.toNat)) ((E.drop e.1.toNat).drop (e.2.1.toNat-e.1.toNat))
 rw [List.take_append_drop,List.drop_drop,show e.1.toNat+(e.2.1.toNat-e.1.toNat)=e.2.1.toNat by omega] at h3
 have h4:blen enc (e.2.2.1.2.map fun a=>((a, -1):El))≤4*e.2.2.1.2.length:=by
  have:=(put_le hf).2
  unfold blen
  rw [List.map_map]
  have e2:(List.map ((fun x:El=>x.1)∘fun a=>((a, -1):El)) e.2.2.1.2)=e.2.2.1.2:=by
   conv=>rhs; rw [← List.map_id e.2.2.1.2]
   rfl
  rw [e2]; exact this
 rw [blen_append,blen_append]; omega
theorem puts_split {es:List EdD} {i:Nat} {e:EdD} (hi:es[i]? = some e):(putsOf (es.drop i)).length=e.2.2.1.2.length+(putsOf (es.drop (i+1))).length:=by
 have hlt:=(List.getElem?_eq_some_iff.1 hi).1
 have he:=(List.getElem?_eq_some_iff.1 hi).2
 rw [List.drop_eq_getElem_cons hlt,he]; simp [putsOf]
theorem puts_drop_le (es:List EdD) (i:Nat):(putsOf (es.drop i)).length≤(putsOf es).length:=by
 have:putsOf es=putsOf (es.take i)++putsOf (es.drop i):=by unfold putsOf; rw [← List.flatMap_append,List.take_append_drop]
 rw [this,List.length_append]; omega
structure ChangeR (S:Ids) (n:Nat) (T:TX) (h0 h:Heap) (es:List EdD) (r:Int) (T':TX):Prop where
 ref:RefR T.enc T.limit (toksL T.enc T.cur.ps) es r
 t:TextR S n h T'
 nx:Nxt T T' h0.size
 els:els T.enc T'.cur.ps=if r=0 then allE (els T.enc T.cur.ps) es else els T.enc T.cur.ps
 len:T'.A.length≤T.A.length+4*(putsOf es).length
theorem c_Change (M:Meth0 P S) {n:Nat} {T:TX} {x:Eds} (t:TextR S n h T) (hn:n≤h.size) (hok:∀ h',Chg (wfoot T) h h'→(Sh.list EdSh).ok h' x) (hz:∀ e,e∈x.2→e.2.2.1.2≠[]→∀ a,e.2.2.1.1.base=some a→¬ T.Z a.block)
  (hA:T.A.length+4*(putsOf x.2).length≤400000000000) (hsm:(bytesL T.cur.ps).length≤T.limit) :
  wp P (F_Text_Change S (some T.p) x.1) h fun tg vs h'=>tg=0∧Chg (wfoot T) h h'∧∃ r T',vs=[i64v r]∧ChangeR S n T h h' x.2 r T':=by
 unfold F_Text_Change
 have ho:=hok h (Chg.refl _ _)
 have hxl:=ho.len
 have hcap:=ho.2.1
 have hmax:=ho.2.2.1
 refine wp_call (c_refuse M t ho (by omega) hsm) fun ⟨(r:Int),_⟩ h1 e1 hr=>?_
 have hr:RefR T.enc T.limit (toksL T.enc T.cur.ps) x.2 r:=hr
 dsimp only
 refine wp_ifB (fun hc=>?_) fun hc=>?_
 ·rw [neI_iff] at hc
  exact s_ret ⟨rfl,Chg.of_ext e1,r,T,rfl,hr,t.ext e1,Nxt.refl _ _,by rw [if_neg hc],by omega⟩
 rw [neI_not] at hc
 subst hc
 obtain ⟨hmany,hpl,hfit,_⟩:x.2.length≤70000∧Plc (toksL T.enc T.cur.ps).length 0 x.2∧fitsE T.enc (putsOf x.2)∧True:=by
  cases hr with
  | ok a b c d=>exact ⟨a,b,c,trivial⟩
 have hlen:(toksL T.enc T.cur.ps).length=(els T.enc T.cur.ps).length:=(els_len ..).symm
 have hbl:=blen_state t.cur t.enc
 have hlim:=t.lim
 have hlenI:subI .i64 (natI x.1.len) 1=(x.2.length:Int)-1:=by rw [natI_def,hxl,sub_ok (by omega) (by omega)]
 rw [hlenI]
 refine wp_whileG (G:=Nat×TX) (fun g (s:Int×Unit) h'=>s.1=(g.1:Int)-1∧g.1≤x.2.length∧Chg (wfoot T) h h'∧TextR S n h' g.2∧Nxt T g.2 h.size∧els T.enc g.2.cur.ps=allE (els T.enc T.cur.ps) (x.2.drop g.1) ∧
   lastTo 0 (x.2.take g.1)≤(els T.enc g.2.cur.ps).length∧(bytesL g.2.cur.ps).length≤(bytesL T.cur.ps).length+4*(putsOf (x.2.drop g.1)).length∧g.2.A.length≤T.A.length+4*(putsOf (x.2.drop g.1)).length) (fun g=>g.1)
  (fun tg vs h'=>tg=2∧vs=[]∧Chg (wfoot T) h h'∧∃ T',TextR S n h' T'∧Nxt T T' h.size∧els T.enc T'.cur.ps=allE (els T.enc T.cur.ps) x.2∧T'.A.length≤T.A.length+4*(putsOf x.2).length)
  (x.2.length,T) ⟨rfl,Nat.le_refl _,Chg.of_ext e1,t.ext e1,Nxt.refl _ _,by rw [List.drop_length]; rfl,?_,Nat.le_add_right _ _,Nat.le_add_right _ _⟩ ?_ ?_
 ·rw [List.take_length, ← hlen]
  have:∀ (es:List EdD) (a L:Int),a≤L→Plc L a es→lastTo a es≤L:=by
   intro es
   induction es with
   | nil=>intro a L h _; exact h
   | cons e es ih=>intro a L h ⟨_,_,h3,h4⟩; exact ih _ _ h3 h4
  exact this _ _ _ (by omega) hpl
 ·rintro ⟨k,T1⟩ ⟨(s:Int),u⟩ h2 ⟨hs,hk,c2,t2,nx,hE,hlo,hby,hA1⟩
  dsimp only at hs hk t2 nx hE hlo hby hA1 ⊢
  subst hs
  refine wp_ifB (fun hc=>?_) fun hc=>?_
  ·rw [geI_iff] at hc
   obtain ⟨i,rfl⟩:∃ i,k=i+1:=⟨k-1,by omega⟩
   have hi:((i+1:Nat):Int)-1=(i:Int):=by omega
   rw [hi]
   obtain ⟨e,hie⟩:∃ e,x.2[i]? = some e:=⟨x.2[i]'(by omega),List.getElem?_eq_getElem (by omega)⟩
   have hem:=List.mem_of_getElem? hie
   have hpe:=hpl.at hie
   have hlo0:=lastTo_lo (hpl.take i)
   have htk:x.2.take (i+1)=x.2.take i++[e]:=by rw [List.take_add_one,hie]; rfl
   rw [htk,lastTo_snoc] at hlo
   have hdr:x.2.drop i=e::x.2.drop (i+1):=by
    have hlt:=(List.getElem?_eq_some_iff.1 hie).1
    have he:=(List.getElem?_eq_some_iff.1 hie).2
    rw [List.drop_eq_getElem_cons hlt,he]
   have hps:=puts_split hie
   have hpd:=puts_drop_le x.2 i
   have hfe:fitsE T.enc e.2.2.1.2:=fun a ha=>hfit a (by unfold putsOf; exact List.mem_flatMap.2 ⟨e,hem,ha⟩)
   have hsucc:allE (els T.enc T.cur.ps) (x.2.drop i)=one1 (els T.enc T1.cur.ps) e:=by rw [hdr,allE_cons, ← hE]
   have hlo':lastTo 0 (x.2.take i)≤(one1 (els T.enc T1.cur.ps) e).length:=by
    unfold one1; rw [List.length_append,List.length_append,List.length_take]; omega
   refine wp_bind (fun tg vs h'=>tg=0∧vs=[]∧Chg (wfoot T) h h'∧∃ T2,TextR S n h' T2∧Nxt T T2 h.size∧els T.enc T2.cur.ps=allE (els T.enc T.cur.ps) (x.2.drop i)∧(bytesL T2.cur.ps).length≤(bytesL T.cur.ps).length+4*(putsOf (x.2.drop i)).length∧T2.A.length≤T.A.length+4*(putsOf (x.2.drop i)).length) ?_ ?_
   ·refine s_edit (hok h2 c2) hie fun a h3 e3 _ o3=>?_
    have l0:∀ {K:Int→Prog} {Q:Nat→List Value→Heap→Prop} {h'},Ext h3 h'→wp P (K e.1) h' Q→wp P (.load (.one (.int .i64)) (shiftTo (some a) 0) K) h' Q:=fun q hk=>wp_load1 (b:=.int .i64) _ e.1 rfl (cells_iff.1 (o3.ext q).cells 0 _ rfl) hk
    have l1:∀ {K:Int→Prog} {Q:Nat→List Value→Heap→Prop} {h'},Ext h3 h'→wp P (K e.2.1) h' Q→wp P (.load (.one (.int .i64)) (shiftTo (some a) 1) K) h' Q:=fun q hk=>wp_load1 (b:=.int .i64) _ e.2.1 rfl (cells_iff.1 (o3.ext q).cells 1 _ rfl) hk
    have l2:∀ {K:Sl→Prog} {Q:Nat→List Value→Heap→Prop} {h'},Ext h3 h'→wp P (K e.2.2.1.1) h' Q→wp P (.load (.one .sl) (shiftTo (some a) 2) K) h' Q:=fun q hk=>wp_load1 (b:=.sl) _ e.2.2.1.1 rfl (cells_iff.1 (o3.ext q).cells 2 _ rfl) hk
    have hlst:∀ {h'},Chg (wfoot T) h h'→Lst .i64 h' e.2.2.1.1 e.2.2.1.2:=fun c=>Sh.lst ((hok _ c).el hie).2.2.1
    have hll:=(hlst c2).len
    have c3:=c2.ext e3
    have E3:=Ext.refl h3
    refine bind_bool (e.1<e.2.1∨0<e.2.2.1.2.length) ?_ fun bb h4 e4 hb=>wp_ifB (fun hx=>?_) fun hx=>?_
    ·refine l0 E3 (l1 E3 (wp_ifB (fun hx=>s_ret ⟨rfl,Ext.refl _,true,rfl,?_⟩) fun hx=>l2 E3 (s_ret ⟨rfl,Ext.refl _,_,rfl,?_⟩)))
     ·rw [ltI_iff] at hx; exact Iff.intro (fun _=>.inl hx) fun _=>rfl
     ·rw [ltI_not] at hx; rw [gtI_iff,natI_def]; omega
    ·have c4:=c3.ext e4
     have t4:=(t2.ext e3).ext e4
     have hp1:T1.p=T.p:=nx.p
     have he1:T1.enc=T.enc:=nx.enc
     refine l0 e4 (l1 e4 (l2 e4 ?_))
     rw [← hp1]
     refine wp_callW (c_replace M (T:=T1) t4 (Nat.le_trans hn c4.1) (hlst c4) (by rw [he1]; exact hfe) (by omega) (fun hne b hb hzb=>?_) (by omega) hpe.2.1 (by rw [he1]; omega) (by omega)) fun tg vs h5 hx5=>?_
     ·have h0:b.block<h.size:=by
       have hl0:=hlst (Chg.refl _ _)
       obtain ⟨y,l',hyl⟩:∃ y l',e.2.2.1.2=y::l':=by
        cases hh:e.2.2.1.2 with
        | nil=>exact absurd hh hne
        | cons y l'=>exact ⟨y,l',rfl⟩
       obtain ⟨b',eb,cb⟩:=hl0.rd.at (i:=0) (by rw [hyl]; simp)
       rw [hb] at eb; cases eb
       have:=cell_lt cb
       rw [add_block] at this; exact this
      rcases nx.zn _ hzb with hy | hy
      ·exact hz e hem hne b hb hy
      ·omega
     ·obtain ⟨rfl,rfl,c5,T2,t5,nx5,hA5,hE5⟩:=hx5
      refine ⟨rfl,(),rfl,s_ret ⟨rfl,rfl,?_,T2,t5,nx.trans nx5 c4.1,?_,?_,?_⟩⟩
      ·exact c4.trans c5 fun i hi hw=>(nx.foot hw).elim id fun h=>by omega
      ·rw [hsucc]; rw [he1] at hE5; exact hE5
      ·have h6:=blen_state t5.cur t5.enc
       have h7:=blen_state t2.cur t2.enc
       rw [nx5.enc,he1] at h6
       rw [he1] at h7 hE5
       rw [← h6,hE5]
       have h8:=blen_one (E:=els T.enc T1.cur.ps) hfe (by omega) hpe.2.1
       unfold one1 at h8
       rw [h7] at h8
       omega
      ·rw [hA5,List.length_append]
       have:=(put_le hfe).2
       rw [he1]; omega
    ·have hno:¬ (e.1<e.2.1∨0<e.2.2.1.2.length):=fun k=>by rw [hb.2 k] at hx; cases hx
     have hnil:e.2.2.1.2=[]:=List.eq_nil_of_length_eq_zero (by omega)
     refine s_ret ⟨rfl,rfl,c3.ext e4,T1,(t2.ext e3).ext e4,nx,?_,by omega,by omega⟩
     rw [hsucc]
     unfold one1
     rw [hnil,show e.2.1=e.1 by omega]
     simp
   ·rintro tg vs h3 ⟨rfl,rfl,c3,T2,t3,nx3,hE3,hb3,hA3⟩
    refine s_tag (s_cast0 ?_)
    rw [sub_ok (by omega) (by omega)]
    exact s_ret ⟨fun _=>⟨(i,T2),((i:Int)-1,()),rfl,⟨rfl,by dsimp only; omega,c3,t3,nx3,hE3,by dsimp only; rw [hE3,hsucc]; exact hlo',hb3,hA3⟩,by dsimp only; omega⟩,fun h=>absurd rfl h⟩
  ·rw [geI_not] at hc
   have:k=0:=by omega
   subst this
   exact s_ret ⟨fun h=>absurd h (by decide),fun _=>⟨rfl,rfl,c2,T1,t2,nx,hE,hA1⟩⟩
 ·rintro tg vs h2 ⟨rfl,rfl,c2,T1,t2,nx,hE,hA1⟩
  exact s_tag (s_cast0 (s_ret ⟨rfl,c2,0,T1,rfl,hr,t2,nx,by rw [if_pos rfl]; exact hE,hA1⟩))
end Go.Sw.Piece

set_option linter.unusedVariables false
set_option linter.unusedSimpArgs false
set_option maxRecDepth 100000
namespace Go.Sw.Piece
open Go.Sw.Any Go.Sw.Codec
open Go.Sw.Tree (iv s_putAll s_newP s_getP s_getT s_putP eqI_self Placed cell_own wp_whileG minI_eq)
variable {P:Program} {S:Ids} {h:Heap} {Q:Nat→List Value→Heap→Prop}
structure Clb (P:Program) (S:Ids):Prop where
 it:∀ (y:Value) (a b:Option Addr),Dyn P (.func (.func S.f_Tree_part_Items_1) #[] #[.pointer a, .pointer b]) [y] (F_Tree_part_Items_1 S y a b)
 wk:∀ (p:Option Addr) (i:Int) (a b:Option Addr),Dyn P (.func (.func S.f_Tree_part_Items_1_1) #[] #[.pointer a, .pointer b]) [.pointer p,iv i] (F_Tree_part_Items_1_1 S p i a b)
structure Cl0 (P:Program) (S:Ids):Prop extends Clb P S where
 atoms:∀ (a t:Int) (p:Option Addr),Dyn P (.func (.func S.f_Text_Atoms_1) #[] #[.pointer p]) [iv a,iv t] (F_Text_Atoms_1 S a t p)
structure Cl1 (P:Program) (S:Ids):Prop extends Cl0 P S where
 tags:∀ (a t:Int) (p:Option Addr),Dyn P (.func (.func S.f_Text_Tags_1) #[] #[.pointer p]) [iv a,iv t] (F_Text_Tags_1 S a t p)
structure Clt (P:Program) (S:Ids):Prop extends Clb P S where
 tags:∀ (a t:Int) (p:Option Addr),Dyn P (.func (.func S.f_Text_Tags_1) #[] #[.pointer p]) [iv a,iv t] (F_Text_Tags_1 S a t p)
instance:Coe (Cl1 P S) (Cl0 P S):=⟨Cl1.toCl0⟩
instance:Coe (Cl0 P S) (Clb P S):=⟨Cl0.toClb⟩
instance:Coe (Clt P S) (Clb P S):=⟨Clt.toClb⟩
theorem Clb.clos (C:Clb P S) (Z:Nat→Prop):Clos P (part S Z):=⟨fun y a b=>C.it y a b,fun p i a b=>C.wk p i a b⟩
structure ItR (h:Heap) (root:Option Addr) (i:Int) (a b:Addr):Prop where
 ca:Sw.cell h a=some (.pointer root)
 cb:Sw.cell h b=some (iv i)
theorem c_ItemsF {p:Option Addr} {i:Int}:Gives P (F_Tree_part_Items S (p,()) i) [.one .any] h fun (y:Value×Unit) h'=>∃ a b,y.1 = .func (.func S.f_Tree_part_Items_1) #[] #[.pointer (some a), .pointer (some b)]∧ItR h' p i a b∧h.size≤a.block∧h.size≤b.block:=by
 unfold F_Tree_part_Items Gives
 refine s_newP p fun h1 e1 o1=>fun el=>?_
 have e2:Ext h1 (h1.push (.cells [iv i].toArray el)):=Ext.push ..
 have q2:Own h1.size 1 (h1.push (.cells [iv i].toArray el)) ⟨some ⟨h1.size,0,none⟩,1,1⟩ [iv i]:=own_alloc rfl (by decide) (by decide)
 generalize (h1.push (.cells [iv i].toArray el))=h2 at e2 q2 ⊢
 exact s_ret ⟨rfl,e1.trans e2,(_,()),rfl,_,_,rfl,⟨cell_own (o1.ext e2),cell_own q2⟩,Nat.le_refl _,e1.size⟩
theorem wp_rangeP (C:Clb P S) {n:Nat} {T:TX} {i:Int} {a b:Addr} {body:Option Addr×Unit→Prog} {K:Nat→Prog} (t:TextR S n h T) (hi:fitsI .i64 i) (it:ItR h T.cur.root i a b) (J:Nat→Heap→Prop) (F:Nat→Heap→Prop)
  (sJ:∀ k a b,J k a→Chg (own h.size 4) a b→J k b) (sF:∀ k a b,F k a→Chg (own h.size 4) a b→F k b)
  (hr:∀ k q h1 c,(T.cur.ps.drop i.toNat)[k]? = some q→J k h1→h.size+4≤h1.size→OwnP (h.size+4) h1 c q.1→wp P (body (some c,())) h1 fun tag _ h2=>Held (fun i=>own h.size 4 i∨((T.Z i∨i=a.block∨i=b.block)∧i<h.size)) h1 h2∧(tag=0→J (k+1) h2)∧(tag≠0→F tag h2))
  (j0:J 0 h)
  (hk:∀ j h5,h.size+2≤h5.size→(j=0∧J (T.cur.ps.drop i.toNat).length h5∨j≠0∧F j h5)→wp P (K j) h5 fun t vs h6=>Held (own h.size 1) h5 h6∧∀ h7,Chg (own h.size 1) h6 h7→h7.size=h6.size→Q t vs h7) :
  wp P (.range (.func (.func S.f_Tree_part_Items_1) #[] #[.pointer (some a), .pointer (some b)]) [.agg PB] [.one .ptr] (fun (r:Part×Unit)=>
   .alloc (Bs.inj PB zP) fun (c:Addr)=>.store (some c) (Bs.inj PB r.1) <| .ret 0 [.pointer (some c)]) body K) h Q:=by
 let Z:Nat→Prop:=fun i=>T.Z i∨i=a.block∨i=b.block
 have nd:Nd (part S Z) h T.cur.root T.cur.t:=part_mono t.cur.nd fun _ _ h=>.inl h
 have itg:=iter_items (part_ok S Z (P:=P)) (C.clos Z) nd (Nat.le_of_lt (t.cur.room t.lim.2)) hi it.ca it.cb (.inr (.inl rfl)) (.inr (.inr rfl))
 refine wp_range (A:=AL (part S Z) (T.cur.t.list.drop i.toNat)) (N:=(T.cur.t.list.drop i.toNat).length) (Z:=Z) (m:=2) (h0:=h) itg (Held.refl _ _) J F sJ sF (fun k hp h1 args ⟨r,_,e⟩=>⟨(r,()),e⟩) ?_ j0 ?_
 ·rintro k hp h1 ⟨x,u⟩ hkN j hps c hs1 hz1 ⟨r,hrr,hre⟩
  have hx:Bs.inj PB x=Bs.inj PB r:=by
   have h1:=congrArg (fun l=>l.head?) hre
   simp only [Ts.inj,List.head?_cons,Option.some.injEq] at h1
   have h2:(Value.agg (Bs.inj PB x).toArray)=Value.agg (Bs.inj PB r).toArray:=h1
   injection h2 with h2
   exact List.toArray_inj h2
  dsimp only
  rw [hx]
  have hq:∃ q,(T.cur.ps.drop i.toNat)[k]? = some q∧r=q.1:=by
   have h1:(T.cur.t.list.drop i.toNat)[k]? = some r:=hrr
   rw [t.cur.ls, ← List.map_drop,List.getElem?_map] at h1
   cases hq:(T.cur.ps.drop i.toNat)[k]? with
   | none=>rw [hq] at h1; cases h1
   | some q=>rw [hq] at h1; exact ⟨q,rfl,(Option.some.inj h1).symm⟩
  obtain ⟨q,hq,rfl⟩:=hq
  refine s_newO (bs:=PB) zP (by decide) fun h2 e2 o2=>s_stoO (bs:=PB) q.1 o2 (flatP _) fun h3 o3 u3=>s_ret ⟨rfl,(some ⟨h1.size,0,none⟩,()),rfl,?_,fun h3' c3 hs3=>?_⟩
  ·exact Held.of_ext (Upd.extN e2 u3 (by intro z hz; cases hz; exact Nat.le_refl _))
  ·have e13:Ext h1 h3:=Upd.extN e2 u3 (by intro z hz; cases hz; exact Nat.le_refl _)
   refine hr k q h3' _ hq ?_ (by have:=e13.size; omega) ((c3.own o3 fun z hz hw=>by cases hz; have:=hw.2; dsimp only at this; omega).mono (by omega))
   exact sJ _ _ _ (sJ _ _ _ (sJ _ _ _ j c) (Chg.of_ext e13)) c3
 ·intro j h5 hs5 hz5 hx
  refine hk j h5 hs5 ?_
  have:(T.cur.t.list.drop i.toNat).length=(T.cur.ps.drop i.toNat).length:=by rw [t.cur.ls,List.length_drop,List.length_drop,List.length_map]
  rw [← this]; exact hx
theorem s_copyAt {n:Nat} {k:IntKind} {s x:Sl} {pre mid post l:List Int} {i:Nat} {K:Nat→Prog} (ho:OwnL n k h s (pre++mid++post)) (hx:Lst k h x l) (hl:l.length=mid.length) (h0:0<l.length) (hi:i=pre.length)
  (hk:∀ h',OwnL n k h' s (pre++l++post)→Upd s h h'→h'.size=h.size→wp P (K l.length) h' Q):wp P (.copy 1 ⟨cutBase s.base s.cap i 1,subN s.len i,subN s.cap i⟩ x K) h Q:=by
 subst hi
 have hxl:=hx.len
 have hsl:=ho.len
 simp only [List.length_append] at hsl
 obtain ⟨o1,o2,o3,o4⟩:=ho.own
 cases hb:s.base with
 | none=>rw [hb] at o4; simp only at o4; omega
 | some a=>
  rw [hb] at o4
  obtain ⟨b,off,spot⟩:=a
  obtain ⟨e0,e1,e2,cs,elem,e3,e4,e5⟩:=o4
  simp only at e0 e1 e2 e3
  subst e0; subst e1
  have hcut:cutBase (some (⟨b,0,none⟩:Addr)) s.cap pre.length 1=some ⟨b,pre.length,none⟩:=by
   unfold cutBase; rw [if_neg (by omega)]; simp [add_mk]
  rw [hcut]
  have hmin:min x.len (subN s.len pre.length)=l.length:=by unfold subN; omega
  obtain ⟨w,cs',c1,c2,c3,c4,c5,c6⟩:=puts_block (vs:=l.map (.int k)) (i:=0) (off:=pre.length) e3 (by intro y hy; obtain ⟨z,_,rfl⟩:=List.mem_map.1 hy; rfl) (by rw [List.length_map]; simp at e4; omega)
  refine ⟨l.map (.int k),?_,?_⟩
  ·rw [hmin]
   have:=hx.rd.firsts
   rw [hxl] at this; exact this
  ·dsimp only
   rw [hmin]
   refine ⟨w,hk _ ⟨⟨by simp at o1 ⊢; omega,o2,o3,?_⟩,?_⟩ ⟨by unfold puts; omega,fun j hj hne=>c6 j fun e=>(hne _ hb) e.symm,fun a e=>by unfold puts; rw [thaw_putFrom]; exact e⟩ (by unfold puts; omega)⟩
   ·rw [hb]
    refine ⟨rfl,rfl,e2,cs',elem,c1,by rw [c2,e4],fun j v hj=>?_⟩
    rw [List.map_append,List.map_append] at hj
    by_cases hj1:j<pre.length
    ·rw [List.append_assoc,List.getElem?_append_left (by rw [List.length_map]; exact hj1)] at hj
     rw [c4 j (by omega)]
     exact e5 j v (by rw [List.map_append,List.map_append,List.append_assoc,List.getElem?_append_left (by rw [List.length_map]; exact hj1)]; exact hj)
    ·by_cases hj2:j<pre.length+l.length
     ·rw [List.getElem?_append_left (by simp; omega),List.getElem?_append_right (by simp; omega),List.length_map] at hj
      have:=c3 (j-pre.length) v hj
      rw [show pre.length+0+(j-pre.length)=j by omega] at this; exact this
     ·rw [List.getElem?_append_right (by simp; omega)] at hj
      rw [c4 j (by simp; omega)]
      refine e5 j v ?_
      rw [List.map_append,List.map_append,List.getElem?_append_right (by simp; omega)]
      simp only [List.length_append,List.length_map] at hj ⊢
      rw [show j-(pre.length+mid.length)=j-(pre.length+l.length) by omega]; exact hj
   ·intro y hy
    rcases List.mem_append.1 hy with hy | hy
    ·rcases List.mem_append.1 hy with hy | hy
     ·exact ho.wf y (List.mem_append_left _ (List.mem_append_left _ hy))
     ·exact hx.wf y hy
    ·exact ho.wf y (List.mem_append_right _ hy)
end Go.Sw.Piece

set_option linter.unusedVariables false
set_option linter.unusedSimpArgs false
set_option maxRecDepth 100000
namespace Go.Sw.Piece
open Go.Sw.Any Go.Sw.Codec
open Go.Sw.Tree (iv s_putAll s_newP s_getP s_getT s_putP eqI_self Placed cell_own wp_whileG minI_eq)
variable {P:Program} {S:Ids} {h:Heap} {Q:Nat→List Value→Heap→Prop}
theorem s_mkZ {k:IntKind} {bytes n:Nat} {K:Sl→Prog} (h1:n<2 ^ 63) (h2:bytes*n≤2 ^ 48) (hk:∀ h' r,Ext h h'→OwnL h.size k h' r (List.replicate n 0)→wp P (K r) h' Q):wp P (.mk bytes [.int k 0] (n:Int) (n:Int) K) h Q:=by
 refine ⟨⟨by omega,Int.le_refl _,by omega,by exact_mod_cast h2⟩,fun elem=>hk _ _ (Ext.push ..) ⟨⟨by simp,by simp,by dsimp only; omega,?_⟩,fun x hx=>by rw [(List.mem_replicate.1 hx).2]; exact fits_zero k⟩⟩
 refine ⟨rfl,rfl,Nat.le_refl _,_,elem,Array.getElem?_push_size,?_,fun i v hi=>?_⟩
 ·rw [zeros_one]; simp
 ·rw [zeros_one]
  rw [List.map_replicate] at hi
  rw [List.getElem?_toArray]
  simpa using hi
theorem s_new1 (v:Value) {K:Addr→Prog} (hk:∀ h',Ext h h'→Own h.size 1 h' ⟨some ⟨h.size,0,none⟩,1,1⟩ [v]→h'.size=h.size+1→wp P (K ⟨h.size,0,none⟩) h' Q):wp P (.alloc [v] K) h Q:=
 fun el=>hk _ (Ext.push ..) (own_alloc rfl (by decide) (by decide)) (by simp)
abbrev Cel (n:Nat) (h:Heap) (a:Addr) (v:Value):Prop:=Own n 1 h ⟨some a,1,1⟩ [v]
theorem s_cel {n:Nat} {a:Addr} {b:B} {x:b.den} {K:b.den→Prog} (o:Cel n h a (b.inj x)) (hk:wp P (K x) h Q):wp P (.load (.one b) (some a) K) h Q:=wp_load1 a x rfl (cell_own o) hk
theorem s_celput {n:Nat} {a:Addr} {v:Value} (w:Value) {K:Prog} (o:Cel n h a v) (hw:flat w=true) (hk:∀ h',Cel n h' a w→Upd ⟨some a,1,1⟩ h h'→wp P K h' Q):wp P (.store (some a) [w] K) h Q:=
 s_putAll [w] o rfl (by intro u hu; rw [List.mem_singleton.1 hu]; exact hw) hk
theorem s_newput (z w:Value) {K:Addr→Prog} (hw:flat w=true) (hk:∀ h',Ext h h'→Cel h.size h' ⟨h.size,0,none⟩ w→wp P (K ⟨h.size,0,none⟩) h' Q):wp P (.alloc [z] fun a=>.store (some a) [w] (K a)) h Q:=
 s_new1 z fun h1 e1 o1 _=>s_celput w o1 hw fun h2 o2 u2=>hk h2 (Upd.extN e1 u2 (by intro x hx; cases hx; exact Nat.le_refl _)) o2
theorem Keep.chg {n:Nat} {F:Nat→Prop} {a b c:Heap} (k:Keep n a b) (c':Chg F b c) (hn:n≤b.size) (hf:∀ i,F i→n≤i):Keep n a c:=Keep.trans k (c'.keep hn fun i hi x=>by have:=hf i x; omega)
end Go.Sw.Piece

set_option linter.unusedVariables false
set_option linter.unusedSimpArgs false
set_option maxRecDepth 100000
namespace Go.Sw.Piece
open Go.Sw.Any Go.Sw.Codec
open Go.Sw.Tree (iv s_putAll s_newP s_getP s_getT s_putP eqI_self Placed cell_own wp_whileG minI_eq)
variable {P:Program} {S:Ids} {h:Heap} {Q:Nat→List Value→Heap→Prop}
theorem elsF_get (tag:Int):∀ (ts:List (Int×Int)) (o w:Nat) (t:Int×Int),ts[w]? = some t→(elsF tag o ts)[w]? = some (t.1,if tag<0 then -1 else tag+((o+offs (ts.take w):Nat):Int))
 | [],o,w,t,h=>by simp at h
 | x::ts,o,0,t,h=>by simp at h; subst h; simp [elsF,offs]
 | x::ts,o,w+1,t,h=>by
  have:=elsF_get tag ts (o+x.2.toNat) w t (by simpa using h)
  simp only [elsF,List.getElem?_cons_succ,List.take_succ_cons,offs_cons]
  rw [this,Nat.add_assoc]
structure See (P:Program) (see:Value) (f:El→Int) (cc:Addr):Prop where
 flat:flat see=true
 go:∀ (h:Heap) (m:Nat) (e:El) (s:Sl) (l:List Int) (Q:Nat→List Value→Heap→Prop) (K:Unit→Prog),m≤h.size→Cel m h cc (slv s)→OwnL m .i64 h s l→fitsI .i64 e.1→fitsI .i64 e.2→l.length≤1099511627776→(∀ x,s.base=some x→x.block≠cc.block) →
  (∀ h' s',Cel m h' cc (slv s')→OwnL m .i64 h' s' (l++[f e])→Chg (fun i=>i=cc.block∨∃ x,s.base=some x∧x.block=i) h h'→(∀ x,s'.base=some x→s.base=some x∨h.size≤x.block)→wp P (K ()) h' Q)→wp P (.callv see [iv e.1,iv e.2] [] K) h Q
theorem see_push {m:Nat} {cc:Addr} {s:Sl} {l:List Int} {v:Int} {K:Prog} (hm:m≤h.size) (oc:Cel m h cc (slv s)) (ol:OwnL m .i64 h s l) (hv:fitsI .i64 v) (hl:l.length≤1099511627776) (hne:∀ x,s.base=some x→x.block≠cc.block)
  (hk:∀ h' s',Cel m h' cc (slv s')→OwnL m .i64 h' s' (l++[v])→Chg (fun i=>i=cc.block∨∃ x,s.base=some x∧x.block=i) h h'→(∀ x,s'.base=some x→s.base=some x∨h.size≤x.block)→wp P K h' Q) :
  wp P (.load (.one .sl) (some cc) fun (l1:Sl)=>.alloc [iv v] fun (a2:Addr)=>.append 1 8 [iv 0] l1 ⟨some a2,1,1⟩ fun (l3:Sl)=>.store (some cc) [slv l3] K) h Q:=by
 refine s_cel (b:=.sl) (x:=s) oc (s_push ol hm hv (by omega) (by omega) fun r h1 k1 o1 u1 b1=>?_)
 have c1:Chg (fun i=>∃ x,s.base=some x∧x.block=i) h h1:=Chg.of_upd u1 fun x hx _=>⟨x,hx,rfl⟩
 have hcc:cc.block<h.size:=(oc.lt rfl).2
 refine s_celput (slv r) (c1.own oc fun x hx ⟨y,hy,e⟩=>by cases hx; exact hne y hy e) rfl fun h2 o2 u2=>hk h2 r o2 (o1.upd u2 fun a b ha hb=>?_) ?_ b1
 ·cases hb
  rcases b1 a ha with hx | hx
  ·exact (hne a hx).symm
  ·omega
 ·exact (c1.mono fun i _ e=>.inr e).trans ((upd_chg u2).mono fun i _ e=>.inl e) fun i _ x=>x
theorem see_atoms (C:Cl0 P S) (cc:Addr):See P (.func (.func S.f_Text_Atoms_1) #[] #[.pointer (some cc)]) (·.1) cc:=
 ⟨rfl,fun h m e s l Q K hm oc ol h1 h2 hl hne hk=>wp_dyn (C.atoms _ _ _) (see_push hm oc ol h1 hl hne fun h' s' a b c d=>s_ret ⟨rfl,(),rfl,hk h' s' a b c d⟩)⟩
theorem see_tagsT (C:Clt P S) (cc:Addr):See P (.func (.func S.f_Text_Tags_1) #[] #[.pointer (some cc)]) (·.2) cc:=
 ⟨rfl,fun h m e s l Q K hm oc ol h1 h2 hl hne hk=>wp_dyn (C.tags _ _ _) (see_push hm oc ol h2 hl hne fun h' s' a b c d=>s_ret ⟨rfl,(),rfl,hk h' s' a b c d⟩)⟩
def cutL (E:List El) (from_ to:Int):List El:=(E.take (min to E.length).toNat).drop (max from_ 0).toNat
structure WJ (S:Ids) (P:Program) (n:Nat) (T:TX) (h0:Heap) (hr m0:Nat) (a1 a2 a7 a8 cc:Addr) (see:Value) (f:El→Int) (R:List El) (m cnt v:Nat) (h:Heap) (s:Sl):Prop where
 c:Chg (fun i=>i=cc.block) h0 h
 sz:hr≤h.size
 t:TextR S n h T
 o1:Cel h0.size h a1 (.pointer (some T.p))
 o2:Cel h0.size h a2 see
 o7:Cel h0.size h a7 (i64v ((m-v:Nat):Int))
 o8:Cel h0.size h a8 (i64v ((cnt-(v-m):Nat):Int))
 oc:Cel m0 h cc (slv s)
 ol:OwnL m0 .i64 h s (((R.take v).drop m).map f)
 sb:∀ x,s.base=some x→hr+4≤x.block∧0<((R.take v).drop m).length
 lt:a1.block<hr∧a2.block<hr∧a7.block<hr∧a8.block<hr∧cc.block<h0.size∧h0.size≤hr
variable {n:Nat} {T:TX} {h0:Heap} {hr m0:Nat} {a1 a2 a7 a8 cc:Addr} {see:Value} {f:El→Int} {R:List El} {m cnt v:Nat} {s:Sl}
theorem WJ.chg {h':Heap} {F:Nat→Prop} (j:WJ S P n T h0 hr m0 a1 a2 a7 a8 cc see f R m cnt v h s) (c:Chg F h h') (hF:∀ i,F i→hr≤i∧∀ x,s.base=some x→x.block≠i) (hz:∀ i,T.Z i→i<h0.size):WJ S P n T h0 hr m0 a1 a2 a7 a8 cc see f R m cnt v h' s:=by
 obtain ⟨l1,l2,l7,l8,lc,lh⟩:=j.lt
 exact ⟨j.c.trans (c.mono fun i _ x=>x) fun i hi x=>by have:=(hF i x).1; omega,Nat.le_trans j.sz c.1,j.t.chg c fun i hi x=>by have:=(hF i x).1; have:=hz i hi; omega,
  c.own j.o1 fun x hx y=>by cases hx; have:=(hF _ y).1; omega,c.own j.o2 fun x hx y=>by cases hx; have:=(hF _ y).1; omega,c.own j.o7 fun x hx y=>by cases hx; have:=(hF _ y).1; omega,c.own j.o8 fun x hx y=>by cases hx; have:=(hF _ y).1; omega,
  c.own j.oc fun x hx y=>by cases hx; have:=(hF _ y).1; omega,c.ownL j.ol fun x hx y=>(hF _ y).2 x hx rfl,j.sb,j.lt⟩
theorem WJ.ext {h':Heap} (j:WJ S P n T h0 hr m0 a1 a2 a7 a8 cc see f R m cnt v h s) (c:Ext h h') (hz:∀ i,T.Z i→i<h0.size):WJ S P n T h0 hr m0 a1 a2 a7 a8 cc see f R m cnt v h' s:=
 j.chg (F:=fun _=>False) (Chg.of_ext c) (fun i x=>x.elim) hz
theorem own_ne {k:IntKind} {n':Nat} {l:List Int} {c x:Addr} {q:Part} (o:OwnL m0 k h s l) (hl:0<l.length) (hx:s.base=some x) (oc:OwnP n' h c q):x.block≠c.block:=by
 intro e
 obtain ⟨_,_,_,o4⟩:=id o.own
 rw [hx] at o4
 obtain ⟨x0,x1,_⟩:=o4
 obtain ⟨_,_,_,c4⟩:=id oc
 obtain ⟨c0,c1,_⟩:=c4
 obtain ⟨y,ey,cy⟩:=o.lst.rd.at (i:=0) hl
 rw [hx] at ey; cases ey
 have cc:=cells_iff.1 oc.cells 0 _ rfl
 have:x=c:=by
  obtain ⟨xb,xo,xs⟩:=x
  obtain ⟨cb,co,cs⟩:=c
  dsimp only at e x0 x1 c0 c1
  subst e; subst x0; subst x1; subst c0; subst c1; rfl
 rw [this] at cy
 rw [cc] at cy
 cases cy
theorem told_succ {E:El} (hv:R[v]? = some E) (hm:m≤v):(R.take (v+1)).drop m=(R.take v).drop m++[E]:=by
 rw [List.take_add_one,hv]
 rw [List.drop_append_of_le_length (by rw [List.length_take]; have:=(List.getElem?_eq_some_iff.1 hv).1; omega)]; rfl
theorem told_skip (hm:v<m):(R.take (v+1)).drop m=[]∧(R.take v).drop m=[]:=by
 constructor <;> exact List.drop_of_length_le (by rw [List.length_take]; omega)
theorem c_pass (hs:See P see f cc) {c:Addr} {q:Part} {E:El} {tag at_:Int} {nr:Nat} {W:Nat→Prop} (j:WJ S P n T h0 hr m0 a1 a2 a7 a8 cc see f R m cnt v h s) (hm0:m0≤h0.size) (hz:∀ i,T.Z i→i<h0.size) (hcz:¬ T.Z cc.block) (hd:a1.block≠a7.block∧a1.block≠a8.block∧a2.block≠a7.block∧a2.block≠a8.block∧a7.block≠a8.block)
  (hge:h0.size≤a1.block∧h0.size≤a2.block∧h0.size≤a7.block∧h0.size≤a8.block) (hv:R[v]? = some E) (hlt:v-m<cnt) (hbig:m≤1099511627776∧cnt≤1099511627776∧v≤1099511627776) (oc:OwnP (hr+4) h c q) (htag:q.2.1=tag) (hE:E.2=if tag<0 then -1 else tag+at_) (hfit:fitsI .i64 E.1∧fitsI .i64 E.2 ∧ -9223372036854775808≤tag+at_∧tag+at_≤9223372036854775807)
  (hW:∀ i,W i→i≠a7.block∧i≠a8.block∧i≠cc.block∧i<hr+4) :
  wp P (.bind
     (.load (.one (.int .i64)) (some a7) fun (n239:Int)=>
     ifB (gtI n239 0)
      (.load (.one (.int .i64)) (some a7) fun (n240:Int)=>
      .store (some a7) [i64v (subI .i64 n240 1)] <|
      .ret 0 []) <|
     .bind
      (grd (someB (some c)) <|
      .load (.one (.int .i64)) (shiftTo (some c) 1) fun (n252:Int)=>
      ifB (ltI n252 0)
       (.load (.one .any) (some a2) fun (c253:Value)=>
       .callv c253 [i64v E.1,i64v (-1)] [] fun (u254:Unit)=>
       .ret 0 []) <|
      .load (.one .any) (some a2) fun (c255:Value)=>
      grd (someB (some c)) <|
      .load (.one (.int .i64)) (shiftTo (some c) 1) fun (n256:Int)=>
      .callv c255 [i64v E.1,i64v (addI .i64 n256 at_)] [] fun (u257:Unit)=>
      .ret 0 []) fun (k258:Nat)=>
     fun (vs259:List Value)=>
     ifB (eqN k258 0)
      (.cast [] vs259 fun (u260:Unit)=>
      .load (.one (.int .i64)) (some a8) fun (n261:Int)=>
      .store (some a8) [i64v (subI .i64 n261 1)] <|
      .load (.one (.int .i64)) (some a8) fun (n262:Int)=>
      ifB (eqI n262 0)
       (.ret 1 []) <|
      .ret 0 []) <|
     .fail) fun k vs=>.ret k vs) h fun tg vs h'=>vs=[]∧Held W h h'∧OwnP (hr+4) h' c q∧∃ s',WJ S P n T h0 hr m0 a1 a2 a7 a8 cc see f R m cnt (v+1) h' s'∧((tg=0∧v+1-m<cnt)∨(tg=1∧v+1=m+cnt)):=by
 obtain ⟨l1,l2,l7,l8,lc,lh⟩:=j.lt
 obtain ⟨d17,d18,d27,d28,d78⟩:=hd
 have hc4:hr+4≤c.block:=(oc.lt rfl).1
 refine wp_bind (fun tg vs h'=>vs=[]∧Held W h h'∧OwnP (hr+4) h' c q∧∃ s',WJ S P n T h0 hr m0 a1 a2 a7 a8 cc see f R m cnt (v+1) h' s'∧((tg=0∧v+1-m<cnt)∨(tg=1∧v+1=m+cnt))) ?_ fun t vs h' hx=>s_ret hx
 refine s_cel (b:=.int .i64) (x:=((m-v:Nat):Int)) j.o7 (wp_ifB (fun hc=>?_) fun hc=>?_)
 ·rw [gtI_iff] at hc
  obtain ⟨k1,k2⟩:=told_skip (R:=R) (show v<m by omega)
  refine s_cel (b:=.int .i64) (x:=((m-v:Nat):Int)) j.o7 ?_
  rw [sub_ok (by omega) (by omega)]
  refine s_celput (i64v (((m-v:Nat):Int)-1)) j.o7 rfl fun h1 o1 u1=>s_ret ⟨rfl,?_,?_,s,?_, .inl ⟨rfl,by omega⟩⟩
  ·exact Held.of_chg (upd_chg u1) fun i hi hw e=>(hW i hw).1 e
  ·exact upd_own oc u1 fun x hx=>by cases hx; omega
  ·have cg:Chg (fun i=>i=a7.block) h h1:=upd_chg u1
   refine ⟨j.c.trans cg fun i hi e=>by have e:i=a7.block:=e; omega,Nat.le_trans j.sz cg.1,j.t.chg cg fun i hi e=>by have:=hz i hi; have e:i=a7.block:=e; omega,cg.own j.o1 fun x hx e=>by cases hx; exact d17 e,cg.own j.o2 fun x hx e=>by cases hx; exact d27 e,?_,?_,cg.own j.oc fun x hx e=>by cases hx; have e:cc.block=a7.block:=e; omega,?_,fun x hx=>?_,j.lt⟩
   ·rw [show ((m-(v+1):Nat):Int)=((m-v:Nat):Int)-1 by omega]; exact o1
   ·rw [show cnt-(v+1-m)=cnt-(v-m) by omega]; exact cg.own j.o8 fun x hx e=>by cases hx; exact d78 e.symm
   ·rw [k1, ← k2]; exact cg.ownL j.ol fun x hx e=>by have:=(j.sb x hx).1; have e:x.block=a7.block:=e; omega
   ·have:=j.sb x hx; rw [k2] at this; exact absurd this.2 (by simp)
 ·rw [gtI_not] at hc
  have hmv:m≤v:=by omega
  have hts:=told_succ hv hmv
  have htl:((R.take v).drop m).length=v-m:=by rw [List.length_drop,List.length_take]; have:=(List.getElem?_eq_some_iff.1 hv).1; omega
  have c1:Sw.cell h (c.add 1)=some (i64v tag):=by rw [← htag]; exact cells_iff.1 oc.cells 1 _ rfl
  have neW:∀ x,s.base=some x→x.block≠c.block:=fun x hx=>own_ne j.ol (by rw [List.length_map]; exact (j.sb x hx).2) hx oc
  have tell:∀ {K:Unit→Prog} {Q:Nat→List Value→Heap→Prop},(∀ h' s',Held W h h'→OwnP (hr+4) h' c q→h.size≤h'.size→WJ S P n T h0 hr m0 a1 a2 a7 a8 cc see f R m (cnt+0) v h s→(Chg (fun i=>i=cc.block∨∃ x,s.base=some x∧x.block=i) h h')→Cel m0 h' cc (slv s')→OwnL m0 .i64 h' s' (((R.take (v+1)).drop m).map f)→(∀ x,s'.base=some x→s.base=some x∨h.size≤x.block)→wp P (K ()) h' Q)→wp P (.callv see [iv E.1,iv E.2] [] K) h Q:=fun hk=>
   hs.go h m0 E s _ _ _ (by have:=j.c.1; omega) j.oc j.ol hfit.1 hfit.2.1 (by rw [List.length_map,htl]; omega) (fun x hx=>by have:=(j.sb x hx).1; omega) fun h' s' o1 o2 cg b1=>
    hk h' s' (Held.of_chg cg fun i hi hw e=>by
     rcases e with e | ⟨x,hx,e⟩
     ·exact (hW i hw).2.2.1 e
     ·have:=(j.sb x hx).1; have:=(hW i hw).2.2.2; omega) (cg.own oc fun x hx e=>by
     cases hx
     rcases e with e | ⟨y,hy,e⟩
     ·omega
     ·exact neW y hy e) cg.1 j cg o1 (by rw [hts,List.map_append]; exact o2) b1
  refine wp_bind (fun tg vs h'=>tg=0∧vs=[]∧Held W h h'∧OwnP (hr+4) h' c q∧∃ s',Chg (fun i=>i=cc.block∨∃ x,s.base=some x∧x.block=i) h h'∧Cel m0 h' cc (slv s')∧OwnL m0 .i64 h' s' (((R.take (v+1)).drop m).map f)∧∀ x,s'.base=some x→s.base=some x∨h.size≤x.block) ?_ ?_
  ·refine wp_grd rfl (wp_load1 (b:=.int .i64) (c.add 1) tag rfl c1 (wp_ifB (fun hc=>?_) fun hc=>?_))
   ·rw [ltI_iff] at hc
    rw [if_pos hc] at hE
    rw [← hE]
    exact s_cel (b:=.any) (x:=see) j.o2 (tell fun h' s' w o sz _ cg o1 o2 b1=>s_ret ⟨rfl,rfl,w,o,s',cg,o1,o2,b1⟩)
   ·rw [ltI_not] at hc
    rw [if_neg (by omega)] at hE
    refine s_cel (b:=.any) (x:=see) j.o2 (wp_grd rfl (wp_load1 (b:=.int .i64) (c.add 1) tag rfl c1 ?_))
    rw [add_ok hfit.2.2.1 hfit.2.2.2, ← hE]
    exact tell fun h' s' w o sz _ cg o1 o2 b1=>s_ret ⟨rfl,rfl,w,o,s',cg,o1,o2,b1⟩
  ·rintro tg vs h1 ⟨rfl,rfl,w1,oc1,s',cg,o1,o2,b1⟩
   have o81:Cel h0.size h1 a8 (i64v ((cnt-(v-m):Nat):Int)):=cg.own j.o8 fun x hx e=>by
    cases hx
    rcases e with e | ⟨y,hy,e⟩
    ·omega
    ·have:=(j.sb y hy).1; omega
   refine s_tag (s_cast0 (s_cel (b:=.int .i64) (x:=((cnt-(v-m):Nat):Int)) o81 ?_))
   rw [sub_ok (by omega) (by omega)]
   refine s_celput (i64v (((cnt-(v-m):Nat):Int)-1)) o81 rfl fun h2 o82 u2=>?_
   have e8:((cnt-(v-m):Nat):Int)-1=((cnt-(v+1-m):Nat):Int):=by omega
   have cg2:Chg (fun i=>i=a8.block) h1 h2:=upd_chg u2
   have old:∀ {a:Addr} {x:Value},Cel h0.size h a x→a.block<hr→h0.size≤a.block→a.block≠a8.block→Cel h0.size h2 a x:=fun o q1 q2 q3=>cg2.own (cg.own o fun x hx e=>by
    cases hx
    rcases e with e | ⟨y,hy,e⟩
    ·omega
    ·have:=(j.sb y hy).1; omega) fun x hx e=>by cases hx; exact q3 e
   have sb':∀ x,s'.base=some x→hr+4≤x.block:=fun x hx=>by
    rcases b1 x hx with hy | hy
    ·exact (j.sb x hy).1
    ·have:c.block<h.size:=(oc.lt rfl).2; omega
   have J2:WJ S P n T h0 hr m0 a1 a2 a7 a8 cc see f R m cnt (v+1) h2 s':=by
    refine ⟨?_,?_,?_,old j.o1 l1 hge.1 d18,old j.o2 l2 hge.2.1 d28,?_,by rw [← e8]; exact o82,cg2.own o1 fun x hx e=>by cases hx; have e:cc.block=a8.block:=e; omega,cg2.ownL o2 fun x hx e=>by have:=sb' x hx; have e:x.block=a8.block:=e; omega,fun x hx=>⟨sb' x hx,by rw [hts,List.length_append]; simp⟩,j.lt⟩
    ·refine (j.c.trans cg fun i hi e=>?_).trans cg2 fun i hi e=>by have e:i=a8.block:=e; omega
     rcases e with e | ⟨y,hy,e⟩
     ·exact e
     ·have:=(j.sb y hy).1; omega
    ·have:=cg.1; have:=cg2.1; have:=j.sz; omega
    ·refine TextR.chg (TextR.chg j.t cg fun i hi e=>?_) cg2 fun i hi e=>by have:=hz i hi; have e:i=a8.block:=e; omega
     rcases e with e | ⟨y,hy,e⟩
     ·exact hcz (e ▸ hi)
     ·have:=(j.sb y hy).1; have:=hz i hi; omega
    ·have:=old j.o7 l7 hge.2.2.1 d78
     rw [show m-(v+1)=m-v by omega]; exact this
   have w2:Held W h h2:=w1.trans (Held.of_chg cg2 fun i hi hw e=>(hW i hw).2.1 e)
   have oc2:OwnP (hr+4) h2 c q:=cg2.own oc1 fun x hx e=>by cases hx; have e:c.block=a8.block:=e; omega
   refine s_cel (b:=.int .i64) (x:=(((cnt-(v-m):Nat):Int)-1)) o82 (wp_ifB (fun hx=>?_) fun hx=>?_)
   ·rw [eqI_iff] at hx
    exact s_ret ⟨rfl,w2,oc2,s',J2, .inr ⟨rfl,by omega⟩⟩
   ·rw [eqI_not] at hx
    exact s_ret ⟨rfl,w2,oc2,s',J2, .inl ⟨rfl,by omega⟩⟩
end Go.Sw.Piece

set_option linter.unusedVariables false
set_option linter.unusedSimpArgs false
set_option maxRecDepth 100000
namespace Go.Sw.Piece
open Go.Sw.Any Go.Sw.Codec
open Go.Sw.Tree (iv s_putAll s_newP s_getP s_getT s_putP eqI_self Placed cell_own wp_whileG minI_eq)
variable {P:Program} {S:Ids} {h:Heap} {Q:Nat→List Value→Heap→Prop}
theorem maxI_eq (a b:Int):maxI a b=max a b:=by unfold maxI; split <;> omega
theorem elsP_get {enc:Int} {q:Pc} {w:Nat} {t:Int×Int} (hw:(toks enc q.2)[w]? = some t):(elsP enc q)[w]? = some (t.1,if q.1.2.1<0 then -1 else q.1.2.1+(offs ((toks enc q.2).take w):Int)):=by
 have:=elsF_get q.1.2.1 (toks enc q.2) 0 w t hw
 unfold elsP
 rw [this,Nat.zero_add]
theorem c_walkT (M:Meth0 P S) (C:Clb P S) {n m0:Nat} {T:TX} {from_ to:Int} {see:Value} {f:El→Int} {cc:Addr} (t:TextR S n h T) (hs:See P see f cc) (oc:Cel m0 h cc (slv ⟨none,0,0⟩)) (hm0:m0≤h.size) (hcz:¬ T.Z cc.block) (hto:fitsI .i64 to) :
  wp P (F_Text_walk S (some T.p) from_ to see) h fun tg vs h'=>tg=0∧vs=[]∧Chg (fun i=>i=cc.block) h h'∧∃ s,Cel m0 h' cc (slv s)∧OwnL m0 .i64 h' s ((cutL (els T.enc T.cur.ps) from_ to).map f):=by
 unfold F_Text_walk
 rw [fits_i64] at hto
 have hf:=t.cur.few t.lim.2
 have hEl:(els T.enc T.cur.ps).length=(toksL T.enc T.cur.ps).length:=els_len ..
 have lo:=t.lo
 have hcl:cc.block<h.size:=(oc.lt rfl).2
 refine s_new1 _ fun h1 e1 o1 z1=>wp_grd hs.flat (s_new1 _ fun h2 e2 o2 z2=>?_)
 have e02:=e1.trans e2
 refine s_cel (b:=.ptr) (x:=some T.p) (o1.ext e2) (wp_call (c_Len (t.ext e02)) fun ⟨(L:Int),_⟩ h3 e3 hL=>?_)
 have hL:L=(els T.enc T.cur.ps).length:=hL
 subst hL
 dsimp only
 rw [maxI_eq,minI_eq]
 have e03:=e02.trans e3
 have hcutE:cutL (els T.enc T.cur.ps) from_ to=((els T.enc T.cur.ps).take (min to (els T.enc T.cur.ps).length).toNat).drop (max from_ 0).toNat:=rfl
 refine wp_ifB (fun hc=>?_) fun hc=>?_
 ·rw [geI_iff] at hc
  refine s_ret ⟨rfl,rfl,Chg.of_ext e03,⟨none,0,0⟩,oc.ext e03,?_⟩
  have:cutL (els T.enc T.cur.ps) from_ to=[]:=by rw [hcutE]; exact List.drop_of_length_le (by rw [List.length_take]; omega)
  rw [this]; exact OwnL.nil _ _ _
 rw [geI_not] at hc
 generalize hfr:max from_ 0=fr at *
 generalize htt:min to ((els T.enc T.cur.ps).length:Int)=tt at *
 have hfr0:0≤fr:=by omega
 have httL:tt≤(els T.enc T.cur.ps).length:=by omega
 have t3:=t.ext e03
 refine s_cel (b:=.ptr) (x:=some T.p) (o1.ext (e2.trans e3)) (wp_call (c_find t3 hfr0 (by omega)) fun ⟨(i':Int),(m':Int),_⟩ h4 e4 ⟨i,m,hi,hm,fi⟩=>?_)
 have hi:i'=i:=hi
 have hm:m'=m:=hm
 subst hi; subst hm
 dsimp only
 have hil:=fi.1
 have hfe:=fi.2.1
 have hpsl:=pcs_le t.cur.pcs
 have hsm:=t.cur.small
 refine s_newput _ (i64v (m:Int)) rfl fun h5 e5 o5=>s_newput _ (i64v (subI .i64 tt fr)) rfl fun h6 e6 o6=>?_
 rw [sub_ok (by omega) (by omega)] at o6
 have e36:=(e4.trans e5).trans e6
 have e06:=e03.trans e36
 refine s_cel (b:=.ptr) (x:=some T.p) (o1.ext ((e2.trans e3).trans e36)) (s_root (t.ext e06) (wp_call c_ItemsF fun ⟨y,_⟩ h7 e7 hy=>?_))
 obtain ⟨a,b,hy,itr,ha,hb⟩:=hy
 have hy:y=_:=hy
 subst hy
 dsimp only
 have e07:=e06.trans e7
 have t7:=t.ext e07
 generalize hR:els T.enc (T.cur.ps.drop i)=R
 have hsplit:els T.enc T.cur.ps=els T.enc (T.cur.ps.take i)++R:=by rw [← hR, ← els_append,List.take_append_drop]
 have hRl:R.length+(els T.enc (T.cur.ps.take i)).length=(els T.enc T.cur.ps).length:=by rw [hsplit,List.length_append]; omega
 rw [← els_len] at hfe
 have hfm:fr.toNat=(els T.enc (T.cur.ps.take i)).length+m:=by omega
 generalize hcnt:(tt-fr).toNat=cnt
 have hres:(R.take (m+cnt)).drop m=cutL (els T.enc T.cur.ps) from_ to:=by
  rw [hcutE]
  have h1:tt.toNat=fr.toNat+cnt:=by omega
  have hd:∀ A:List El,(A++R).drop (A.length+m)=R.drop m:=fun A=>by rw [← List.drop_drop,List.drop_left' rfl]
  rw [List.drop_take,List.drop_take,h1,Nat.add_sub_cancel_left,Nat.add_sub_cancel_left,hfm,hsplit,hd]
 have s12:=e1.size; have s23:=e3.size; have s45:=e5.size
 have g1:h1.size<h2.size+0:=by omega
 have p2:h1.size<h2.size:=by omega
 have p5:h4.size<h5.size:=(o5.lt rfl).2
 have p6:h5.size<h6.size:=(o6.lt rfl).2
 have s4:=e4.size; have s7:=e7.size
 let A1:Addr:=⟨h.size,0,none⟩
 let A2:Addr:=⟨h1.size,0,none⟩
 let A7:Addr:=⟨h4.size,0,none⟩
 let A8:Addr:=⟨h5.size,0,none⟩
 let V:Nat→Nat:=fun k=>(els T.enc ((T.cur.ps.drop i).take k)).length
 let J:Nat→Heap→Prop:=fun k h'=>∃ s,WJ S P n T h h7.size m0 A1 A2 A7 A8 cc see f R m cnt (V k) h' s∧V k-m<cnt
 let F:Nat→Heap→Prop:=fun tg h'=>tg=1∧∃ s,WJ S P n T h h7.size m0 A1 A2 A7 A8 cc see f R m cnt (m+cnt) h' s
 have hz:∀ i,T.Z i→i<h.size:=fun i hi=>(lo i hi).2
 have stab:∀ {v s a b},WJ S P n T h h7.size m0 A1 A2 A7 A8 cc see f R m cnt v a s→Chg (own h7.size 4) a b→WJ S P n T h h7.size m0 A1 A2 A7 A8 cc see f R m cnt v b s:=fun j c=>
  j.chg c (fun i o=>⟨o.1,fun x hx e=>by have:=(j.sb x hx).1; have:=o.2; omega⟩) hz
 have J0:J 0 h7:=by
  refine ⟨⟨none,0,0⟩,⟨Chg.of_ext e07,Nat.le_refl _,t7,(o1.ext (((e2.trans e3).trans e36).trans e7)),(o2.ext ((e3.trans e36).trans e7)).mono e1.size,?_,?_,oc.ext e07,?_,fun x hx=>(by cases hx),?_⟩,?_⟩
  ·have:V 0=0:=rfl
   rw [this,Nat.sub_zero]; exact (o5.ext (e6.trans e7)).mono (by have:=e03.size; omega)
  ·have h1:V 0=0:=rfl
   rw [h1,Nat.zero_sub,Nat.sub_zero]
   have h2:((cnt:Nat):Int)=tt-fr:=by omega
   rw [h2]; exact (o6.ext e7).mono (by have:=e03.size; omega)
  ·have:V 0=0:=rfl
   rw [this]; simp; exact OwnL.nil _ _ _
  ·refine ⟨?_,?_,?_,?_,hcl,e07.size⟩
   ·show h.size<h7.size; omega
   ·show h1.size<h7.size; omega
   ·show h4.size<h7.size; omega
   ·show h5.size<h7.size; omega
  ·have:V 0=0:=rfl
   omega
 have hbm:m≤1099511627776∧cnt≤1099511627776:=by omega
 refine wp_rangeP C t7 (i:=(i:Int)) (fits_i64.2 (by omega)) itr J F (fun k a b ⟨s,j,l⟩ c=>⟨s,stab j c,l⟩) (fun k a b ⟨h1,s,j⟩ c=>⟨h1,s,stab j c⟩) ?_ J0 ?_
 ·rintro k q h8 c hq ⟨s,j,hlt⟩ hs8 ocP
  rw [Int.toNat_natCast] at hq
  have hqm:=List.mem_of_mem_drop (List.mem_of_getElem? hq)
  have pc0:=t.cur.pcs q hqm
  have hby:=pc0.bytes
  have okt:=okT_toks (enc:=T.enc) hby
  have hVs:V (k+1)=V k+(toks T.enc q.2).length:=by
   show (els T.enc ((T.cur.ps.drop i).take (k+1))).length=(els T.enc ((T.cur.ps.drop i).take k)).length+_
   rw [List.take_add_one,hq,els_append,List.length_append]
   congr 1
   show (els T.enc [q]).length=_
   rw [els_one,elsP_len]
  have hRs:R=els T.enc ((T.cur.ps.drop i).take k)++elsP T.enc q++els T.enc ((T.cur.ps.drop i).drop (k+1)):=by rw [← hR]; exact els_split hq
  have hRq:∀ w E,(elsP T.enc q)[w]? = some E→R[V k+w]? = some E:=fun w E hE=>by
   have hwl:=(List.getElem?_eq_some_iff.1 hE).1
   rw [hRs,List.append_assoc,List.getElem?_append_right (by show (els T.enc ((T.cur.ps.drop i).take k)).length≤V k+w; exact Nat.le_add_right _ _)]
   have:V k+w-(els T.enc ((T.cur.ps.drop i).take k)).length=w:=by show (els T.enc ((T.cur.ps.drop i).take k)).length+w-_=w; omega
   rw [this,List.getElem?_append_left hwl]; exact hE
  have hVR:V k+(toks T.enc q.2).length≤R.length:=by
   rw [hRs,List.length_append,List.length_append,elsP_len]
   show (els T.enc ((T.cur.ps.drop i).take k)).length+_≤(els T.enc ((T.cur.ps.drop i).take k)).length+_+_; omega
  let W:Nat→Prop:=fun i=>own h7.size 4 i∨((T.Z i∨i=a.block∨i=b.block)∧i<h7.size)
  have hW:∀ i,W i→i≠A7.block∧i≠A8.block∧i≠cc.block∧i<h7.size+4:=fun i hw=>by
   show i≠h4.size∧i≠h5.size∧i≠cc.block∧i<h7.size+4
   rcases hw with o | ⟨hz' | hz' | hz',hlt⟩
   ·have:=o.1; have:=o.2; omega
   ·have:=hz i hz'; have:i≠cc.block:=fun e=>hcz (e ▸ hz'); omega
   ·omega
   ·omega
  refine wp_whileG (G:=Nat) (fun w (r:Int×Unit) h'=>w≤(toks T.enc q.2).length∧r.1=offs ((toks T.enc q.2).take w)∧Held W h8 h'∧OwnP (h7.size+4) h' c q.1∧∃ s,WJ S P n T h h7.size m0 A1 A2 A7 A8 cc see f R m cnt (V k+w) h' s∧V k+w-m<cnt) (fun w=>(toks T.enc q.2).length-w)
   (fun tg vs h'=>vs=[]∧Held W h8 h'∧((tg=4∧J (k+1) h')∨(tg=1∧F 1 h'))) 0 ⟨Nat.zero_le _,rfl,Held.refl _ _,ocP,s,j,hlt⟩ ?_ ?_
  ·rintro w ⟨(at_:Int),u⟩ h9 ⟨hw,hat,H9,oc9,s9,j9,hlt9⟩
   dsimp only at hat ⊢
   subst hat
   obtain ⟨hbn,htk⟩:=toks_at (enc:=T.enc) hby w hw
   have hle:=hbn.le hby
   have pc9:=j9.t.cur.pcs q hqm
   have hq9:Sw.cell h9 (c.add 0)=some (slv q.1.1):=cells_iff.1 oc9.cells 0 _ rfl
   have hql:=pc0.lst.len
   have hlen:=pc0.len
   refine wp_grd rfl (wp_load1 (b:=.sl) (c.add 0) q.1.1 rfl hq9 (wp_ifB (fun hc=>?_) fun hc=>?_))
   ·rw [ltI_iff,natI_def,hql] at hc
    have hkl:offs ((toks T.enc q.2).take w)<q.2.length:=by omega
    have htc:=toks_cons (enc:=T.enc) (hby.drop (offs ((toks T.enc q.2).take w))) (by rw [List.length_drop]; omega)
    rw [htk] at htc
    have hwlt:w<(toks T.enc q.2).length:=by
     by_cases hx:w<(toks T.enc q.2).length
     ·exact hx
     ·rw [List.drop_of_length_le (by omega)] at htc; cases htc
    rw [List.drop_eq_getElem_cons hwlt,List.cons.injEq] at htc
    have hget:=elsP_get (enc:=T.enc) (q:=q) (List.getElem?_eq_getElem hwlt)
    have hsz:=okt _ (List.getElem_mem hwlt)
    have hfa:=toks_fits (enc:=T.enc) hby _ (List.getElem_mem hwlt)
    have hoff:offs ((toks T.enc q.2).take (w+1))=offs ((toks T.enc q.2).take w)+(toks T.enc q.2)[w].2.toNat:=by
     rw [List.take_add_one,List.getElem?_eq_getElem hwlt,offs_append]; simp [offs]
    refine s_cel (b:=.ptr) (x:=some T.p) j9.o1 (s_enc j9.t (wp_grd rfl (wp_load1 (b:=.sl) (c.add 0) q.1.1 rfl hq9 (wp_call (c_Next M pc9.lst) fun ⟨(x:Int),(sz:Int),_⟩ h10 e10 hx=>?_))))
    have hx:(x,sz)=firstF T.enc (q.2.drop (offs ((toks T.enc q.2).take w))):=by
     rcases hx with ⟨hno,_,_⟩ | ⟨_,_,_,hx⟩
     ·rcases hno with h | h | h
      ·exact absurd t.enc h
      ·omega
      ·omega
     ·rw [Int.toNat_natCast] at hx; exact hx
    rw [← htc.1] at hx
    have hx1:x=(toks T.enc q.2)[w].1:=congrArg Prod.fst hx
    have hx2:sz=(toks T.enc q.2)[w].2:=congrArg Prod.snd hx
    dsimp only
    generalize hEE:((toks T.enc q.2)[w].1,if q.1.2.1<0 then (-1:Int) else q.1.2.1+(offs ((toks T.enc q.2).take w):Int))=E at hget
    have hE1:x=E.1:=by rw [hx1, ← hEE]
    have htg:=pc0.tag
    rw [hE1]
    refine wp_bind _ (c_pass (nr:=0) (W:=W) (tag:=q.1.2.1) (at_:=(offs ((toks T.enc q.2).take w):Nat)) (c:=c) (E:=E) hs (j9.ext e10 hz) hm0 hz hcz ⟨by show h.size≠h4.size; have:=e03.size; omega,by show h.size≠h5.size; have:=e03.size; omega,by show h1.size≠h4.size; omega,by show h1.size≠h5.size; omega,by show h4.size≠h5.size; omega⟩
     ⟨Nat.le_refl _,e1.size,by show h.size≤h4.size; have:=e03.size; omega,by show h.size≤h5.size; have:=e03.size; omega⟩ (hRq w E hget) hlt9 ⟨hbm.1,hbm.2,by omega⟩ (oc9.ext e10) rfl (by rw [← hEE]) ⟨by rw [← hEE]; exact hfa,by rw [← hEE,fits_i64]; dsimp only; split <;> omega,by omega,by omega⟩ hW) ?_
    rintro tg vs h11 ⟨rfl,H11,oc11,s11,j11,⟨rfl,hl11⟩ | ⟨rfl,hl11⟩⟩
    ·have HH:=(H9.trans (Held.of_ext e10)).trans H11
     refine s_skip (by decide) (s_tag (s_cast0 ?_))
     rw [add_ok (by omega) (by omega)]
     refine s_ret ⟨fun _=>⟨w+1,(_,()),rfl,⟨hwlt,?_,HH,oc11,s11,j11,hl11⟩,by omega⟩,fun h=>absurd rfl h⟩
     show _=((offs ((toks T.enc q.2).take (w+1)):Nat):Int)
     rw [hoff]; omega
    ·have HH:=(H9.trans (Held.of_ext e10)).trans H11
     refine s_tag (s_cast0 (s_ret ⟨fun h=>absurd h (by decide),fun _=>⟨rfl,HH, .inr ⟨rfl,rfl,s11,?_⟩⟩⟩))
     rw [← hl11]; exact j11
   ·rw [ltI_not,natI_def,hql] at hc
    have hwe:w=(toks T.enc q.2).length:=by
     have:(toks T.enc q.2).drop w=[]:=by rw [← htk]; exact toks_nil (by rw [List.length_drop]; omega)
     rw [List.drop_eq_nil_iff] at this; omega
    subst hwe
    refine s_ret ⟨fun h=>absurd h (by decide),fun _=>⟨rfl,H9, .inl ⟨rfl,s9,?_⟩⟩⟩
    show WJ S P n T h h7.size m0 A1 A2 A7 A8 cc see f R m cnt (V (k+1)) h9 s9∧V (k+1)-m<cnt
    rw [hVs]; exact ⟨j9,hlt9⟩
  ·rintro tg vs h9 ⟨rfl,H9,⟨rfl,j9⟩ | ⟨rfl,f9⟩⟩
   ·exact s_tag (s_cast0 (s_ret ⟨H9,fun _=>j9,fun h=>absurd rfl h⟩))
   ·exact s_skip (by decide) (s_tag (s_cast0 (s_ret ⟨H9,fun h=>absurd h (by decide),fun _=>f9⟩)))
 ·intro k h8 hs8 hx
  rcases hx with ⟨rfl,s,j,hlt⟩ | ⟨hk0,rfl,s,j⟩
  ·exfalso
   have hV:V (T.cur.ps.drop i).length=R.length:=by
    show (els T.enc ((T.cur.ps.drop i).take (T.cur.ps.drop i).length)).length=_
    rw [List.take_length,hR]
   rw [Int.toNat_natCast,hV] at hlt
   omega
  ·refine s_tag (s_ret ⟨Held.refl _ _,fun h9 c9 _=>?_⟩)
   have j9:=stab j (c9.mono fun i _ o=>⟨o.1,by have:=o.2; omega⟩)
   refine ⟨rfl,rfl,j9.c,s,j9.oc,?_⟩
   have:=j9.ol
   rw [hres] at this; exact this
theorem c_Atoms (M:Meth0 P S) (C:Cl0 P S) {n:Nat} {T:TX} {from_ to:Int} (t:TextR S n h T) (hto:fitsI .i64 to):Gives P (F_Text_Atoms S (some T.p) from_ to) [.one .sl] h fun (y:Sl×Unit) h'=>OwnL h.size .i64 h' y.1 ((cutL (els T.enc T.cur.ps) from_ to).map (·.1)):=by
 unfold F_Text_Atoms Gives
 refine s_new1 _ fun h1 e1 o1 z1=>wp_callW (c_walkT M C (t.ext e1) (see_atoms C _) o1 e1.size (fun hz=>by have:h.size<h.size:=(t.lo _ hz).2; omega) hto) fun tg vs h2 hx=>?_
 obtain ⟨rfl,rfl,c2,s,o2,ol⟩:=hx
 refine ⟨rfl,(),rfl,s_cel (b:=.sl) (x:=s) o2 (s_ret ⟨rfl,?_,(s,()),rfl,ol⟩)⟩
 exact Keep.chg (e1.keep (Nat.le_refl _)) c2 e1.size fun i e=>Nat.le_of_eq e.symm
theorem c_TagsT (M:Meth0 P S) (C:Clt P S) {n:Nat} {T:TX} {from_ to:Int} (t:TextR S n h T) (hto:fitsI .i64 to):Gives P (F_Text_Tags S (some T.p) from_ to) [.one .sl] h fun (y:Sl×Unit) h'=>OwnL h.size .i64 h' y.1 ((cutL (els T.enc T.cur.ps) from_ to).map (·.2)):=by
 unfold F_Text_Tags Gives
 refine s_new1 _ fun h1 e1 o1 z1=>wp_callW (c_walkT M C (t.ext e1) (see_tagsT C _) o1 e1.size (fun hz=>by have:h.size<h.size:=(t.lo _ hz).2; omega) hto) fun tg vs h2 hx=>?_
 obtain ⟨rfl,rfl,c2,s,o2,ol⟩:=hx
 refine ⟨rfl,(),rfl,s_cel (b:=.sl) (x:=s) o2 (s_ret ⟨rfl,?_,(s,()),rfl,ol⟩)⟩
 exact Keep.chg (e1.keep (Nat.le_refl _)) c2 e1.size fun i e=>Nat.le_of_eq e.symm
end Go.Sw.Piece

set_option linter.unusedVariables false
set_option linter.unusedSimpArgs false
set_option maxRecDepth 100000
namespace Go.Sw.Piece
open Go.Sw.Any Go.Sw.Codec
open Go.Sw.Tree (iv s_putAll s_newP s_getP s_getT s_putP eqI_self Placed cell_own wp_whileG minI_eq)
variable {P:Program} {S:Ids} {h:Heap} {Q:Nat→List Value→Heap→Prop}
theorem s_copyAll {n:Nat} {k:IntKind} {s x:Sl} {old l:List Int} {K:Nat→Prog} (ho:OwnL n k h s old) (hx:Lst k h x l) (hl:l.length=old.length)
  (hk:∀ h',OwnL n k h' s l→Upd s h h'→wp P (K l.length) h' Q):wp P (.copy 1 s x K) h Q:=by
 cases l with
 | nil=>
  have h0:old=[]:=List.eq_nil_of_length_eq_zero hl.symm
  subst h0
  have hs:s.len=0:=ho.len
  have hxl:x.len=0:=hx.len
  have hmin:min x.len s.len=0:=by omega
  refine ⟨[],?_,?_⟩
  ·rw [hmin]; have:=hx.rd.firsts; rw [hxl] at this; exact this
  ·rw [hmin]
   cases hb:s.base with
   | none=>exact hk h ho ⟨Nat.le_refl _,fun _ _ _=>rfl,fun _ e=>e⟩
   | some a=>exact ⟨trivial,hk h ho ⟨Nat.le_refl _,fun _ _ _=>rfl,fun _ e=>e⟩⟩
 | cons y l=>
  have:=s_copyAt (P:=P) (Q:=Q) (K:=K) (s:=s) (x:=x) (pre:=[]) (mid:=old) (post:=[]) (l:=y::l) (i:=0) (by simpa using ho) hx hl (by simp) rfl fun h' o u z=>hk h' (by simpa using o) u
  rw [cutBase_zero,show subN s.len 0=s.len from rfl,show subN s.cap 0=s.cap from rfl] at this
  exact this
theorem elsF_append (tag:Int):∀ (a b:List (Int×Int)) (o:Nat),elsF tag o (a++b)=elsF tag o a++elsF tag (o+offs a) b
 | [],b,o=>by simp [elsF,offs]
 | x::a,b,o=>by simp only [List.cons_append,elsF,elsF_append tag a b,offs_cons,Nat.add_assoc]
def Ld (enc:Int) (lo:Sl) (l:List Int) (q:Pc):Prop:=∃ a e:Nat,a<e∧e≤l.length∧q.2=(l.take e).drop a∧q.1=mkP ⟨cutBase lo.base e a 1,e-a,e-a⟩ a (toks enc q.2)
theorem ld_pcr {m:Nat} {T:TX} {enc:Int} {lo:Sl} {l:List Int} {q:Pc} (ol:OwnL m .u8 h lo l) (hT:T.enc=enc) (had:T.ad=⟨none,0,0⟩) (hz:∀ b,lo.base=some b→T.Z b.block∧b.block≠T.p.block) (hlen:l.length≤65536) (ld:Ld enc lo l q):PcR h T q:=by
 obtain ⟨a,e,hae,hel,h2,h1⟩:=ld
 have hlol:=ol.len
 have hcap:=ol.lst.cap
 have hmax:=ol.lst.max
 have hl1:=(ol.lst.take (n:=e) (m:=e) hel (Nat.le_refl _) (by omega)).tail (i:=a) (by rw [List.length_take]; omega)
 dsimp only at hl1
 have hl2:q.2.length=e-a:=by rw [h2,List.length_drop,List.length_take]; omega
 have hb:q.1.1=⟨cutBase lo.base e a 1,e-a,e-a⟩:=by rw [h1]; rfl
 have ht:q.1.2.1=a:=by rw [h1]; rfl
 refine ⟨by rw [hb,h2]; exact hl1,by omega,by rw [hT,hb,ht]; exact h1,by rw [ht]; omega,by omega,fun x hx=>?_⟩
 rw [hb] at hx
 have hx:cutBase lo.base e a 1=some x:=hx
 unfold cutBase at hx
 rw [if_neg (by omega)] at hx
 cases hlb:lo.base with
 | none=>rw [hlb] at hx; simp at hx
 | some b=>
  rw [hlb] at hx
  have hx:b.add (a*1)=x:=Option.some.inj hx
  subst hx
  rw [add_block]
  exact ⟨(hz b hlb).1,(hz b hlb).2,fun c hc=>by rw [had] at hc; cases hc⟩
inductive OpenR (S:Ids) (h0 h:Heap) (enc limit:Int) (l:List Int):Option Addr→Int→Prop where
 | enc:¬ known enc→OpenR S h0 h enc limit l none 10
 | arg:known enc→¬ (0≤limit∧limit≤65536)→OpenR S h0 h enc limit l none 1
 | full:known enc→0≤limit∧limit≤65536→limit<l.length→OpenR S h0 h enc limit l none 50
 | ok (T:TX):known enc→0≤limit∧limit≤65536→l.length≤limit→TextR S h0.size h T→T.enc=enc→T.limit=limit→T.kept=[]→T.A=[]→els enc T.cur.ps=elsF 0 0 (toks enc l)→bytesL T.cur.ps=l→(∀ i,T.Z i→h0.size≤i)→OpenR S h0 h enc limit l (some T.p) 0
theorem c_Open (M:Meth0 P S) {enc limit:Int} {b:Sl} {l:List Int} (hb:Lst .u8 h b l) :
  Gives P (F_piece_Open S enc b limit) [.one .ptr, .one (.int .i64)] h fun (y:Option Addr×Int×Unit) h'=>OpenR S h h' enc limit l y.1 y.2.1:=by
 unfold F_piece_Open Gives
 have hbl:=hb.len
 have hby:isBytes l:=hb.wf
 refine bind_bool (¬ known enc) ?_ fun bb h1 e1 h1b=>wp_ifB (fun hx=>s_ret ⟨rfl,e1,(none,10,()),rfl, .enc (h1b.1 hx)⟩) fun hx=>?_
 ·unfold known
  refine wp_ifB (fun hc=>s_ret ⟨rfl,Ext.refl _,true,rfl,?_⟩) fun hc=>s_ret ⟨rfl,Ext.refl _,_,rfl,?_⟩
  ·rw [ltI_iff] at hc; exact Iff.intro (fun _=>by omega) fun _=>rfl
  ·rw [ltI_not] at hc; rw [gtI_iff]; omega
 have he:known enc:=by
  by_cases hk:known enc
  ·exact hk
  ·rw [h1b.2 hk] at hx; cases hx
 refine bind_bool (¬ (0≤limit∧limit≤65536)) ?_ fun bb h2 e2 h2b=>wp_ifB (fun hx=>s_ret ⟨rfl,e1.trans e2,(none,1,()),rfl, .arg he (h2b.1 hx)⟩) fun hx=>?_
 ·refine wp_ifB (fun hc=>s_ret ⟨rfl,Ext.refl _,true,rfl,?_⟩) fun hc=>s_ret ⟨rfl,Ext.refl _,_,rfl,?_⟩
  ·rw [ltI_iff] at hc; exact Iff.intro (fun _=>by omega) fun _=>rfl
  ·rw [ltI_not] at hc; rw [gtI_iff]; omega
 have hlim:0≤limit∧limit≤65536:=by
  by_cases hk:0≤limit∧limit≤65536
  ·exact hk
  ·rw [h2b.2 hk] at hx; cases hx
 have e02:=e1.trans e2
 refine wp_ifB (fun hc=>s_ret ⟨rfl,e02,(none,50,()),rfl, .full he hlim (by rw [gtI_iff,natI_def,hbl] at hc; omega)⟩) fun hc=>?_
 rw [gtI_not,natI_def,hbl] at hc
 have hnat:natI b.len=(l.length:Int):=by rw [natI_def,hbl]
 rw [hnat]
 have okt:=okT_toks (enc:=enc) hby
 have htl:=toks_len (enc:=enc) hby
 have hto:=toks_offs (enc:=enc) hby
 refine s_mkZ (k:=.u8) (by omega) (by omega) fun h3 lo e3 olo=>s_copyAll olo (hb.ext (e02.trans e3)) (by simp) fun h4 ol4 u4=>?_
 have e24:Ext h2 h4:=Upd.extN e3 u4 (fun a ha=>(olo.own.lt ha).1)
 have hlol:=ol4.len
 refine fun el=>?_
 have e5:Ext h4 (h4.push (.cells [i64v enc,i64v limit, .pointer none, .slice none 0 0].toArray el)):=Ext.push ..
 have o5:Own h4.size 1 (h4.push (.cells [i64v enc,i64v limit, .pointer none, .slice none 0 0].toArray el)) ⟨some ⟨h4.size,0,none⟩,4,4⟩ [i64v enc,i64v limit, .pointer none, .slice none 0 0]:=own_alloc rfl (by decide) (by decide)
 generalize h4.push (.cells [i64v enc,i64v limit, .pointer none, .slice none 0 0].toArray el)=h5 at e5 o5 ⊢
 have e05:=(e02.trans e24).trans e5
 have ol5:=ol4.ext e5
 have hcapL:=ol5.lst.cap
 have hmaxL:=ol5.lst.max
 refine wp_whileG (G:=Nat×List Pc) (fun g (r:Sl×Int×Unit) h'=>g.1≤(toks enc l).length∧r.2.1=offs ((toks enc l).take g.1)∧Ext h5 h'∧OwnPs h5.size h' r.1 (g.2.map (·.1))∧(∀ q,q∈g.2→Ld enc lo l q)∧els enc g.2=elsF 0 0 ((toks enc l).take g.1)∧bytesL g.2=l.take (offs ((toks enc l).take g.1))∧g.2.length≤g.1) (fun g=>(toks enc l).length-g.1)
  (fun tg vs h'=>tg=3∧Ext h5 h'∧∃ (s:Sl) (ps:List Pc),vs=[slv s]∧OwnPs h5.size h' s (ps.map (·.1))∧(∀ q,q∈ps→Ld enc lo l q)∧els enc ps=elsF 0 0 (toks enc l)∧bytesL ps=l) (0,[]) ⟨Nat.zero_le _,rfl,Ext.refl _,Own.nil _ _ _,(fun q hq=>by cases hq),rfl,by simp [bytesL,offs],Nat.le_refl _⟩ ?_ ?_
 ·rintro ⟨k,ps⟩ ⟨(s:Sl),(at_:Int),u⟩ h6 ⟨hk,hat,e6,os,hld,hel,hbs,hpn⟩
  dsimp only at hk hat os hld hel hbs hpn ⊢
  subst hat
  have hbk:=toks_at (enc:=enc) hby k hk
  have hkl:=hbk.1.le hby
  have hLn:natI lo.len=(l.length:Int):=by rw [natI_def,hlol]
  rw [hLn]
  refine wp_ifB (fun hc=>?_) fun hc=>?_
  ·rw [ltI_iff] at hc
   have hklt:k<(toks enc l).length:=by
    by_cases hx:k<(toks enc l).length
    ·exact hx
    ·rw [List.take_of_length_le (by omega),hto] at hc; omega
   have ol6:=ol5.ext e6
   refine wp_whileG (G:=Nat) (fun w (r:Int×Int×Unit) h'=>k+w≤(toks enc l).length∧w≤128∧r.1=offs ((toks enc l).take (k+w))∧r.2.1=w∧Ext h6 h') (fun w=>(toks enc l).length-w)
    (fun tg vs h'=>tg=5∧Ext h6 h'∧∃ w,1≤w∧k+w≤(toks enc l).length∧vs=[i64v (offs ((toks enc l).take (k+w)))]) 0 ⟨by omega,by omega,rfl,rfl,Ext.refl _⟩ ?_ ?_
   ·rintro w ⟨(en:Int),(n:Int),u⟩ h7 ⟨hkw,hw,hen,hn,e7⟩
    dsimp only at hen hn ⊢
    subst hen; subst hn
    obtain ⟨hbn,htk⟩:=toks_at (enc:=enc) hby (k+w) hkw
    have hle:=hbn.le hby
    have hmono:offs ((toks enc l).take k)≤offs ((toks enc l).take (k+w)):=by
     have:(toks enc l).take k=((toks enc l).take (k+w)).take k:=by rw [List.take_take,Nat.min_eq_left (by omega)]
     rw [this]; exact offs_take_le _ _
    refine bind_bool (offs ((toks enc l).take (k+w))<l.length∧w<128) ?_ fun bb h8 e8 hb8=>wp_ifB (fun hx=>?_) fun hx=>?_
    ·refine wp_ifB (fun hc=>s_ret ⟨rfl,Ext.refl _,_,rfl,?_⟩) fun hc=>s_ret ⟨rfl,Ext.refl _,false,rfl,?_⟩
     ·rw [ltI_iff] at hc ⊢; omega
     ·rw [ltI_not] at hc; exact Iff.intro (fun h=>by cases h) fun h=>by omega
    ·obtain ⟨hlt,hw128⟩:=hb8.1 hx
     have hwlt:k+w<(toks enc l).length:=by
      by_cases hx:k+w<(toks enc l).length
      ·exact hx
      ·rw [List.take_of_length_le (by omega),hto] at hlt; omega
     have htc:=toks_cons (enc:=enc) (hby.drop (offs ((toks enc l).take (k+w)))) (by rw [List.length_drop]; omega)
     rw [htk,List.drop_eq_getElem_cons hwlt,List.cons.injEq] at htc
     have hsz:=okt _ (List.getElem_mem hwlt)
     have hoff:offs ((toks enc l).take (k+(w+1)))=offs ((toks enc l).take (k+w))+(toks enc l)[k+w].2.toNat:=by
      rw [show k+(w+1)=(k+w)+1 by omega,List.take_add_one,List.getElem?_eq_getElem hwlt,offs_append]; simp [offs]
     refine wp_call (c_Next M (ol6.ext (e7.trans e8)).lst) fun ⟨(x:Int),(sz:Int),_⟩ h9 e9 hx9=>?_
     have hx9:(x,sz)=firstF enc (l.drop (offs ((toks enc l).take (k+w)))):=by
      rcases hx9 with ⟨hno,_,_⟩ | ⟨_,_,_,hx⟩
      ·rcases hno with h | h | h
       ·exact absurd he h
       ·omega
       ·omega
      ·rw [Int.toNat_natCast] at hx; exact hx
     rw [← htc.1] at hx9
     have hx2:sz=(toks enc l)[k+w].2:=congrArg Prod.snd hx9
     dsimp only
     rw [add_ok (by omega) (by omega),add_ok (a:=(w:Int)) (by omega) (by omega)]
     refine s_ret ⟨fun _=>⟨w+1,(_,_,()),rfl,⟨by omega,by omega,?_,by dsimp only; omega,(e7.trans e8).trans e9⟩,by omega⟩,fun h=>absurd rfl h⟩
     dsimp only
     rw [hoff]; omega
    ·have hno:¬ (offs ((toks enc l).take (k+w))<l.length∧w<128):=fun k=>by rw [hb8.2 k] at hx; cases hx
     refine s_ret ⟨fun h=>absurd h (by decide),fun _=>⟨rfl,e7.trans e8,w,?_,hkw,rfl⟩⟩
     by_cases h0:w=0
     ·subst h0; exact absurd ⟨by rw [Nat.add_zero]; omega,by omega⟩ hno
     ·omega
   ·rintro tg vs h7 ⟨rfl,e7,w,hw1,hkw,rfl⟩
    refine s_tag (s_castI ?_)
    have hbn:=(toks_at (enc:=enc) hby (k+w) hkw).1
    have hle:=hbn.le hby
    have htt:=toks_take (enc:=enc) hby (k+w) hkw
    have hsub:((toks enc l).take (k+w)).take k=(toks enc l).take k:=by rw [List.take_take,Nat.min_eq_left (by omega)]
    have hoapp:=offs_append (((toks enc l).take (k+w)).take k) (((toks enc l).take (k+w)).drop k)
    rw [List.take_append_drop,hsub] at hoapp
    have hpos:=offs_pos (((okt.take (k+w)).drop k)) (by rw [List.length_drop,List.length_take]; omega)
    have htd:=(toks_at (enc:=enc) (hby.take (offs ((toks enc l).take (k+w)))) k (by rw [htt,List.length_take]; omega)).2
    rw [htt,hsub] at htd
    generalize hA:offs ((toks enc l).take k)=A at *
    generalize hE:offs ((toks enc l).take (k+w))=E at *
    have hAE:A<E:=by omega
    have tA:toN (A:Int)=A:=by rw [toN_def]; omega
    have tE:toN (E:Int)=E:=by rw [toN_def]; omega
    dsimp only
    refine s_grd (andB_iff.2 ⟨leB_ok (by omega) (by omega),andB_iff.2 ⟨leB_ok (by omega) (by rw [tE]; omega),leB_ok (by omega) (by rw [tE]; omega)⟩⟩) ?_
    rw [tA,tE]
    have ol7:=(ol5.ext e6).ext e7
    have hl1:=(ol7.lst.take (n:=E) (m:=E) hle (Nat.le_refl _) (by omega)).tail (i:=A) (by rw [List.length_take]; omega)
    dsimp only at hl1
    refine wp_call (c_newPart M he (tag:=(A:Int)) hl1 (by rw [List.length_drop,List.length_take]; omega)) fun ⟨(y:Part),_⟩ h8 e8 hy=>?_
    have hy:y=mkP ⟨cutBase lo.base E A 1,E-A,E-A⟩ A (toks enc ((l.take E).drop A)):=hy
    dsimp only
    have e68:=e7.trans e8
    have hsl:=OwnPs.len os
    rw [List.length_map] at hsl
    refine wp_push (n:=h5.size) (new:=Bs.inj PB y) (os.ext e68) (Nat.le_trans e6.size e68.size) rfl (flatP _) rfl (by show (s.len+1)*64≤_; omega) (by omega) fun r h9 a9 b9 u9 d9=>s_ret ⟨fun _=>⟨(k+w,ps++[(y,(l.take E).drop A)]),(r,(E:Int),()),rfl,⟨hkw,by dsimp only; rw [hE],?_,?_,?_,?_,?_,by dsimp only; rw [List.length_append]; simp; omega⟩,by dsimp only; omega⟩,fun h=>absurd rfl h⟩
    ·exact Upd.extN (e6.trans e68) u9 (fun a ha=>(os.lt ha).1)
    ·rw [List.map_append]
     show Own h5.size 7 h9 r (cP (_++[y]))
     rw [cP_append,cP_one]; exact a9
    ·intro q hq
     rcases List.mem_append.1 hq with hq | hq
     ·exact hld q hq
     ·rw [List.mem_singleton.1 hq]
      exact ⟨A,E,hAE,hle,rfl,hy⟩
    ·dsimp only
     rw [els_append,els_one,hel]
     have h1:(toks enc l).take (k+w)=(toks enc l).take k++((toks enc l).take (k+w)).drop k:=by rw [← hsub,List.take_append_drop]
     conv=>rhs; rw [h1]
     rw [elsF_append,hA]
     congr 1
     unfold elsP
     dsimp only
     rw [htd,hy]
     show elsF (A:Int) 0 _=_
     have:(A:Int)=tagF 0 A:=by unfold tagF; simp
     rw [this,elsF_tag]
    ·dsimp only
     rw [bytesL_append,hbs,hE]
     have:l.take A=(l.take E).take A:=by rw [List.take_take,Nat.min_eq_left (by omega)]
     rw [this]
     simp [bytesL,List.take_append_drop]
  ·rw [ltI_not] at hc
   have hke:k=(toks enc l).length:=by
    by_cases hx:k<(toks enc l).length
    ·have h1:=offs_append ((toks enc l).take k) ((toks enc l).drop k)
     rw [List.take_append_drop,hto] at h1
     have:=offs_pos (okt.drop k) (by rw [List.length_drop]; omega)
     omega
    ·omega
   subst hke
   rw [List.take_length] at hel hbs
   rw [hto,List.take_length] at hbs
   exact s_ret ⟨fun h=>absurd h (by decide),fun _=>⟨rfl,e6,s,ps,rfl,os,hld,hel,hbs⟩⟩
 ·rintro tg vs h6 ⟨rfl,e6,s,ps,rfl,os,hld,hel,hbs⟩
  refine s_tag (wp_cast (tys:=[.one .sl]) (s,()) rfl ?_)
  dsimp only
  have e06:=e05.trans e6
  have hlo:∀ b,lo.base=some b→h.size≤b.block∧b.block<h4.size:=fun b hb=>by have:=ol4.own.lt hb; have:=e02.size; omega
  have e04:=e02.trans e24
  let Z:Nat→Prop:=fun i=>h.size≤i
  let T0:TX:={ p:=⟨h4.size,0,none⟩,enc:=enc,limit:=limit,cur:=⟨none, .nil,ps⟩,kept:=[],ad:=⟨none,0,0⟩,A:=[],Z:=Z }
  have pc6:∀ q,q∈ps→PcR h6 T0 q:=fun q hq=>ld_pcr (ol5.ext e6) rfl rfl (fun b hb=>⟨(hlo b hb).1,by show b.block≠h4.size; have:=(hlo b hb).2; omega⟩) (by omega) (hld q hq)
  have hwM:∀ x,x∈ps.map (·.1)→VS (wtP x) (sumP x):=fun x hx=>by
   obtain ⟨q,hq,rfl⟩:=List.mem_map.1 hx
   exact (pc6 q hq).wt.2
  have its:Its (part S Z) h6 s (ps.map (·.1)):=its_own os hwM
  have hfr:Fresh (part S Z) h6:=fun i hi=>Nat.le_trans e06.size hi
  have hWm:((ps.map (·.1)).map wtP).sum=(toksL enc ps).length:=W_ps pc6
  have hmt:=(toksL_le (enc:=enc) fun q hq=>(pc6 q hq).bytes).1
  rw [hbs] at hmt
  have hof:=c_Of (part_ok S Z (P:=P)) its (show (part S Z).W (ps.map (·.1))≤4398046511104 from by
   have:(part S Z).W (ps.map (·.1))=(toksL enc ps).length:=hWm
   rw [this]; omega) hfr
  rw [← g_Of S Z] at hof
  refine wp_call (R:=fun (y:TR×Unit) h'=>∃ t':Bt Part,Nd (part S Z) h' y.1.1 t'∧t'.list=ps.map (·.1)) (Gives.mono hof fun y h' e ⟨t',q1,q2,_⟩=>⟨t',q1,q2⟩) fun ⟨⟨(root:Option Addr),_⟩,_⟩ h7 e7 ⟨t',nd,hl'⟩=>?_
  have nd:Nd (part S Z) h7 root t':=nd
  dsimp only
  have o7:=o5.ext (e6.trans e7)
  refine s_setC' (.pointer root) o7 (by simp) rfl fun h8 o8 u8=>?_
  have o8:Own h4.size 1 h8 ⟨some ⟨h4.size,0,none⟩,4,4⟩ [i64v enc,i64v limit, .pointer root, .slice none 0 0]:=o8
  have e08:Ext h h8:=Upd.extN (e06.trans e7) u8 (by intro x hx; cases hx; exact e04.size)
  have ol8:OwnL h2.size .u8 h8 lo l:=((ol5.ext e6).ext e7).upd u8 fun x y hx hy=>by cases hy; have:=(hlo x hx).2; show h4.size≠x.block; omega
  have hp8:h4.size<h8.size:=(o8.lt rfl).2
  let T:TX:={ p:=⟨h4.size,0,none⟩,enc:=enc,limit:=limit,cur:=⟨root,t',ps⟩,kept:=[],ad:=⟨none,0,0⟩,A:=[],Z:=fun i=>h.size≤i∧i<h8.size }
  have nd8:Nd (part S Z) h8 root t':=nd.updK u8 fun b hb=>by
   cases hb
   have:=cells_iff.1 o7.cells 0 _ rfl
   rw [add_zero'] at this
   exact ⟨_,_,this⟩
  refine s_ret ⟨rfl,e08,(some ⟨h4.size,0,none⟩,0,()),rfl, .ok T he hlim (by omega) ⟨he,hlim,o8.mono e04.size,OwnL.nil _ _ _,fun b hb=>(by cases hb),fun b hb=>(by cases hb),⟨part_mono nd8 fun i hi hz=>⟨hz,hi⟩,hl',fun q hq=>ld_pcr ol8 rfl rfl (fun b hb=>⟨⟨(hlo b hb).1,by have:=(hlo b hb).2; omega⟩,by show b.block≠h4.size; have:=(hlo b hb).2; omega⟩) (by omega) (hld q hq),?_⟩,fun s hs=>(by cases hs),⟨e04.size,hp8⟩,fun b hb=>(by cases hb),fun i hi=>hi⟩ rfl rfl rfl rfl hel hbs fun i hi=>hi.1⟩
  show (bytesL ps).length≤_
  rw [hbs]; omega
end Go.Sw.Piece

set_option linter.unusedVariables false
set_option linter.unusedSimpArgs false
set_option maxRecDepth 100000
namespace Go.Sw.Piece
open Go.Sw.Any Go.Sw.Codec
open Go.Sw.Tree (iv s_putAll s_newP s_getP s_getT s_putP eqI_self Placed cell_own wp_whileG minI_eq)
variable {P:Program} {S:Ids} {h:Heap} {Q:Nat→List Value→Heap→Prop}
abbrev SnapR (n:Nat) (h:Heap) (a:Addr) (of:Addr) (s:St):Prop:=Own n 1 h ⟨some a,2,2⟩ [.pointer (some of), .pointer s.root]
theorem TextR.keep {n:Nat} {T:TX} (r:TextR S n h T):TextR S n h { T with kept:=T.cur::T.kept }:=by
 have pc:∀ {q},PcR h T q→PcR h { T with kept:=T.cur::T.kept } q:=fun q=>⟨q.lst,q.ne,q.is,q.tag,q.len,q.blk⟩
 have st:∀ {s},StR S h T s→StR S h { T with kept:=T.cur::T.kept } s:=fun s=>⟨s.nd,s.ls,fun q hq=>pc (s.pcs q hq),s.small⟩
 refine ⟨r.enc,r.lim,r.ob,r.ad,r.adp,r.adk,st r.cur,fun s hs=>?_,r.zp,r.za,r.lo⟩
 rcases List.mem_cons.1 hs with rfl | hs
 ·exact st r.cur
 ·exact st (r.kept s hs)
theorem c_Snap {n:Nat} {T:TX} (t:TextR S n h T):Gives P (F_Text_Snap S (some T.p)) [.one .ptr] h fun (y:Option Addr×Unit) h'=>∃ a,y.1=some a∧SnapR h.size h' a T.p T.cur:=by
 unfold F_Text_Snap Gives
 refine s_root t fun el=>?_
 have e1:Ext h (h.push (.cells [.pointer (some T.p), .pointer T.cur.root].toArray el)):=Ext.push ..
 have o1:Own h.size 1 (h.push (.cells [.pointer (some T.p), .pointer T.cur.root].toArray el)) ⟨some ⟨h.size,0,none⟩,2,2⟩ [.pointer (some T.p), .pointer T.cur.root]:=own_alloc rfl (by decide) (by decide)
 exact s_ret ⟨rfl,e1,(some ⟨h.size,0,none⟩,()),rfl,_,rfl,o1⟩
theorem c_Back {n k:Nat} {T:TX} {a:Addr} {s:St} (t:TextR S n h T) (hn:n≤h.size) (hs:s∈T.kept) (sn:SnapR k h a T.p s) :
  wp P (F_Text_Back S (some T.p) (some a)) h fun tg vs h'=>tg=0∧vs=[i64v 0]∧Chg (wfoot T) h h'∧∃ T',TextR S n h' T'∧Nxt T T' h.size∧T'.cur=s∧T'.A=T.A:=by
 unfold F_Text_Back
 refine bind_bool False (s_ifF (wp_grd rfl (wp_grd rfl (wp_load1 (b:=.ptr) (a.add 0) (some T.p) rfl (cells_iff.1 sn.cells 0 _ rfl) ?_)))) fun bb h1 e1 hb=>wp_ifB (fun hx=>(hb.1 hx).elim) fun _=>?_
 ·refine .inl ⟨rfl,s_ret ⟨rfl,Ext.refl _,_,rfl,?_⟩⟩
  have:(T.p == T.p)=true:=by simp
  rw [this]
  exact Iff.intro (fun h=>by cases h) False.elim
 ·have t1:=t.ext e1
  have s1:=sn.ext e1
  refine wp_grd rfl (wp_grd rfl ⟨a.add 1,rfl,(s.root,()),cells_iff.2 fun j v hj=>?_,?_⟩)
  ·match j,hj with
   | 0,hj=>simp [Ty.cells,Bs.inj] at hj; subst hj; rw [add_zero']; exact cells_iff.1 s1.cells 1 _ rfl
   | j+1,hj=>simp [Ty.cells,Bs.inj] at hj
  ·refine wp_grd rfl (wp_grd rfl (s_setC' (.pointer s.root) t1.ob (by simp) rfl fun h2 o2 u2=>?_))
   have st:=t1.kept s hs
   have o2:Own n 1 h2 ⟨some T.p,4,4⟩ [i64v T.enc,i64v T.limit, .pointer s.root,slv T.ad]:=o2
   have hz:=set_state (T:=T) (ps':=s.ps) t1 (m:=h1.size) (fun i hi=>(t1.lo i hi).2) ⟨Nat.le_trans hn e1.size,Nat.le_refl _⟩ (part_mono st.nd fun i _ hi=>.inl hi) st.ls st.pcs st.small o2 u2
   refine s_ret ⟨rfl,rfl,?_,_,hz,⟨rfl,rfl,rfl,rfl,fun i hi=>⟨.inl hi,by have:=(t1.lo i hi).2; have:=u2.1; omega⟩,fun i hi=>hi.1.imp id fun h=>by have:=e1.size; omega,fun b hb=>.inl hb⟩,rfl,rfl⟩
   exact (Chg.of_ext e1).trans (upd_chg u2) fun i _ e=>.inl e
end Go.Sw.Piece

set_option linter.unusedVariables false
set_option linter.unusedSimpArgs false
set_option maxRecDepth 100000
namespace Go.Sw.Hist
open Go.Sw.Any Go.Sw.Codec Go.Sw.Piece
open Go.Sw.Tree (iv s_putAll s_newP s_getP s_getT s_putP eqI_self Placed cell_own wp_whileG minI_eq)
variable {P:Program} {S:Ids} {h:Heap} {Q:Nat→List Value→Heap→Prop}
abbrev MvSh:Sh:=.str (.pair (.int .i64) (.pair (.int .i64) (.pair (.int .i64) .unit)))
abbrev MvD:=Int×Int×Int×Unit
abbrev Mvs:=Sl×List MvD
def go1 (e:MvD) (s:Int×Bool):Int×Bool:=
 if s.1<e.1 then s else if e.2.1≤s.1 then (s.1+(e.2.2.1-(e.2.1-e.1)),s.2) else (e.1+min (s.1-e.1) e.2.2.1,false)
def goL (m:Int) (l:List MvD):Int×Bool:=l.foldr go1 (m,true)
def MvB (l:List MvD):Prop:=l.length≤131072∧∀ e∈l,0≤e.1∧e.1≤e.2.1∧e.2.1≤2199023255552∧0≤e.2.2.1∧e.2.2.1≤2199023255552
theorem MvB.tail {e:MvD} {l:List MvD} (b:MvB (e::l)):MvB l:=⟨by have:=b.1; simp at this; omega,fun x hx=>b.2 x (List.mem_cons_of_mem _ hx)⟩
theorem MvB.drop {l:List MvD} (b:MvB l) (i:Nat):MvB (l.drop i):=⟨by have:=b.1; rw [List.length_drop]; omega,fun x hx=>b.2 x (List.mem_of_mem_drop hx)⟩
theorem goL_bound {m:Int} (h0:0≤m) (h1:m≤2199023255552):∀ {l:List MvD},MvB l→0≤(goL m l).1∧(goL m l).1≤4398046511104+l.length*2199023255552
 | [],_=>by simp [goL]; omega
 | e::l,b=>by
  have ih:=goL_bound h0 h1 b.tail
  have hb:=b.2 e (List.mem_cons_self ..)
  have e1:goL m (e::l)=go1 e (goL m l):=rfl
  rw [e1]
  unfold go1
  rw [List.length_cons]
  push_cast
  split
  ·omega
  ·split
   ·dsimp only; omega
   ·dsimp only; omega
theorem s_mv {x:Mvs} {e:MvD} {j:Int} {K:Addr→Prog} (ho:(Sh.list MvSh).ok h x) (h0:0≤j) (hj:x.2[j.toNat]? = some e)
  (hk:∀ a h',Ext h h'→Own h.size 1 h' ⟨some a,3,3⟩ [i64v e.1,i64v e.2.1,i64v e.2.2.1]→wp P (K a) h' Q) :
  wp P (grd (andB (someB x.1.base) (inB j x.1.len)) <| .load (.agg [.int .i64, .int .i64, .int .i64]) (shiftTo x.1.base (mulN (toN j) 3)) fun (r:Int×Int×Int×Unit)=>
   .alloc [i64v 0,i64v 0,i64v 0] fun a=>.store (some a) [i64v r.1,i64v r.2.1,i64v r.2.2.1] (K a)) h Q:=by
 refine s_atSh (e:=MvSh) (x:=x) ho h0 hj rfl (z:=(e.1,e.2.1,e.2.2.1,())) rfl ?_
 dsimp only
 refine fun elem=>?_
 have e1:Ext h (h.push (.cells [i64v 0,i64v 0,i64v 0].toArray elem)):=Ext.push ..
 have o1:Own h.size 1 (h.push (.cells [i64v 0,i64v 0,i64v 0].toArray elem)) ⟨some ⟨h.size,0,none⟩,3,3⟩ [i64v 0,i64v 0,i64v 0]:=own_alloc rfl (by decide) (by decide)
 generalize h.push (.cells [i64v 0,i64v 0,i64v 0].toArray elem)=h1 at e1 o1 ⊢
 exact s_putV [i64v e.1,i64v e.2.1,i64v e.2.2.1] o1 rfl (by intro v hv; simp only [List.mem_cons,List.not_mem_nil,or_false] at hv; rcases hv with rfl | rfl | rfl <;> rfl) fun h2 o2 u2 z2=>
  hk _ h2 (Upd.extN e1 u2 (by intro x hx; cases hx; exact Nat.le_refl _)) o2
theorem s_mvI {n:Nat} {a:Addr} {e:MvD} (o:Own n 1 h ⟨some a,3,3⟩ [i64v e.1,i64v e.2.1,i64v e.2.2.1]) :
  (∀ {K:Int→Prog},wp P (K e.1) h Q→wp P (.load (.one (.int .i64)) (shiftTo (some a) 0) K) h Q)∧(∀ {K:Int→Prog},wp P (K e.2.1) h Q→wp P (.load (.one (.int .i64)) (shiftTo (some a) 1) K) h Q) ∧
  (∀ {K:Int→Prog},wp P (K e.2.2.1) h Q→wp P (.load (.one (.int .i64)) (shiftTo (some a) 2) K) h Q):=
 ⟨fun hk=>wp_load1 (b:=.int .i64) _ e.1 rfl (cells_iff.1 o.cells 0 _ rfl) hk,fun hk=>wp_load1 (b:=.int .i64) _ e.2.1 rfl (cells_iff.1 o.cells 1 _ rfl) hk,
  fun hk=>wp_load1 (b:=.int .i64) _ e.2.2.1 rfl (cells_iff.1 o.cells 2 _ rfl) hk⟩
theorem c_goes {x:Mvs} {m:Int} (ho:(Sh.list MvSh).ok h x) (hb:MvB x.2) (h0:0≤m) (h1:m≤2199023255552) :
  Gives P (F_history_goes S m x.1) [.one (.int .i64), .one .bool] h fun (y:Int×Bool×Unit) _=>y.1=(goL m x.2).1∧y.2.1=(goL m x.2).2:=by
 have hxl:=ho.len
 have hlen:=hb.1
 unfold F_history_goes Gives
 have hn:subI .i64 (natI x.1.len) 1=(x.2.length:Int)-1:=by rw [natI_def,hxl]; exact sub_ok (by omega) (by omega)
 rw [hn]
 refine wp_while (fun (s:Int×Bool×Int×Unit) h'=>Ext h h'∧∃ i:Nat,i≤x.2.length∧s.2.2.1=(i:Int)-1∧s.1=(goL m (x.2.drop i)).1∧s.2.1=(goL m (x.2.drop i)).2) (fun s _=>(s.2.2.1+1).toNat)
  (fun t vs h'=>Ext h h'∧t=2∧vs=[i64v (goL m x.2).1, .bool (goL m x.2).2]) ⟨Ext.refl _,x.2.length,Nat.le_refl _,rfl,by simp [goL],by simp [goL]⟩ ?_ ?_
 ·rintro ⟨(m1:Int),(b1:Bool),(i':Int),u⟩ h2 ⟨e2,i,hi,hi',hm,hbb⟩
  dsimp only at hi' hm hbb ⊢
  subst hi'
  refine wp_ifB (fun hc=>?_) fun hc=>?_
  ·rw [geI_iff] at hc
   obtain ⟨j,rfl⟩:∃ j,i=j+1:=⟨i-1,by omega⟩
   have hj:(((j+1:Nat):Int)-1)=(j:Int):=by omega
   rw [hj]
   obtain ⟨e,he⟩:∃ e,x.2[j]? = some e:=⟨x.2[j]'(by omega),List.getElem?_eq_getElem (by omega)⟩
   have hd:x.2.drop j=e::x.2.drop (j+1):=by
    have hlt:=(List.getElem?_eq_some_iff.1 he).1
    rw [← (List.getElem?_eq_some_iff.1 he).2, ← List.drop_eq_getElem_cons hlt]
   have hg:goL m (x.2.drop j)=go1 e (goL m (x.2.drop (j+1))):=by rw [hd]; rfl
   have hbe:=hb.2 e (List.mem_of_getElem? he)
   have hbd:=goL_bound h0 h1 (hb.drop (j+1))
   have hdl:(x.2.drop (j+1)).length≤131072:=(hb.drop (j+1)).1
   rw [← hm] at hbd
   have big:m1≤4398046511104+131072*2199023255552:=by omega
   refine s_bind ?_
   refine s_mv (ho.ext e2) (by omega) (by simpa using he) fun a h3 e3 o3=>?_
   have fin:∀ (v:Int×Bool),go1 e (goL m (x.2.drop (j+1)))=v→∀ h4,Ext h3 h4 →
     wp P (ifB (eqN 0 0) (.cast [.one (.int .i64), .one .bool] [i64v v.1, .bool v.2] fun (r:Int×Bool×Unit)=>.ret 0 [i64v r.1, .bool r.2.1,i64v (subI .i64 (j:Int) 1)]) .fail) h4 (fun tag vs h'=>
      (tag=0→∃ s',vs=Ts.inj [.one (.int .i64), .one .bool, .one (.int .i64)] s'∧(Ext h h'∧∃ i:Nat,i≤x.2.length∧s'.2.2.1=(i:Int)-1∧s'.1=(goL m (x.2.drop i)).1∧s'.2.1=(goL m (x.2.drop i)).2)∧(s'.2.2.1+1).toNat<((j:Int)+1).toNat) ∧
      (tag≠0→Ext h h'∧tag=2∧vs=[i64v (goL m x.2).1, .bool (goL m x.2).2])):=by
    intro v hv h4 e4
    refine s_tag ⟨(v.1,v.2,()),rfl,?_⟩
    dsimp only
    rw [sub_ok (by omega) (by omega)]
    refine s_ret ⟨fun _=>⟨(v.1,v.2,(j:Int)-1,()),rfl,⟨(e2.trans e3).trans e4,j,by omega,rfl,by rw [hg,hv],by rw [hg,hv]⟩,by dsimp only; omega⟩,fun hx=>absurd rfl hx⟩
   obtain ⟨l0,l1,l2⟩:=s_mvI (P:=P) (Q:=fun t vs h'=>wp P ((fun (k109:Nat) (vs110:List Value)=>ifB (eqN k109 0) (.cast [.one (.int .i64), .one .bool] vs110 fun (r:Int×Bool×Unit)=>.ret 0 [i64v r.1, .bool r.2.1,i64v (subI .i64 (j:Int) 1)]) .fail) t vs) h' (fun tag vs h'=>
      (tag=0→∃ s',vs=Ts.inj [.one (.int .i64), .one .bool, .one (.int .i64)] s'∧(Ext h h'∧∃ i:Nat,i≤x.2.length∧s'.2.2.1=(i:Int)-1∧s'.1=(goL m (x.2.drop i)).1∧s'.2.1=(goL m (x.2.drop i)).2)∧(s'.2.2.1+1).toNat<((j:Int)+1).toNat) ∧
      (tag≠0→Ext h h'∧tag=2∧vs=[i64v (goL m x.2).1, .bool (goL m x.2).2]))) o3
   have gv:goL m (x.2.drop (j+1))=(m1,b1):=by rw [hm,hbb]
   rw [gv] at fin
   refine l0 (wp_ifB (fun hd=>s_ret (fin (m1,b1) ?_ _ (Ext.refl _))) fun hd=>l1 (wp_ifB (fun hd2=>l2 (l1 (l0 ?_))) fun hd2=>l0 (l0 (l2 ?_))))
   ·rw [ltI_iff] at hd; unfold go1; rw [if_pos hd]
   ·rw [ltI_not] at hd
    rw [geI_iff] at hd2
    rw [sub_ok (a:=e.2.1) (by omega) (by omega),sub_ok (by omega) (by omega),add_ok (by omega) (by omega)]
    refine s_ret (fin (_,b1) ?_ _ (Ext.refl _))
    unfold go1; rw [if_neg (by omega),if_pos hd2]
   ·rw [ltI_not] at hd
    rw [geI_not] at hd2
    rw [sub_ok (a:=m1) (by omega) (by omega),minI_eq,add_ok (by omega) (by omega)]
    refine s_ret (fin (_,false) ?_ _ (Ext.refl _))
    unfold go1; rw [if_neg (by omega),if_neg (by omega)]
  ·rw [geI_not] at hc
   have:i=0:=by omega
   subst this
   refine s_ret ⟨fun hx=>absurd hx (by decide),fun _=>⟨e2,rfl,?_⟩⟩
   rw [hm,hbb]; rfl
 ·rintro t vs h' ⟨e1,rfl,rfl⟩
  exact s_tag ⟨((goL m x.2).1,(goL m x.2).2,()),rfl,s_ret ⟨rfl,e1,((goL m x.2).1,(goL m x.2).2,()),rfl,rfl,rfl⟩⟩
end Go.Sw.Hist

set_option linter.unusedVariables false
set_option linter.unusedSimpArgs false
set_option maxRecDepth 100000
namespace Go.Sw.Hist
open Go.Sw.Any Go.Sw.Codec Go.Sw.Piece
open Go.Sw.Tree (iv s_putAll s_newP s_getP s_getT s_putP eqI_self Placed cell_own wp_whileG minI_eq)
variable {P:Program} {S:Ids} {h:Heap} {Q:Nat→List Value→Heap→Prop}
def folM (x:List MvD) (l:Ents):Ents:=l.map fun e=>(e.1,(goL e.2.1 x).1,e.2.2)
def wv (x:List MvD) (v:Int):Int:=if v<0 then v else if (goL v x).2 then (goL v x).1 else -1
def folW (x:List MvD) (ws:List Int):List Int:=ws.map (wv x)
def ffoot (m:Nat) (w:Sl) (i:Nat):Prop:=i=m∨∃ a,w.base=some a∧a.block=i
open Classical in
noncomputable def half (g:Int→Int) (told:Ents) (l:Ents):Ents:=l.map fun e=>if e∈told then (e.1,g e.2.1,e.2.2) else e
theorem half_nil (g:Int→Int) (l:Ents):half g [] l=l:=by simp [half]
theorem half_all {g:Int→Int} {told l:Ents} (hp:told.Perm l):half g told l=l.map fun e=>(e.1,g e.2.1,e.2.2):=by
 unfold half
 refine List.map_congr_left fun e he=>?_
 rw [if_pos (hp.mem_iff.2 he)]
theorem half_keys (g:Int→Int) (told l:Ents):(half g told l).map (fun e=>(e.1,e.2.2))=l.map (fun e=>(e.1,e.2.2)):=by
 unfold half
 rw [List.map_map]
 refine List.map_congr_left fun e he=>?_
 simp only [Function.comp]
 split <;> rfl
theorem half_keep {g:Int→Int} {told l:Ents} {e:Int×Int×Nat} (he:e∈l) (hn:e∉told):e∈half g told l:=by
 unfold half
 exact List.mem_map.2 ⟨e,he,if_neg hn⟩
theorem mset_half {g:Int→Int} {told:Ents}:∀ {l:Ents} {e:Int×Int×Nat},(l.map (·.1)).Nodup→e∈l→mset e.1 (g e.2.1) (half g told l)=half g (told++[e]) l:=by
 intro l
 induction l with
 | nil=>intro e _ he; cases he
 | cons a l ih=>
  intro e hn he
  simp only [List.map_cons,List.nodup_cons] at hn
  have e0:half g told (a::l)=(if a∈told then (a.1,g a.2.1,a.2.2) else a)::half g told l:=rfl
  have e1:half g (told++[e]) (a::l)=(if a∈told++[e] then (a.1,g a.2.1,a.2.2) else a)::half g (told++[e]) l:=rfl
  rw [e0,e1]
  have hk:(if a∈told then (a.1,g a.2.1,a.2.2) else a).1=a.1:=by split <;> rfl
  have hb:(if a∈told then (a.1,g a.2.1,a.2.2) else a).2.2=a.2.2:=by split <;> rfl
  simp only [mset,hk,hb]
  by_cases ha:a.1=e.1
  ·rw [if_pos ha]
   have hae:a=e:=by
    rcases List.mem_cons.1 he with h | h
    ·exact h.symm
    ·exact absurd (by rw [ha]; exact List.mem_map_of_mem (f:=(·.1)) h) hn.1
   subst hae
   rw [if_pos (List.mem_append.2 (.inr (List.mem_singleton.2 rfl)))]
   congr 1
   unfold half
   refine List.map_congr_left fun x hx=>?_
   have hxa:x≠a:=fun h=>hn.1 (by rw [← h]; exact List.mem_map_of_mem (f:=(·.1)) hx)
   simp only [List.mem_append,List.mem_singleton,hxa,or_false]
  ·rw [if_neg ha]
   have hel:e∈l:=by
    rcases List.mem_cons.1 he with h | h
    ·exact absurd (by rw [h]) ha
    ·exact h
   rw [ih hn.2 hel]
   congr 1
   have hae:a≠e:=fun h=>ha (by rw [h])
   simp only [List.mem_append,List.mem_singleton,hae,or_false]
theorem half_ok {g:Int→Int} {told l:Ents} {c:Nat} (o:MapOk l c) (hg:∀ e∈l,fitsI .i64 (g e.2.1)):MapOk (half g told l) c:=by
 obtain ⟨h1,h2⟩:=map_fst (half_keys g told l)
 refine ⟨by rw [h1]; exact o.keys,by rw [h2]; exact o.borns,fun e he=>?_,fun e he=>?_⟩
 ·obtain ⟨x,hx,rfl⟩:=List.mem_map.1 he
  have:=o.old x hx
  split <;> exact this
 ·obtain ⟨x,hx,rfl⟩:=List.mem_map.1 he
  have:=o.fk x hx
  split
  ·exact ⟨this.1,hg x hx⟩
  ·exact this
theorem c_follow {n n':Nat} {b:Addr} {vs:List Value} {m:Nat} {l:Ents} {w:Sl} {ws:List Int} {x:Mvs} (ob:Own n 1 h ⟨some b,10,10⟩ vs) (h4:vs[4]? = some (.map (some m))) (h5:vs[5]? = some (slv w))
  (hm:MapR h m l) (hw:OwnL n' .i64 h w ws) (hbw:∀ a,w.base=some a→a.block≠b.block) (hx:∀ h',Chg (ffoot m w) h h'→(Sh.list MvSh).ok h' x) (hb:MvB x.2)
  (hl:∀ e∈l,0≤e.2.1∧e.2.1≤2199023255552) (hws:∀ v∈ws,v≤2199023255552) :
  GivesF (ffoot m w) P (F_Book_follow S (some b) x.1) [] h fun _ h'=>MapR h' m (folM x.2 l)∧OwnL n' .i64 h' w (folW x.2 ws):=by
 unfold F_Book_follow GivesF
 have hbm:m≠b.block:=by
  intro e
  obtain ⟨c,h1,_⟩:=hm
  obtain ⟨_,_,_,o4⟩:=ob
  obtain ⟨_,_,_,cs,el,e3,_⟩:=o4
  rw [e] at h1
  rw [h1] at e3
  cases e3
 have hwm:∀ a,w.base=some a→a.block≠m:=by
  intro a ha e
  obtain ⟨c,h1,_⟩:=hm
  obtain ⟨_,_,_,o4⟩:=hw.own
  rw [ha] at o4
  obtain ⟨_,_,_,cs,el,e3,_⟩:=o4
  rw [e,h1] at e3
  cases e3
 have hnb:¬ ffoot m w b.block:=fun hf=>by
  rcases hf with h | ⟨a,ha,h⟩
  ·exact hbm h.symm
  ·exact hbw a ha h
 have len10:vs.length=10:=by have:=ob.1; simpa using this.symm
 have rd4:∀ {h':Heap} {K:Option Nat→Prog} {Q:Nat→List Value→Heap→Prop},Chg (ffoot m w) h h'→wp P (K (some m)) h' Q→wp P (.load (.one .map) (shiftTo (some b) 4) K) h' Q:=fun u hk=>
  wp_load1 (b:=.map) (b.add 4) (some m) rfl (cells_iff.1 (u.own ob (by intro a ha; cases ha; exact hnb)).cells 4 _ h4) hk
 have rd5:∀ {h':Heap} {K:Sl→Prog} {Q:Nat→List Value→Heap→Prop},Chg (ffoot m w) h h'→wp P (K w) h' Q→wp P (.load (.one .sl) (shiftTo (some b) 5) K) h' Q:=fun u hk=>
  wp_load1 (b:=.sl) (b.add 5) w rfl (cells_iff.1 (u.own ob (by intro a ha; cases ha; exact hnb)).cells 5 _ h5) hk
 have ck4:∀ {h':Heap} {K:Prog} {Q:Nat→List Value→Heap→Prop},Chg (ffoot m w) h h'→wp P K h' Q→wp P (.check (shiftTo (some b) 4) [.map (some m)] K) h' Q:=fun u hk=>
  s_ckC (cells_iff.1 (u.own ob (by intro a ha; cases ha; exact hnb)).cells 4 _ h4) hk
 have gfit:∀ v,0≤v→v≤2199023255552→fitsI .i64 (goL v x.2).1:=fun v h0 h1=>by
  have:=goL_bound h0 h1 hb
  have:=hb.1
  rw [fits_i64]; omega
 refine wp_grd rfl (wp_grd rfl (rd4 (Chg.refl _ _) ?_))
 have hm0:=hm
 obtain ⟨c,hc,ok⟩:=hm
 have hml:=(Array.getElem?_eq_some_iff.1 hc).1
 refine wp_mrange (m:=m) (l:=l) hm0 (by decide) (fun told h1=>Chg (fun i=>i=m) h h1∧∃ c,h1[m]? = some (mapO (half (fun v=>(goL v x.2).1) told l) c)∧h[m]? = some (mapO l c))
  (fun told h1 ⟨_,c,g1,g2⟩=>⟨c,_,g1,g2,half_keys _ _ _,fun e he hn=>half_keep he hn⟩) (fun told h1 h2 ⟨u,c,g1,g2⟩ v=>⟨u.trans v fun i hi e=>by omega,c,by rw [v.2.1 m (Array.getElem?_eq_some_iff.1 g1).1 (by omega)]; exact g1,g2⟩)
  (fun h1 e1 z1=>⟨Chg.of_ext e1,c,by rw [e1.2.1 m hml,half_nil]; exact hc,hc⟩) (fun told e h1 ⟨u,c',g1,g2⟩ hlt he hnt=>?_) fun told h1 hp ⟨u,c',g1,g2⟩=>?_
 ·have uf:Chg (ffoot m w) h h1:=u.mono fun i _ hi=>.inl hi
  have hv:=hl e he
  have hcc:c'=c:=by
   have:mapO l c'=mapO l c:=Option.some.inj (g2.symm.trans hc)
   unfold mapO at this; injection this
  subst hcc
  refine wp_grd rfl (wp_grd rfl (rd4 uf ?_))
  refine wp_call (c_goes (m:=e.2.1) (hx h1 uf) hb hv.1 hv.2) fun ⟨(r:Int),(hr:Bool),_⟩ h2 e2 hy=>?_
  obtain ⟨hr1, -⟩:=hy
  have hr1:r=(goL e.2.1 x.2).1:=hr1
  subst hr1
  dsimp only
  refine ck4 (uf.ext e2) ?_
  have mfs:mfind e.1 (half (fun v=>(goL v x.2).1) told l)=some e.2.1:=by
   obtain ⟨k1,k2⟩:=map_fst (half_keys (fun v=>(goL v x.2).1) told l)
   rw [mfind_some (by rw [k1]; exact ok.keys)]
   exact ⟨e.2.2,half_keep he hnt⟩
  have g3:h2[m]? = some (mapO (half (fun v=>(goL v x.2).1) told l) c'):=by rw [e2.2.1 m (Array.getElem?_eq_some_iff.1 g1).1]; exact g1
  have hput:mputO e.1 (goL e.2.1 x.2).1 (half (fun v=>(goL v x.2).1) told l) c'=mapO (half (fun v=>(goL v x.2).1) (told++[e]) l) c':=by
   unfold mputO
   rw [mfs]
   exact congrArg (fun z=>mapO z c') (mset_half (g:=fun v=>(goL v x.2).1) ok.keys he)
  refine ⟨m,_,c',rfl,g3,?_⟩
  rw [hput]
  have u3:Chg (fun i=>i=m) h2 (h2.setIfInBounds m (mapO (half (fun v=>(goL v x.2).1) (told++[e]) l) c')):=(chg_set g3 mapO_cells).mono fun i _ hi=>by unfold own at hi; omega
  refine s_ret ⟨rfl,rfl,?_,?_,c',set_same g3,g2⟩
  ·rw [u3.2.1 h.size (Nat.lt_of_lt_of_le hlt e2.1) (by omega),e2.2.1 h.size hlt]
  ·exact (u.ext e2).trans u3 fun i _ hi=>hi
 ·refine s_tag (s_cast0 ?_)
  have uf:Chg (ffoot m w) h h1:=u.mono fun i _ hi=>.inl hi
  have m1:MapR h1 m (folM x.2 l):=⟨c',by rw [half_all hp] at g1; exact g1,by
   have hcc:c'=c:=by
    have:mapO l c'=mapO l c:=Option.some.inj (g2.symm.trans hc)
    unfold mapO at this; injection this
   subst hcc
   have:=half_ok (told:=told) (g:=fun v=>(goL v x.2).1) ok fun y hy=>gfit _ (hl y hy).1 (hl y hy).2
   rw [half_all hp] at this; exact this⟩
  refine wp_grd rfl (wp_grd rfl (rd5 uf ?_))
  have hwl:=hw.len
  have hwc:=hw.lst.cap
  have hwx:=hw.lst.max
  rw [hwl] at hwc
  have w1:OwnL n' .i64 h1 w ws:=u.ownL hw fun a ha=>hwm a ha
  refine wp_while (fun (s:Int×Unit) h'=>Chg (ffoot m w) h h'∧MapR h' m (folM x.2 l)∧∃ i:Nat,s.1=i∧i≤ws.length∧OwnL n' .i64 h' w ((ws.take i).map (wv x.2)++ws.drop i)) (fun s _=>((ws.length:Int)-s.1).toNat)
   (fun t vs h'=>t=4∧vs=[]∧Chg (ffoot m w) h h'∧MapR h' m (folM x.2 l)∧OwnL n' .i64 h' w (folW x.2 ws)) ⟨uf,m1,0,rfl,Nat.zero_le _,by simpa using w1⟩ ?_ ?_
  ·rintro ⟨(i':Int),u'⟩ h2 ⟨u2,m2,i,hi,hil,w2⟩
   dsimp only at hi ⊢
   subst hi
   refine wp_ifB (fun hc=>?_) fun hc=>?_
   ·rw [ltI_iff,natI_def,hwl] at hc
    have hlt:i<ws.length:=by omega
    have hget:((ws.take i).map (wv x.2)++ws.drop i).getD i 0=ws[i]:=by
     simp [List.getD,List.getElem?_append,Nat.min_eq_left hil,List.getElem?_eq_getElem hlt]
    have hll:((ws.take i).map (wv x.2)++ws.drop i).length=ws.length:=by simp; omega
    have hset:∀ v,v=wv x.2 ws[i]→((ws.take i).map (wv x.2)++ws.drop i).set i v=(ws.take (i+1)).map (wv x.2)++ws.drop (i+1):=by
     rintro v rfl
     have hl1:((ws.take i).map (wv x.2)).length=i:=by rw [List.length_map,List.length_take]; omega
     rw [List.set_append_right (h:=by rw [hl1]; exact Nat.le_refl _),hl1,Nat.sub_self,List.drop_eq_getElem_cons hlt,List.set_cons_zero,List.take_add_one,List.getElem?_eq_getElem hlt,Option.toList_some,List.map_append,List.append_assoc]
     rfl
    have hsame:wv x.2 ws[i]=ws[i]→(ws.take i).map (wv x.2)++ws.drop i=(ws.take (i+1)).map (wv x.2)++ws.drop (i+1):=by
     intro hv
     rw [List.drop_eq_getElem_cons hlt,List.take_add_one,List.getElem?_eq_getElem hlt,Option.toList_some,List.map_append,List.append_assoc,List.map_singleton,hv]
     rfl
    have fin:∀ h3,Chg (ffoot m w) h h3→MapR h3 m (folM x.2 l)→OwnL n' .i64 h3 w ((ws.take (i+1)).map (wv x.2)++ws.drop (i+1)) →
      wp P (ifB (eqN 0 0) (.cast [] [] fun _=>.ret 0 [i64v (addI .i64 (i:Int) 1)]) .fail) h3 (fun tag vs h'=>
       (tag=0→∃ s':Int×Unit,vs=Ts.inj [.one (.int .i64)] s'∧(Chg (ffoot m w) h h'∧MapR h' m (folM x.2 l)∧∃ i:Nat,s'.1=i∧i≤ws.length∧OwnL n' .i64 h' w ((ws.take i).map (wv x.2)++ws.drop i))∧((ws.length:Int)-s'.1).toNat<((ws.length:Int)-(i:Int)).toNat) ∧
       (tag≠0→tag=4∧vs=[]∧Chg (ffoot m w) h h'∧MapR h' m (folM x.2 l)∧OwnL n' .i64 h' w (folW x.2 ws))):=by
     intro h3 u3 m3 w3
     refine s_tag (s_cast0 ?_)
     rw [add_ok (by omega) (by omega)]
     exact s_ret ⟨fun _=>⟨((i:Int)+1,()),rfl,⟨u3,m3,i+1,by simp,by omega,w3⟩,by dsimp only; omega⟩,fun hx=>absurd rfl hx⟩
    refine s_bind (s_at w2.lst (by omega) (by rw [hll]; omega) fun _=>?_)
    rw [Int.toNat_natCast,hget]
    refine wp_ifB (fun hd=>s_ret (fin _ u2 m2 ?_)) fun hd=>?_
    ·rw [ltI_iff] at hd
     rw [← hsame (by unfold wv; rw [if_pos hd])]; exact w2
    ·rw [ltI_not] at hd
     have hv:=hws ws[i] (List.getElem_mem _)
     refine wp_call (c_goes (m:=ws[i]) (hx h2 u2) hb hd hv) fun ⟨(r:Int),(hr:Bool),_⟩ h3 e3 hy=>?_
     obtain ⟨hr1,hr2⟩:=hy
     have hr1:r=(goL ws[i] x.2).1:=hr1
     have hr2:hr=(goL ws[i] x.2).2:=hr2
     dsimp only
     refine bind_val (tys:=[.one (.int .i64)]) (fun (y:Int×Unit) _=>y.1=wv x.2 ws[i]) ?_ fun ⟨(v:Int),_⟩ h4 e4 hv4=>?_
     ·refine wp_ifB (fun hn=>s_ret ⟨rfl,Ext.refl _,(-1,()),rfl,?_⟩) fun hn=>s_ret ⟨rfl,Ext.refl _,(r,()),rfl,?_⟩
      ·have:hr=false:=by cases hr <;> simp [notB] at hn ⊢
       unfold wv; rw [if_neg (by omega), ← hr2,this]; rfl
      ·have:hr=true:=by cases hr <;> simp [notB] at hn ⊢
       unfold wv; rw [if_neg (by omega), ← hr2,this, ← hr1]; rfl
     ·have hv4:v=wv x.2 ws[i]:=hv4
      dsimp only
      have u4:=(u2.ext e3).ext e4
      refine wp_grd rfl (wp_grd rfl (rd5 u4 ?_))
      refine s_set ((w2.ext e3).ext e4) (by omega) (by rw [hll]; omega) ?_ fun h5 o5 u5 z5=>?_
      ·rw [hv4]; unfold wv
       rw [if_neg (by omega)]
       split
       ·exact gfit _ hd hv
       ·rw [fits_i64]; omega
      ·rw [Int.toNat_natCast,hset v hv4] at o5
       have c5:Chg (ffoot m w) h4 h5:=Chg.of_upd u5 fun a ha _=>.inr ⟨a,ha,rfl⟩
       have u6:=u4.trans c5 fun i _ hi=>hi
       refine s_ret (fin _ u6 ?_ o5)
       have c5':Chg (fun i=>∃ a,w.base=some a∧a.block=i) h4 h5:=Chg.of_upd u5 fun a ha _=>⟨a,ha,rfl⟩
       exact ((m2.ext e3).ext e4).chg c5' fun ⟨a,ha,hh⟩=>hwm a ha hh
   ·rw [ltI_not,natI_def,hwl] at hc
    have hie:i=ws.length:=by omega
    subst hie
    rw [List.take_length,List.drop_length,List.append_nil] at w2
    exact s_ret ⟨fun hx=>absurd hx (by decide),fun _=>⟨rfl,rfl,u2,m2,w2⟩⟩
  ·rintro t vs h' ⟨rfl,rfl,u2,m2,w2⟩
   exact s_tag (s_cast0 (s_ret ⟨rfl,u2,(),rfl,m2,w2⟩))
end Go.Sw.Hist

set_option linter.unusedVariables false
set_option linter.unusedSimpArgs false
set_option maxRecDepth 100000
namespace Go.Sw.Hist
open Go.Sw.Any Go.Sw.Codec Go.Sw.Piece
open Go.Sw.Tree (iv s_putAll s_newP s_getP s_getT s_putP eqI_self Placed cell_own wp_whileG minI_eq)
variable {P:Program} {S:Ids} {h:Heap} {Q:Nat→List Value→Heap→Prop}
theorem s_putOwn {n size off:Nat} {s:Sl} {pre mid post:List Value} (new:List Value) {K:Prog} (ho:Own n size h s (pre++mid++post)) (hoff:off=pre.length) (hl:new.length=mid.length) (h0:mid≠[]) (hf:∀ v∈new,flat v=true)
  (hk:∀ h',Own n size h' s (pre++new++post)→Upd s h h'→h'.size=h.size→wp P K h' Q):wp P (.store (shiftTo s.base off) new K) h Q:=by
 subst hoff
 obtain ⟨o1,o2,o3,o4⟩:=ho
 obtain ⟨base,len,cap⟩:=s
 cases base with
 | none=>
  dsimp only at o1 o2 o4
  subst o4
  have:len=0:=by omega
  subst this
  have hm:0<mid.length:=List.length_pos_iff.2 h0
  simp only [Nat.zero_mul,List.length_append] at o1
  omega
 | some a=>
  dsimp only at o1 o2 o3 o4 ⊢
  obtain ⟨b,off,spot⟩:=a
  obtain ⟨e0,e1,e2,cs,elem,e3,e4,e5⟩:=o4
  dsimp only at e0 e1 e2 e3
  subst e0; subst e1
  have hle:len*size≤cap*size:=Nat.mul_le_mul_right _ o2
  simp only [List.length_append] at o1
  obtain ⟨w,cs',c1,c2,c3,c4,c5,c6⟩:=puts_block (vs:=new) (i:=0) (off:=pre.length) e3 hf (by omega)
  refine ⟨⟨b,pre.length,none⟩,by rw [shiftTo_some,add_mk]; simp,w,hk _ ⟨by simp only [List.length_append]; omega,o2,o3,rfl,rfl,e2,cs',elem,c1,by rw [c2,e4],fun j v hj=>?_⟩
   ⟨by unfold puts; omega,fun i hi hne=>c6 i fun e=>hne _ rfl e.symm,fun a e=>by unfold puts; rw [thaw_putFrom]; exact e⟩ (by unfold puts; omega)⟩
  by_cases hj1:j<pre.length
  ·rw [c4 j (.inl (by omega))]
   refine e5 j v ?_
   rw [List.append_assoc,List.getElem?_append_left hj1] at hj ⊢; exact hj
  ·rw [List.append_assoc,List.getElem?_append_right (by omega)] at hj
   by_cases hj2:j-pre.length<new.length
   ·rw [List.getElem?_append_left hj2] at hj
    have:=c3 _ _ hj
    rwa [show pre.length+0+(j-pre.length)=j by omega] at this
   ·rw [List.getElem?_append_right (by omega)] at hj
    rw [c4 j (.inr (by omega))]
    refine e5 j v ?_
    rw [List.append_assoc,List.getElem?_append_right (by omega),List.getElem?_append_right (by omega), ← hl]; exact hj
abbrev mvC (e:MvD):List Value:=[i64v e.1,i64v e.2.1,i64v e.2.2.1]
def mvFit (e:MvD):Prop:=fitsI .i64 e.1∧fitsI .i64 e.2.1∧fitsI .i64 e.2.2.1
structure MvO (n:Nat) (h:Heap) (s:Sl) (l:List MvD):Prop where
 own:Own n 3 h s (l.flatMap mvC)
 fit:∀ e∈l,mvFit e
theorem mvC_len (l:List MvD):(l.flatMap mvC).length=l.length*3:=by
 induction l with
 | nil=>rfl
 | cons e l ih=>rw [List.flatMap_cons,List.length_append,ih,List.length_cons]; simp only [List.length_cons,List.length_nil]; omega
theorem MvO.len {n:Nat} {s:Sl} {l:List MvD} (o:MvO n h s l):s.len=l.length:=by have:=o.own.1; rw [mvC_len] at this; omega
theorem mvC_at {l:List MvD} {i j:Nat} {e:MvD} (hi:l[i]? = some e) (hj:j<3):(l.flatMap mvC)[i*3+j]? = (mvC e)[j]? := by
 have hlt:=(List.getElem?_eq_some_iff.1 hi).1
 have hs:l=l.take i++(e::l.drop (i+1)):=by
  rw [← (List.getElem?_eq_some_iff.1 hi).2, ← List.drop_eq_getElem_cons hlt,List.take_append_drop]
 have hl:((l.take i).flatMap mvC).length=i*3:=by rw [mvC_len,List.length_take]; omega
 rw [hs,List.flatMap_append,List.flatMap_cons,List.getElem?_append_right (by omega),hl,show i*3+j-i*3=j by omega,List.getElem?_append_left (by simpa using hj)]
theorem MvO.ok {n:Nat} {s:Sl} {l:List MvD} (o:MvO n h s l):(Sh.list MvSh).ok h (s,l):=by
 have hlen:=o.len
 obtain ⟨⟨o1,o2,o3,o4⟩,of⟩:=o
 refine ⟨hlen,o2,o3,fun i y hi=>?_⟩
 have hy:=of y (List.mem_of_getElem? hi)
 cases hb:s.base with
 | none=>
  rw [hb] at o4
  have hlt:=(List.getElem?_eq_some_iff.1 hi).1
  dsimp only at o4 hlt
  omega
 | some a=>
  rw [hb] at o4
  obtain ⟨b,off,spot⟩:=a
  obtain ⟨e0,e1,e2,cs,elem,e3,e4,e5⟩:=o4
  dsimp only at e0 e1 e2 e3
  subst e0; subst e1
  refine ⟨_,rfl,cells_iff.2 fun j v hj=>?_,hy.1,hy.2.1,hy.2.2,trivial⟩
  have hj3:j<3:=(List.getElem?_eq_some_iff.1 hj).1
  have:=e5 (i*3+j) v (by rw [mvC_at hi hj3]; exact hj)
  rw [add_mk,add_mk]
  simpa [Sw.cell,e3,Sh.size] using this
theorem MvO.chg {F:Nat→Prop} {n:Nat} {h':Heap} {s:Sl} {l:List MvD} (o:MvO n h s l) (u:Chg F h h') (hn:∀ a,s.base=some a→¬ F a.block):MvO n h' s l:=⟨u.own o.own hn,o.fit⟩
theorem MvO.ext {n:Nat} {h':Heap} {s:Sl} {l:List MvD} (o:MvO n h s l) (u:Ext h h'):MvO n h' s l:=o.chg (Chg.of_ext (F:=fun _=>False) u) fun _ _ x=>x
theorem s_mkM {n:Nat} {K:Sl→Prog} (h1:n≤131072) (hk:∀ h' r,Ext h h'→h'.size=h.size+1→(∀ a,r.base=some a→a.block=h.size)→MvO h.size h' r (List.replicate n (0,0,0,()))→wp P (K r) h' Q):wp P (.mk 24 [i64v 0,i64v 0,i64v 0] (n:Int) (n:Int) K) h Q:=by
 refine ⟨⟨by omega,Int.le_refl _,by omega,by omega⟩,fun elem=>hk _ _ (Ext.push ..) (by simp) (by intro a ha; simp at ha; rw [← ha]) ⟨?_,?_⟩⟩
 ·have hz:∀ n,zeros [i64v 0,i64v 0,i64v 0] n=(List.replicate n ((0,0,0,()):MvD)).flatMap mvC:=by
   intro n
   induction n with
   | zero=>rfl
   | succ n ih=>rw [List.replicate_succ,List.flatMap_cons, ← ih]; rfl
  rw [Int.toNat_natCast,hz]
  exact own_alloc (by rw [mvC_len,List.length_replicate]) (by decide) (by omega)
 ·intro e he
  rw [(List.mem_replicate.1 he).2]
  exact ⟨fits_zero _,fits_zero _,fits_zero _⟩
theorem s_setM {n:Nat} {s:Sl} {l:List MvD} {i:Nat} (e:MvD) {K:Prog} (o:MvO n h s l) (hi:i<l.length) (hf:mvFit e)
  (hk:∀ h',MvO n h' s (l.set i e)→Upd s h h'→h'.size=h.size→wp P K h' Q) :
  wp P (grd (andB (someB s.base) (inB (i:Int) s.len)) (.store (shiftTo s.base (mulN (toN (i:Int)) 3)) [i64v e.1,i64v e.2.1,i64v e.2.2.1] K)) h Q:=by
 have hlen:=o.len
 have hs:l=l.take i++(l[i]::l.drop (i+1)):=by rw [← List.drop_eq_getElem_cons hi,List.take_append_drop]
 have hset:l.set i e=l.take i++(e::l.drop (i+1)):=by
  conv=>lhs; rw [hs]
  have hl1:(l.take i).length=i:=by rw [List.length_take]; omega
  rw [List.set_append_right (h:=by omega),hl1,Nat.sub_self,List.set_cons_zero]
 have ho:Own n 3 h s ((l.take i).flatMap mvC++mvC l[i]++(l.drop (i+1)).flatMap mvC):=by
  have:=o.own
  rw [hs,List.flatMap_append,List.flatMap_cons] at this
  rw [List.append_assoc]; exact this
 have hb:someB s.base=true:=by
  cases hb:s.base with
  | none=>
   have:=o.own.2.2.2
   rw [hb] at this
   have:=o.own.2.1
   dsimp only at *
   omega
  | some a=>rfl
 have hin:inB (i:Int) s.len=true:=by simp [inB,hlen]; omega
 refine wp_grd (by rw [hb,hin]; rfl) ?_
 have hoff:mulN (toN (i:Int)) 3=((l.take i).flatMap mvC).length:=by rw [mvC_len,List.length_take]; simp [mulN,toN]; omega
 rw [hoff]
 refine s_putOwn (mid:=mvC l[i]) [i64v e.1,i64v e.2.1,i64v e.2.2.1] ho rfl rfl (by simp) (by intro v hv; simp only [List.mem_cons,List.not_mem_nil,or_false] at hv; rcases hv with rfl | rfl | rfl <;> rfl) fun h' o' u' z'=>hk h' ⟨?_,?_⟩ u' z'
 ·rw [hset,List.flatMap_append,List.flatMap_cons, ← List.append_assoc]; exact o'
 ·intro x hx
  rw [hset] at hx
  rcases List.mem_append.1 hx with hx | hx
  ·exact o.fit x (List.mem_of_mem_take hx)
  ·rcases List.mem_cons.1 hx with rfl | hx
   ·exact hf
   ·exact o.fit x (List.mem_of_mem_drop hx)
def invL:Int→List MvD→List MvD
 | _,[]=>[]
 | sh,e::l=>(e.1+sh,e.1+sh+e.2.2.1,e.2.1-e.1,())::invL (sh+(e.2.2.1-(e.2.1-e.1))) l
def shL:Int→List MvD→Int
 | sh,[]=>sh
 | sh,e::l=>shL (sh+(e.2.2.1-(e.2.1-e.1))) l
theorem invL_append:∀ {l m:List MvD} {sh:Int},invL sh (l++m)=invL sh l++invL (shL sh l) m
 | [],m,sh=>rfl
 | e::l,m,sh=>by simp only [List.cons_append,invL,shL,invL_append (l:=l)]
theorem shL_append:∀ {l m:List MvD} {sh:Int},shL sh (l++m)=shL (shL sh l) m
 | [],m,sh=>rfl
 | e::l,m,sh=>by simp only [List.cons_append,shL,shL_append (l:=l)]
theorem invL_len:∀ {l:List MvD} {sh:Int},(invL sh l).length=l.length
 | [],sh=>rfl
 | e::l,sh=>by simp only [invL,List.length_cons,invL_len (l:=l)]
theorem shL_bound:∀ {l:List MvD} {sh:Int},MvB l→sh-l.length*2199023255552≤shL sh l∧shL sh l≤sh+l.length*2199023255552
 | [],sh,_=>by simp [shL]
 | e::l,sh,b=>by
  have ih:=shL_bound (sh:=sh+(e.2.2.1-(e.2.1-e.1))) b.tail
  have hb:=b.2 e (List.mem_cons_self ..)
  simp only [shL,List.length_cons]
  push_cast
  omega
theorem MvB.take {l:List MvD} (b:MvB l) (i:Nat):MvB (l.take i):=⟨by have:=b.1; rw [List.length_take]; omega,fun x hx=>b.2 x (List.mem_of_mem_take hx)⟩
theorem c_inverse {x:Mvs} (ho:(Sh.list MvSh).ok h x) (hb:MvB x.2):Gives P (F_history_inverse S x.1) [.one .sl] h fun (y:Sl×Unit) h'=>MvO h.size h' y.1 (invL 0 x.2):=by
 have hxl:=ho.len
 have hlen:=hb.1
 unfold F_history_inverse Gives
 have hn:natI x.1.len=(x.2.length:Int):=by rw [natI_def,hxl]
 rw [hn]
 refine s_mkM hlen fun h1 r e1 z1 rb o1=>?_
 have hrl:=o1.len
 rw [List.length_replicate] at hrl
 refine wp_while (fun (s:Int×Int×Unit) h'=>Ext h h'∧∃ i:Nat,s.2.1=i∧i≤x.2.length∧s.1=shL 0 (x.2.take i)∧MvO h.size h' r (invL 0 (x.2.take i)++List.replicate (x.2.length-i) (0,0,0,()))) (fun s _=>((x.2.length:Int)-s.2.1).toNat)
  (fun t vs h'=>Ext h h'∧t=2∧vs=[]∧MvO h.size h' r (invL 0 x.2)) ⟨e1,0,rfl,Nat.zero_le _,rfl,by simpa [invL] using o1⟩ ?_ ?_
 ·rintro ⟨(sh:Int),(i':Int),u⟩ h2 ⟨e2,i,hi,hil,hsh,o2⟩
  dsimp only at hi hsh ⊢
  subst hi
  refine wp_ifB (fun hc=>?_) fun hc=>?_
  ·rw [ltI_iff] at hc
   have hlt:i<x.2.length:=by omega
   obtain ⟨e,he⟩:∃ e,x.2[i]? = some e:=⟨x.2[i]'hlt,List.getElem?_eq_getElem hlt⟩
   have hbe:=hb.2 e (List.mem_of_getElem? he)
   have hbd:=shL_bound (sh:=0) (hb.take i)
   have htl:(x.2.take i).length≤131072:=(hb.take i).1
   rw [← hsh] at hbd
   refine s_mv (ho.ext e2) (by omega) (by simpa using he) fun a h3 e3 o3=>?_
   refine (s_mvI o3).1 ((s_mvI o3).1 ((s_mvI o3).2.2 ((s_mvI o3).2.1 ((s_mvI o3).1 ?_))))
   rw [add_ok (a:=e.1) (b:=sh) (by omega) (by omega),add_ok (by omega) (by omega),sub_ok (a:=e.2.1) (b:=e.1) (by omega) (by omega)]
   have hll:(invL 0 (x.2.take i)).length=i:=by rw [invL_len,List.length_take]; omega
   have hset:(invL 0 (x.2.take i)++List.replicate (x.2.length-i) ((0,0,0,()):MvD)).set i (e.1+sh,e.1+sh+e.2.2.1,e.2.1-e.1,())=invL 0 (x.2.take (i+1))++List.replicate (x.2.length-(i+1)) (0,0,0,()):=by
    rw [List.set_append_right (h:=by omega),hll,Nat.sub_self,show x.2.length-i=(x.2.length-(i+1))+1 by omega,List.replicate_succ,List.set_cons_zero,List.take_add_one,he,Option.toList_some,invL_append, ← hsh,List.append_assoc]
    rfl
   refine s_setM (e.1+sh,e.1+sh+e.2.2.1,e.2.1-e.1,()) (o2.ext e3) (by rw [List.length_append,hll,List.length_replicate]; omega) ⟨by rw [fits_i64]; dsimp only; omega,by rw [fits_i64]; dsimp only; omega,by rw [fits_i64]; dsimp only; omega⟩ fun h4 o4 u4 z4=>?_
   rw [hset] at o4
   have hsz:=e2.1
   have c4:Chg (fun i=>i=h.size) h3 h4:=Chg.of_upd u4 fun y hy _=>rb y hy
   have hz1:h.size<h2.size:=by
    have:=e1.1
    obtain ⟨_,_,_,q⟩:=o2.own
    cases hb:r.base with
    | none=>
     have:=u4
     rw [hb] at q
     have:=o2.own.2.1
     dsimp only at q
     omega
    | some y=>
     rw [hb] at q
     have:=(Array.getElem?_eq_some_iff.1 q.2.2.2.choose_spec.choose_spec.1).1
     rw [rb y hb] at this; exact this
   have o5:Own h2.size 1 h4 ⟨some a,3,3⟩ [i64v e.1,i64v e.2.1,i64v e.2.2.1]:=c4.own o3 fun y hy=>by
    cases hy
    exact Nat.ne_of_gt (Nat.lt_of_lt_of_le hz1 (o3.lt rfl).1)
   refine (s_mvI o5).2.2 ((s_mvI o5).2.1 ((s_mvI o5).1 ?_))
   rw [sub_ok (a:=e.2.1) (b:=e.1) (by omega) (by omega),sub_ok (by omega) (by omega),add_ok (by omega) (by omega),add_ok (by omega) (by omega)]
   have e4:Ext h h4:=Upd.extN (e2.trans e3) u4 fun y hy=>by rw [rb y hy]; exact Nat.le_refl _
   refine s_ret ⟨fun _=>⟨(sh+(e.2.2.1-(e.2.1-e.1)),(i:Int)+1,()),rfl,⟨e4,i+1,by simp,by omega,?_,o4⟩,by dsimp only; omega⟩,fun hx=>absurd rfl hx⟩
   rw [List.take_add_one,he,Option.toList_some,shL_append, ← hsh]; rfl
  ·rw [ltI_not] at hc
   have:i=x.2.length:=by omega
   subst this
   rw [List.take_length,Nat.sub_self,List.replicate_zero,List.append_nil] at o2
   exact s_ret ⟨fun hx=>absurd hx (by decide),fun _=>⟨e2,rfl,rfl,o2⟩⟩
 ·rintro t vs h' ⟨e2,rfl,rfl,o2⟩
  exact s_tag (s_cast0 (s_ret ⟨rfl,e2,(r,()),rfl,o2⟩))
end Go.Sw.Hist

set_option linter.unusedVariables false
set_option linter.unusedSimpArgs false
set_option maxRecDepth 100000
namespace Go.Sw.Hist
open Go.Sw.Any Go.Sw.Codec Go.Sw.Piece
open Go.Sw.Tree (iv s_putAll s_newP s_getP s_getT s_putP eqI_self Placed cell_own wp_whileG minI_eq)
variable {P:Program} {S:Ids} {h:Heap} {Q:Nat→List Value→Heap→Prop}
theorem c_inside {n n':Nat} {b:Addr} {vs:List Value} {T:TX} {at_:Int} (ob:Own n 1 h ⟨some b,10,10⟩ vs) (h0:vs[0]? = some (.pointer (some T.p))) (t:TextR S n' h T) :
  Gives P (F_Book_inside S (some b) at_) [.one .bool] h fun (y:Bool×Unit) _=>y.1=true↔(0≤at_∧at_≤(els T.enc T.cur.ps).length):=by
 unfold F_Book_inside Gives
 refine bind_bool (0≤at_∧at_≤(els T.enc T.cur.ps).length) (wp_ifB (fun hc=>?_) fun hc=>s_ret ⟨rfl,Ext.refl _,false,rfl,?_⟩) fun bb h1 e1 hb=>s_ret ⟨rfl,e1,(bb,()),rfl,hb⟩
 ·rw [geI_iff] at hc
  refine wp_grd rfl (wp_grd rfl (wp_load1 (b:=.ptr) (b.add 0) (some T.p) rfl (cells_iff.1 ob.cells 0 _ h0) ?_))
  refine wp_call (c_Len t) fun ⟨(L:Int),_⟩ h1 e1 hL=>s_ret ⟨rfl,e1,_,rfl,?_⟩
  have hL:L=_:=hL
  subst hL
  dsimp only
  rw [leI_iff]
  exact ⟨fun h=>⟨hc,h⟩,fun h=>h.2⟩
 ·rw [geI_not] at hc
  exact ⟨fun h=>(by cases h),fun h=>by omega⟩
theorem c_Clone {s:Sl} {l:List Int} (hs:Lst .i64 h s l) (hl:l.length≤1099511627776):Gives P (F_slices_Cloneint_int___ S s) [.one .sl] h fun (y:Sl×Unit) h'=>OwnL h.size .i64 h' y.1 l:=by
 unfold F_slices_Cloneint_int___ Gives
 refine wp_ifB (fun hc=>s_ret ⟨rfl,Ext.refl _,(⟨none,0,0⟩,()),rfl,?_⟩) fun hc=>?_
 ·have:l=[]:=by
   cases l with
   | nil=>rfl
   | cons a l=>
    obtain ⟨x,hx,_⟩:=hs.rd.2 0 (.int .i64 a) rfl
    rw [hx] at hc; cases hc
  subst this
  exact OwnL.nil _ _ _
 ·refine fun elem=>?_
  have e1:Ext h (h.push (.cells [].toArray elem)):=Ext.push ..
  have o1:OwnL h.size .i64 (h.push (.cells [].toArray elem)) ⟨some ⟨h.size,0,none⟩,0,0⟩ []:=own_fresh (k:=.i64) (l:=[]) (by simp) (by decide)
  generalize h.push (.cells [].toArray elem)=h1 at e1 o1 ⊢
  refine s_append o1 e1.1 (hs.ext e1) (by simp; omega) (by simp; omega) fun r h2 k2 o2 u2 b2=>s_ret ⟨rfl,?_,(r,()),rfl,by simpa using o2⟩
  exact Upd.extN e1 u2 (by intro x hx; cases hx; exact Nat.le_refl _)
theorem c_Delete {n:Nat} {s:Sl} {v:Value} {vs:List Value} (ho:Own n 1 h s (v::vs)) (hf:∀ u∈vs,flat u=true) :
  GivesF (fun i=>∃ a,s.base=some a∧a.block=i) P (F_slices_Delete_history_group__history_group___ S s (Int.ofNat 0) (Int.ofNat 1)) [.one .sl] h fun (y:Sl×Unit) h'=>Own n 1 h' y.1 vs∧y.1.base=s.base:=by
 unfold F_slices_Delete_history_group__history_group___ GivesF
 obtain ⟨o1,o2,o3,o4⟩:=ho
 obtain ⟨base,len,cap⟩:=s
 dsimp only at o1 o2 o3 o4 ⊢
 simp only [Nat.mul_one,List.length_cons] at o1
 subst o1
 cases base with
 | none=>dsimp only at o4; omega
 | some a=>
  dsimp only at o4
  obtain ⟨b,off,spot⟩:=a
  obtain ⟨e0,e1,e2,cs,elem,e3,e4,e5⟩:=o4
  dsimp only at e0 e1 e2 e3
  subst e0; subst e1
  have c1:cutBase (some ⟨b,0,none⟩) cap 0 1=some ⟨b,0,none⟩:=cutBase_zero _ _ _
  have lb:∀ (j:Int) (n:Nat),0≤j→j≤n→leB j n=true:=fun j n h0 h1=>by unfold leB; rw [decide_eq_true h0,decide_eq_true h1]; rfl
  have ab:∀ x y:Bool,x=true→y=true→andB x y=true:=by rintro _ _ rfl rfl; rfl
  refine wp_grd (ab _ _ (lb _ _ (by rw [natI_def]; omega) (by rw [natI_def]; omega)) (ab _ _ (lb _ _ (by decide) (by simp [toN,natI]; omega)) (lb _ _ (by decide) (by simp [toN])))) (wp_ifB (fun hc=>by cases hc) fun _=>wp_grd (lb _ _ (by decide) (by simp)) (wp_grd (lb _ _ (by decide) (by simp; omega)) ?_))
  have hnew:Firsts h (cutBase (some ⟨b,0,none⟩) cap 1 1) (vs.length*1) vs:=by
   unfold cutBase
   split
   ·rename_i hc
    subst hc
    have:vs=[]:=List.eq_nil_of_length_eq_zero (by omega)
    subst this
    exact ⟨rfl,trivial⟩
   ·refine ⟨by simp,cells_iff.2 fun j u hj=>?_⟩
    have:=e5 (j+1) u (by simpa using hj)
    simp only [Option.map_some,add_mk]
    simpa [Sw.cell,e3,Nat.add_comm] using this
  obtain ⟨w,cs1,p1,p2,p3,p4,p5,p6⟩:=puts_block (vs:=vs) (i:=0) (off:=0) e3 hf (by rw [e4]; omega)
  have hc1:subN (toN (Int.ofNat 0)) 0+subN (vs.length+1) (toN (Int.ofNat 1))≤subN cap 0:=by simp [subN,toN]; omega
  have hsum:subN (toN (Int.ofNat 0)) 0+subN (vs.length+1) (toN (Int.ofNat 1))=vs.length:=by simp [subN,toN]
  refine ⟨vs,hnew,?_⟩
  dsimp only
  rw [if_pos hc1]
  have c2:cutBase (some ⟨b,0,none⟩) cap (toN (Int.ofNat 0)) 1=some ⟨b,0,none⟩:=cutBase_zero _ _ _
  rw [cutBase_zero]
  dsimp only
  rw [hsum]
  have hz0:(Addr.mk b 0 none).add (subN (toN (Int.ofNat 0)) 0*1)=⟨b,0,none⟩:=by simp [add_mk,subN,toN]
  rw [hz0]
  refine ⟨w,?_⟩
  have p7:=fun x=>thaw_putFrom x ⟨b,0,none⟩ vs h 0
  have hp1:puts h ⟨b,0,none⟩ vs=putFrom h ⟨b,0,none⟩ 0 vs:=rfl
  rw [hp1]
  generalize putFrom h ⟨b,0,none⟩ 0 vs=h1 at p1 p3 p5 p6 p7 ⊢
  have hcap:subN cap 0=cap:=rfl
  rw [hcap]
  refine wp_grd (ab _ _ (lb _ _ (by rw [natI_def]; omega) (by rw [natI_def]; omega)) (lb _ _ (by rw [natI_def]; omega) (by simp [toN,natI]; omega))) ?_
  have hcb:cutBase (some ⟨b,0,none⟩) cap (toN (natI vs.length)) 1=some ⟨b,vs.length,none⟩:=by
   have:toN (natI vs.length)=vs.length:=by simp [toN,natI]
   rw [this]
   unfold cutBase
   rw [if_neg (by omega),Option.map_some,add_mk]
   simp
  have hcl:subN (toN (natI (vs.length+1))) (toN (natI vs.length))=1:=by simp [toN,natI,subN]
  obtain ⟨w2,cs2,q1,q2,q3,q4,q5,q6⟩:=puts_block (vs:=[.pointer none]) (i:=0) (off:=vs.length) p1 (by intro x hx; rw [List.mem_singleton.1 hx]; rfl) (by rw [p2,e4]; simp; omega)
  show clearWp _ _ _ _
  unfold clearWp
  dsimp only
  have hz1:zeros [Value.pointer none] 1=[Value.pointer none]:=rfl
  rw [hcb,hcl,hz1]
  dsimp only
  refine ⟨w2,s_ret ⟨rfl,⟨?_,fun i hi hne=>?_,fun x hx=>?_⟩,(⟨some ⟨b,0,none⟩,vs.length,cap⟩,()),rfl,⟨by simp,by show vs.length≤cap; omega,o3,rfl,rfl,e2,cs2,elem,q1,by rw [q2,p2,e4],fun j u hj=>?_⟩,rfl⟩⟩
  ·show h.size≤(putFrom h1 _ 0 _).size
   rw [q5,p5]; exact Nat.le_refl _
  ·have hb:i≠b:=fun e=>hne ⟨_,rfl,e.symm⟩
   show (putFrom h1 _ 0 _)[i]? = _
   rw [q6 i hb,p6 i hb]
  ·show frz (putFrom h1 _ 0 _) x=false
   rw [thaw_putFrom,p7]; exact hx
  ·have hlt:=(List.getElem?_eq_some_iff.1 hj).1
   rw [q4 j (.inl (by omega))]
   have:=p3 j u hj
   simpa using this
end Go.Sw.Hist

set_option linter.unusedVariables false
set_option linter.unusedSimpArgs false
set_option maxRecDepth 100000
namespace Go.Sw.Hist
open Go.Sw.Any Go.Sw.Codec Go.Sw.Piece
open Go.Sw.Tree (iv s_putAll s_newP s_getP s_getT s_putP eqI_self Placed cell_own wp_whileG minI_eq)
variable {P:Program} {S:Ids} {h:Heap} {Q:Nat→List Value→Heap→Prop}
structure Grp where
 pt:Addr
 bef:Addr
 beh:Addr
 sb:Piece.St
 sh:Piece.St
 bg:Int
 en:Int
 mv:Sl×List Mvs
 old:Int
 fresh:Int
structure Opn where
 o:Addr
 bef:Addr
 sb:Piece.St
 bg:Int
 mv:Sl×List Mvs
 old:Int
 m:Nat
 ms:Ents
 w:Sl
 ws:List Int
 ch:Bool
structure Bk where
 b:Addr
 T:TX
 depth:Int
 U:Sl×List Grp
 R:Sl×List Grp
 m:Nat
 ms:Ents
 w:Sl
 ws:List Int
 now:Option Opn
 state:Int
 saved:Int
 last:Int
def grpC (g:Grp):List Value:=[.pointer (some g.bef), .pointer (some g.beh),i64v g.bg,i64v g.en,slv g.mv.1,i64v g.old,i64v g.fresh]
def opnC (o:Opn):List Value:=[.pointer (some o.bef), .pointer none,i64v o.bg,i64v 0,slv o.mv.1,i64v o.old,i64v 0, .map (some o.m),slv o.w, .bool o.ch]
def bkC (B:Bk):List Value:=[.pointer (some B.T.p),i64v B.depth,slv B.U.1,slv B.R.1, .map (some B.m),slv B.w, .pointer (B.now.map (·.o)),i64v B.state,i64v B.saved,i64v B.last]
def ptrs (l:List Grp):List Value:=l.map fun g=>.pointer (some g.pt)
structure MvsR (n:Nat) (h:Heap) (rho:Nat→Nat) (r:Nat) (mv:Sl×List Mvs):Prop where
 own:Own n 1 h mv.1 (mv.2.map fun x=>slv x.1)
 role:∀ a,mv.1.base=some a→rho a.block=r
 each:∀ x∈mv.2,MvO n h x.1 x.2∧(∀ a,x.1.base=some a→rho a.block=0)∧MvB x.2
structure GrpR (n:Nat) (h:Heap) (rho:Nat→Nat) (T:TX) (g:Grp):Prop where
 ob:Own n 1 h ⟨some g.pt,7,7⟩ (grpC g)
 s1:SnapR n h g.bef T.p g.sb
 s2:SnapR n h g.beh T.p g.sh
 k1:g.sb∈T.kept
 k2:g.sh∈T.kept
 mv:MvsR n h rho 0 g.mv
 r0:rho g.pt.block=0∧rho g.bef.block=0∧rho g.beh.block=0
structure OpnR (n:Nat) (h:Heap) (rho:Nat→Nat) (k:Nat) (T:TX) (o:Opn):Prop where
 ob:Own n 1 h ⟨some o.o,10,10⟩ (opnC o)
 ro:rho o.o.block=k+6
 sn:SnapR n h o.bef T.p o.sb
 ks:o.sb∈T.kept
 rs:rho o.bef.block=0
 mv:MvsR n h rho (k+7) o.mv
 mp:MapR h o.m o.ms
 rm:rho o.m=k+9
 ow:OwnL n .i64 h o.w o.ws
 rwd:∀ a,o.w.base=some a→rho a.block=k+10
structure RestR (S:Ids) (n:Nat) (h:Heap) (rho:Nat→Nat) (k:Nat) (B:Bk):Prop where
 t:TextR S n h B.T
 rt:∀ i,B.T.Z i→rho i=k+8
 mp:MapR h B.m B.ms
 rm:rho B.m=k+2
 ow:OwnL n .i64 h B.w B.ws
 rwd:∀ a,B.w.base=some a→rho a.block=k+3
 ou:Own n 1 h B.U.1 (ptrs B.U.2)
 ru:∀ a,B.U.1.base=some a→rho a.block=k+4
 orr:Own n 1 h B.R.1 (ptrs B.R.2)
 rr:∀ a,B.R.1.base=some a→rho a.block=k+5
 gs:∀ g,g∈B.U.2∨g∈B.R.2→GrpR n h rho B.T g
 nw:∀ o,B.now=some o→OpnR n h rho k B.T o
structure BookR (S:Ids) (n:Nat) (h:Heap) (rho:Nat→Nat) (k:Nat) (B:Bk):Prop extends RestR S n h rho k B where
 ob:Own n 1 h ⟨some B.b,10,10⟩ (bkC B)
 rb:rho B.b.block=k+1
structure StepR (k:Nat) (h:Heap) (rho:Nat→Nat) (h':Heap) (rho':Nat→Nat):Prop where
 c:Chg (fun i=>k<rho i∧rho i≤k+10) h h'
 old:∀ i,i<h.size→(rho i≤k∨k+10<rho i)→rho' i=rho i
 new:∀ i,i<h'.size→(h.size≤i∨(k<rho i∧rho i≤k+10))→rho' i=0∨(k<rho' i∧rho' i≤k+10)
theorem StepR.refl (k:Nat) (h:Heap) (rho:Nat→Nat):StepR k h rho h rho:=
 ⟨Chg.refl _ _,fun _ _ _=>rfl,fun i hi hj=>hj.elim (fun h1=>absurd hi (by omega)) .inr⟩
theorem StepR.trans {k:Nat} {h h1 h2:Heap} {rho rho1 rho2:Nat→Nat} (a:StepR k h rho h1 rho1) (b:StepR k h1 rho1 h2 rho2):StepR k h rho h2 rho2 where
 c:=a.c.trans b.c fun i hi hr=>by
  by_cases ho:rho i≤k∨k+10<rho i
  ·rw [a.old i hi ho] at hr; omega
  ·omega
 old i hi ho:=by
  have h1:=a.old i hi ho
  rw [b.old i (Nat.lt_of_lt_of_le hi a.c.1) (by omega),h1]
 new i hlt hi:=by
  by_cases h1i:i<h1.size
  ·rcases a.new i h1i hi with h0 | h0
   ·exact .inl (by rw [b.old i h1i (by omega),h0])
   ·exact b.new i hlt (.inr h0)
  ·exact b.new i hlt (.inl (by omega))
theorem StepR.of {k:Nat} {h h':Heap} {rho:Nat→Nat} {F:Nat→Prop} (c:Chg F h h') (hF:∀ i,i<h.size→F i→k<rho i∧rho i≤k+10) (hn:∀ i,h.size≤i→i<h'.size→rho i=0):StepR k h rho h' rho:=
 ⟨c.mono hF,fun _ _ _=>rfl,fun i hi hj=>hj.elim (fun h1=>.inl (hn i h1 hi)) .inr⟩
section frames
variable {n:Nat} {h':Heap} {rho rho':Nat→Nat} {F:Nat→Prop} {T T':TX}
theorem MvsR.keep {r r':Nat} {mv:Sl×List Mvs} (m:MvsR n h rho r mv) (c:Chg F h h') (hF:∀ i,i<h.size→F i→rho i≠0∧(∀ a,mv.1.base=some a→a.block≠i)) (h0:∀ i,i<h.size→rho i=0→rho' i=0) (hr:∀ a,mv.1.base=some a→rho' a.block=r'):MvsR n h' rho' r' mv where
 own:=c.own m.own fun a ha hf=>(hF _ (m.own.lt ha).2 hf).2 a ha rfl
 role:=hr
 each x hx:=by
  obtain ⟨h1,h2,h3⟩:=m.each x hx
  exact ⟨h1.chg c fun a ha hf=>(hF _ (h1.own.lt ha).2 hf).1 (h2 a ha),fun a ha=>h0 _ (h1.own.lt ha).2 (h2 a ha),h3⟩
theorem GrpR.keep {g:Grp} (r:GrpR n h rho T g) (c:Chg F h h') (hF:∀ i,i<h.size→F i→rho i≠0) (h0:∀ i,i<h.size→rho i=0→rho' i=0) (hp:T'.p=T.p) (hk:∀ s,s∈T.kept→s∈T'.kept):GrpR n h' rho' T' g where
 ob:=c.own r.ob fun a ha hf=>hF _ (r.ob.lt ha).2 hf (by cases ha; exact r.r0.1)
 s1:=by rw [SnapR,hp]; exact c.own r.s1 fun a ha hf=>hF _ (r.s1.lt ha).2 hf (by cases ha; exact r.r0.2.1)
 s2:=by rw [SnapR,hp]; exact c.own r.s2 fun a ha hf=>hF _ (r.s2.lt ha).2 hf (by cases ha; exact r.r0.2.2)
 k1:=hk _ r.k1
 k2:=hk _ r.k2
 mv:=r.mv.keep c (fun i hi hf=>⟨hF i hi hf,fun a ha e=>hF i hi hf (by rw [← e]; exact r.mv.role a ha)⟩) h0 fun a ha=>h0 _ (r.mv.own.lt ha).2 (r.mv.role a ha)
 r0:=⟨h0 _ (r.ob.lt rfl).2 r.r0.1,h0 _ (r.s1.lt rfl).2 r.r0.2.1,h0 _ (r.s2.lt rfl).2 r.r0.2.2⟩
theorem OpnR.keep {k:Nat} {o:Opn} (r:OpnR n h rho k T o) (c:Chg F h h') (hF:∀ i,i<h.size→F i→rho i≠0∧rho i≠k+6∧rho i≠k+7∧rho i≠k+9∧rho i≠k+10)
  (h0:∀ i,i<h.size→rho i=0∨rho i=k+6∨rho i=k+7∨rho i=k+9∨rho i=k+10→rho' i=rho i) (hp:T'.p=T.p) (hk:∀ s,s∈T.kept→s∈T'.kept):OpnR n h' rho' k T' o where
 ob:=c.own r.ob fun a ha hf=>by have:=(hF _ (r.ob.lt ha).2 hf).2.1; cases ha; exact this r.ro
 ro:=by rw [h0 _ (r.ob.lt rfl).2 (.inr (.inl r.ro))]; exact r.ro
 sn:=by rw [SnapR,hp]; exact c.own r.sn fun a ha hf=>by have:=(hF _ (r.sn.lt ha).2 hf).1; cases ha; exact this r.rs
 ks:=hk _ r.ks
 rs:=by rw [h0 _ (r.sn.lt rfl).2 (.inl r.rs)]; exact r.rs
 mv:=r.mv.keep c (fun i hi hf=>⟨(hF i hi hf).1,fun a ha e=>(hF i hi hf).2.2.1 (by rw [← e]; exact r.mv.role a ha)⟩) (fun i hi h1=>by rw [h0 i hi (.inl h1)]; exact h1)
  fun a ha=>by rw [h0 _ (r.mv.own.lt ha).2 (.inr (.inr (.inl (r.mv.role a ha))))]; exact r.mv.role a ha
 mp:=r.mp.chg c fun hf=>(hF _ r.mp.lt hf).2.2.2.1 r.rm
 rm:=by rw [h0 _ r.mp.lt (.inr (.inr (.inr (.inl r.rm))))]; exact r.rm
 ow:=c.ownL r.ow fun a ha hf=>(hF _ (r.ow.own.lt ha).2 hf).2.2.2.2 (r.rwd a ha)
 rwd a ha:=by rw [h0 _ (r.ow.own.lt ha).2 (.inr (.inr (.inr (.inr (r.rwd a ha)))))]; exact r.rwd a ha
end frames
theorem RestR.keep {n k:Nat} {h':Heap} {rho rho':Nat→Nat} {B:Bk} {F:Nat→Prop} (r:RestR S n h rho k B) (c:Chg F h h') (hF:∀ i,i<h.size→F i→rho i≠0∧(rho i≤k+1∨k+10<rho i)) (h0:∀ i,i<h.size→rho i=0∨(k+1<rho i∧rho i≤k+10)→rho' i=rho i):RestR S n h' rho' k B where
 t:=r.t.chg c fun i hi hf=>by have:=hF i (r.t.lo i hi).2 hf; have:=r.rt i hi; omega
 rt i hi:=by rw [h0 _ (r.t.lo i hi).2 (.inr (by have:=r.rt i hi; omega))]; exact r.rt i hi
 mp:=r.mp.chg c fun hf=>by have:=hF _ r.mp.lt hf; have:=r.rm; omega
 rm:=by rw [h0 _ r.mp.lt (.inr (by have:=r.rm; omega))]; exact r.rm
 ow:=c.ownL r.ow fun a ha hf=>by have:=hF _ (r.ow.own.lt ha).2 hf; have:=r.rwd a ha; omega
 rwd a ha:=by rw [h0 _ (r.ow.own.lt ha).2 (.inr (by have:=r.rwd a ha; omega))]; exact r.rwd a ha
 ou:=c.own r.ou fun a ha hf=>by have:=hF _ (r.ou.lt ha).2 hf; have:=r.ru a ha; omega
 ru a ha:=by rw [h0 _ (r.ou.lt ha).2 (.inr (by have:=r.ru a ha; omega))]; exact r.ru a ha
 orr:=c.own r.orr fun a ha hf=>by have:=hF _ (r.orr.lt ha).2 hf; have:=r.rr a ha; omega
 rr a ha:=by rw [h0 _ (r.orr.lt ha).2 (.inr (by have:=r.rr a ha; omega))]; exact r.rr a ha
 gs g hg:=(r.gs g hg).keep c (fun i hi hf=>(hF i hi hf).1) (fun i hi h1=>by rw [h0 i hi (.inl h1)]; exact h1) rfl fun s hs=>hs
 nw o ho:=(r.nw o ho).keep c (fun i hi hf=>by have:=hF i hi hf; omega) (fun i hi h1=>h0 i hi (by omega)) rfl fun s hs=>hs
theorem BookR.other {n k:Nat} {h':Heap} {rho rho':Nat→Nat} {B:Bk} {F:Nat→Prop} (r:BookR S n h rho k B) (c:Chg F h h') (hF:∀ i,i<h.size→F i→rho i≠0∧(rho i≤k∨k+10<rho i)) (h0:∀ i,i<h.size→rho i=0∨(k<rho i∧rho i≤k+10)→rho' i=rho i):BookR S n h' rho' k B where
 toRestR:=r.toRestR.keep c (fun i hi hf=>by have:=hF i hi hf; omega) fun i hi h1=>h0 i hi (by omega)
 ob:=c.own r.ob fun a ha hf=>by have:=hF _ (r.ob.lt ha).2 hf; cases ha; have:=r.rb; omega
 rb:=by rw [h0 _ (r.ob.lt rfl).2 (.inr (by have:=r.rb; omega))]; exact r.rb
theorem BookR.ext {n k:Nat} {h':Heap} {rho:Nat→Nat} {B:Bk} (r:BookR S n h rho k B) (e:Ext h h'):BookR S n h' rho k B:=
 r.other (Chg.of_ext (F:=fun _=>False) e) (fun _ _ x=>x.elim) fun _ _ _=>rfl
theorem RestR.re {n k:Nat} {rho:Nat→Nat} {B B':Bk} (r:RestR S n h rho k B) (h1:B'.T=B.T) (h2:B'.U=B.U) (h3:B'.R=B.R) (h4:B'.m=B.m) (h5:B'.ms=B.ms) (h6:B'.w=B.w) (h7:B'.ws=B.ws) (h8:B'.now=B.now):RestR S n h rho k B':=by
 obtain ⟨a1,a2,a3,a4,a5,a6,a7,a8,a9,a10,a11,a12⟩:=r
 refine ⟨by rw [h1]; exact a1,by rw [h1]; exact a2,by rw [h4,h5]; exact a3,by rw [h4]; exact a4,by rw [h6,h7]; exact a5,by rw [h6]; exact a6,by rw [h2]; exact a7,by rw [h2]; exact a8,by rw [h3]; exact a9,by rw [h3]; exact a10,by rw [h1,h2,h3]; exact a11,by rw [h1,h8]; exact a12⟩
theorem BookR.rd {n k:Nat} {rho:Nat→Nat} {X:Bk} (r:BookR S n h rho k X) {i:Nat} {b:B} (x:b.den) {K:b.den→Prog} (hv:(bkC X)[i]? = some (b.inj x)) (hk:wp P (K x) h Q) :
  wp P (grd (someB (some X.b)) <| grd (someB (some X.b)) <| .load (.one b) (shiftTo (some X.b) i) K) h Q:=
 wp_grd rfl (wp_grd rfl (wp_load1 (b:=b) (X.b.add i) x rfl (cells_iff.1 r.ob.cells i _ hv) hk))
theorem BookR.wrI {n k:Nat} {rho:Nat→Nat} {X:Bk} (Y:Bk) {i:Nat} {v:Value} {K:Prog} (r:BookR S n h rho k X) (hi:i<10) (hf:flat v=true) (hv:bkC Y=(bkC X).set i v) (hb:Y.b=X.b) (h1:Y.T=X.T) (h2:Y.U=X.U) (h3:Y.R=X.R) (h4:Y.m=X.m) (h5:Y.ms=X.ms) (h6:Y.w=X.w) (h7:Y.ws=X.ws) (h8:Y.now=X.now)
  (hk:∀ h',BookR S n h' rho k Y→Chg (fun i=>i=X.b.block) h h'→wp P K h' Q) :
  wp P (grd (someB (some X.b)) <| grd (someB (some X.b)) <| .store (shiftTo (some X.b) i) [v] K) h Q:=by
 refine wp_grd rfl (wp_grd rfl (s_setC' v r.ob (by simp [bkC]; exact hi) hf fun h' o u=>?_))
 have c:Chg (fun i=>i=X.b.block) h h':=Chg.of_upd u fun a ha _=>by cases ha; rfl
 exact hk h' { toRestR:=(r.toRestR.keep (rho':=rho) c (fun i hi e=>by subst e; have:=r.rb; omega) fun _ _ _=>rfl).re h1 h2 h3 h4 h5 h6 h7 h8,ob:=by rw [hb,hv]; exact o,rb:=by rw [hb]; exact r.rb } c
end Go.Sw.Hist

set_option linter.unusedVariables false
set_option linter.unusedSimpArgs false
set_option maxRecDepth 100000
namespace Go.Sw.Hist
open Go.Sw.Any Go.Sw.Codec Go.Sw.Piece
open Go.Sw.Tree (iv s_putAll s_newP s_getP s_getT s_putP eqI_self Placed cell_own wp_whileG minI_eq)
variable {P:Program} {S:Ids} {h:Heap} {Q:Nat→List Value→Heap→Prop} {n k:Nat} {rho:Nat→Nat} {X:Bk}
theorem c_BText (r:BookR S n h rho k X):Gives P (F_Book_Text S (some X.b)) [.one .ptr] h fun (y:Option Addr×Unit) _=>y.1=some X.T.p:=by
 unfold F_Book_Text Gives
 exact r.rd (b:=.ptr) (some X.T.p) rfl (s_ret ⟨rfl,Ext.refl _,(some X.T.p,()),rfl,rfl⟩)
def dirtyB (X:Bk):Bool:=decide (X.state≠X.saved) || (X.now.map (·.ch)).getD false
theorem c_Dirty (r:BookR S n h rho k X):Gives P (F_Book_Dirty S (some X.b)) [.one .bool] h fun (y:Bool×Unit) _=>y.1=dirtyB X:=by
 unfold F_Book_Dirty Gives
 refine bind_bool (dirtyB X=true) ?_ fun bb h1 e1 hb=>s_ret ⟨rfl,e1,(bb,()),rfl,by cases bb <;> cases hd:dirtyB X <;> simp_all⟩
 refine r.rd (b:=.int .i64) X.state rfl (r.rd (b:=.int .i64) X.saved rfl (wp_ifB (fun hc=>s_ret ⟨rfl,Ext.refl _,true,rfl,?_⟩) fun hc=>?_))
 ·have:X.state≠X.saved:=by simpa [neI] using hc
  simp [dirtyB,this]
 ·have hs:X.state=X.saved:=by simpa [neI] using hc
  cases hn:X.now with
  | none=>
   refine r.rd (b:=.ptr) none (by simp [bkC,hn,B.inj]) (wp_ifB (fun hc=>by cases hc) fun _=>s_ret ⟨rfl,Ext.refl _,false,rfl,?_⟩)
   simp [dirtyB,hs,hn]
  | some o=>
   have ro:=r.nw o hn
   refine r.rd (b:=.ptr) (some o.o) (by simp [bkC,hn,B.inj]) (wp_ifB (fun _=>?_) fun hc=>by cases hc)
   refine r.rd (b:=.ptr) (some o.o) (by simp [bkC,hn,B.inj]) (wp_grd rfl (wp_grd rfl (wp_load1 (b:=.bool) (o.o.add 9) o.ch rfl (cells_iff.1 ro.ob.cells 9 _ rfl) (s_ret ⟨rfl,Ext.refl _,o.ch,rfl,?_⟩))))
   simp [dirtyB,hs,hn]
theorem c_Depth (r:BookR S n h rho k X):Gives P (F_Book_Depth S (some X.b)) [.one (.int .i64), .one (.int .i64)] h fun (y:Int×Int×Unit) _=>y.1=X.U.2.length∧y.2.1=X.R.2.length:=by
 unfold F_Book_Depth Gives
 have hu:X.U.1.len=X.U.2.length:=by have:=r.ou.1; simpa [ptrs] using this
 have hr:X.R.1.len=X.R.2.length:=by have:=r.orr.1; simpa [ptrs] using this
 refine r.rd (b:=.sl) X.U.1 rfl (r.rd (b:=.sl) X.R.1 rfl (s_ret ⟨rfl,Ext.refl _,(_,_,()),rfl,?_,?_⟩))
 ·dsimp only; rw [hu]
 ·dsimp only; rw [hr]
theorem c_IsOpen (r:BookR S n h rho k X):Gives P (F_Book_IsOpen S (some X.b)) [.one .bool] h fun (y:Bool×Unit) _=>y.1=X.now.isSome:=by
 unfold F_Book_IsOpen Gives
 refine r.rd (b:=.ptr) (X.now.map (·.o)) rfl (s_ret ⟨rfl,Ext.refl _,(_,()),rfl,?_⟩)
 cases X.now <;> rfl
def isN (a:Int):Prop:=(97≤a∧a≤122)∨a=39∨a=60∨a=62
theorem c_isName {a:Int}:Gives P (F_history_isName S a) [.one .bool] h fun (y:Bool×Unit) _=>y.1=true↔isN a:=by
 unfold F_history_isName Gives
 have tail:wp P (ifB (eqI a 39) (.ret 0 [.bool true]) <| ifB (eqI a 60) (.ret 0 [.bool true]) <| .ret 0 [.bool (eqI a 62)]) h fun t vs h'=>t=0∧Ext h h'∧∃ b,vs=[.bool b]∧(b=true↔a=39∨a=60∨a=62):=by
  refine wp_ifB (fun hc=>s_ret ⟨rfl,Ext.refl _,true,rfl,?_⟩) fun hc=>wp_ifB (fun hd=>s_ret ⟨rfl,Ext.refl _,true,rfl,?_⟩) fun hd=>s_ret ⟨rfl,Ext.refl _,_,rfl,?_⟩
  ·have:a=39:=by simpa [eqI] using hc
   simp [this]
  ·have:a=60:=by simpa [eqI] using hd
   simp [this]
  ·have h1:a≠39:=by simpa [eqI] using hc
   have h2:a≠60:=by simpa [eqI] using hd
   simp [eqI,h1,h2]
 refine bind_bool (isN a) ?_ fun bb h1 e1 hb=>s_ret ⟨rfl,e1,(bb,()),rfl,hb⟩
 refine wp_ifB (fun hc=>wp_ifB (fun hd=>s_ret ⟨rfl,Ext.refl _,true,rfl,?_⟩) fun hd=>wp_mono _ (fun t vs h' ⟨a1,a2,b,a3,a4⟩=>⟨a1,a2,b,a3,?_⟩) tail) fun hc=>wp_mono _ (fun t vs h' ⟨a1,a2,b,a3,a4⟩=>⟨a1,a2,b,a3,?_⟩) tail
 ·rw [geI_iff] at hc; rw [leI_iff] at hd
  exact ⟨fun _=>.inl ⟨hc,hd⟩,fun _=>rfl⟩
 ·rw [leI_not] at hd
  rw [a4]; unfold isN; omega
 ·rw [geI_not] at hc
  rw [a4]; unfold isN; omega
theorem c_Watched (r:BookR S n h rho k X) (hl:X.ws.length≤1099511627776):Gives P (F_Book_Watched S (some X.b)) [.one .sl] h fun (y:Sl×Unit) h'=>OwnL h.size .i64 h' y.1 X.ws:=by
 unfold F_Book_Watched Gives
 refine r.rd (b:=.sl) X.w rfl (wp_call (c_Clone r.ow.lst hl) fun ⟨(y:Sl),_⟩ h1 e1 o1=>s_ret ⟨rfl,e1,(y,()),rfl,o1⟩)
end Go.Sw.Hist

set_option linter.unusedVariables false
set_option linter.unusedSimpArgs false
set_option maxRecDepth 100000
namespace Go.Sw.Hist
open Go.Sw.Any Go.Sw.Codec Go.Sw.Piece
open Go.Sw.Tree (iv s_putAll s_newP s_getP s_getT s_putP eqI_self Placed cell_own wp_whileG minI_eq)
variable {P:Program} {S:Ids} {h:Heap} {Q:Nat→List Value→Heap→Prop} {n k:Nat} {rho:Nat→Nat} {X:Bk}
section parts
variable {h':Heap} {rho':Nat→Nat} {F:Nat→Prop}
theorem RestR.tK(r:RestR S n h rho k X) (c:Chg F h h') (hF:∀ i,i<h.size→F i→rho i≠k+8):TextR S n h' X.T:=r.t.chg c fun i hi hf=>hF i (r.t.lo i hi).2 hf (r.rt i hi)
theorem RestR.rtK(r:RestR S n h rho k X) (h0:∀ i,i<h.size→rho i=k+8→rho' i=k+8):∀ i,X.T.Z i→rho' i=k+8:=fun i hi=>h0 i (r.t.lo i hi).2 (r.rt i hi)
theorem RestR.mpK(r:RestR S n h rho k X) (c:Chg F h h') (hF:∀ i,i<h.size→F i→rho i≠k+2):MapR h' X.m X.ms:=r.mp.chg c fun hf=>hF _ r.mp.lt hf r.rm
theorem RestR.rmK(r:RestR S n h rho k X) (h0:∀ i,i<h.size→rho i=k+2→rho' i=k+2):rho' X.m=k+2:=h0 _ r.mp.lt r.rm
theorem RestR.owK(r:RestR S n h rho k X) (c:Chg F h h') (hF:∀ i,i<h.size→F i→rho i≠k+3):OwnL n .i64 h' X.w X.ws:=c.ownL r.ow fun a ha hf=>hF _ (r.ow.own.lt ha).2 hf (r.rwd a ha)
theorem RestR.rwK(r:RestR S n h rho k X) (h0:∀ i,i<h.size→rho i=k+3→rho' i=k+3):∀ a,X.w.base=some a→rho' a.block=k+3:=fun a ha=>h0 _ (r.ow.own.lt ha).2 (r.rwd a ha)
theorem RestR.ouK(r:RestR S n h rho k X) (c:Chg F h h') (hF:∀ i,i<h.size→F i→rho i≠k+4):Own n 1 h' X.U.1 (ptrs X.U.2):=c.own r.ou fun a ha hf=>hF _ (r.ou.lt ha).2 hf (r.ru a ha)
theorem RestR.ruK(r:RestR S n h rho k X) (h0:∀ i,i<h.size→rho i=k+4→rho' i=k+4):∀ a,X.U.1.base=some a→rho' a.block=k+4:=fun a ha=>h0 _ (r.ou.lt ha).2 (r.ru a ha)
theorem RestR.orK(r:RestR S n h rho k X) (c:Chg F h h') (hF:∀ i,i<h.size→F i→rho i≠k+5):Own n 1 h' X.R.1 (ptrs X.R.2):=c.own r.orr fun a ha hf=>hF _ (r.orr.lt ha).2 hf (r.rr a ha)
theorem RestR.rrK(r:RestR S n h rho k X) (h0:∀ i,i<h.size→rho i=k+5→rho' i=k+5):∀ a,X.R.1.base=some a→rho' a.block=k+5:=fun a ha=>h0 _ (r.orr.lt ha).2 (r.rr a ha)
theorem RestR.gsK(r:RestR S n h rho k X) {T':TX} (c:Chg F h h') (hF:∀ i,i<h.size→F i→rho i≠0) (h0:∀ i,i<h.size→rho i=0→rho' i=0) (hp:T'.p=X.T.p) (hk:∀ s,s∈X.T.kept→s∈T'.kept):∀ g,g∈X.U.2∨g∈X.R.2→GrpR n h' rho' T' g:=
  fun g hg=>(r.gs g hg).keep c hF h0 hp hk
theorem RestR.nwK(r:RestR S n h rho k X) {T':TX} (c:Chg F h h') (hF:∀ i,i<h.size→F i→rho i≠0∧rho i≠k+6∧rho i≠k+7∧rho i≠k+9∧rho i≠k+10)
    (h0:∀ i,i<h.size→rho i=0∨rho i=k+6∨rho i=k+7∨rho i=k+9∨rho i=k+10→rho' i=rho i) (hp:T'.p=X.T.p) (hk:∀ s,s∈X.T.kept→s∈T'.kept):∀ o,X.now=some o→OpnR n h' rho' k T' o:=
  fun o ho=>(r.nw o ho).keep c hF h0 hp hk
end parts
theorem BookR.obK {h':Heap} {F:Nat→Prop} (r:BookR S n h rho k X) (c:Chg F h h') (hF:∀ i,i<h.size→F i→rho i≠k+1):Own n 1 h' ⟨some X.b,10,10⟩ (bkC X):=
  c.own r.ob fun a ha hf=>by cases ha; exact hF _ (r.ob.lt rfl).2 hf r.rb
theorem BookR.marks {h':Heap} {F:Nat→Prop} {ms:Ents} {ws:List Int} (r:BookR S n h rho k X) (c:Chg F h h') (hF:∀ i,i<h.size→F i→rho i=k+2∨rho i=k+3) (hm:MapR h' X.m ms) (hw:OwnL n .i64 h' X.w ws):BookR S n h' rho k { X with ms:=ms,ws:=ws } where
  t:=r.tK c fun i hi hf=>by have:=hF i hi hf; omega
  rt:=r.rt
  mp:=hm
  rm:=r.rm
  ow:=hw
  rwd:=r.rwd
  ou:=r.ouK c fun i hi hf=>by have:=hF i hi hf; omega
  ru:=r.ru
  orr:=r.orK c fun i hi hf=>by have:=hF i hi hf; omega
  rr:=r.rr
  gs:=r.gsK c (fun i hi hf=>by have:=hF i hi hf; omega) (fun _ _ h=>h) rfl fun _ h=>h
  nw:=r.nwK c (fun i hi hf=>by have:=hF i hi hf; omega) (fun _ _ _=>rfl) rfl fun _ h=>h
  ob:=r.obK c fun i hi hf=>by have:=hF i hi hf; omega
  rb:=r.rb
theorem c_SetMark {name at_:Int} (r:BookR S n h rho k X) (hfn:fitsI .i64 name) (hfa:fitsI .i64 at_) :
    wp P (F_Book_SetMark S (some X.b) name at_) h fun tg vs h'=>tg=0 ∧
      ((¬ isN name∧vs=[i64v 74]∧Ext h h')∨(isN name∧¬ (0≤at_∧at_≤(els X.T.enc X.T.cur.ps).length)∧vs=[i64v 2]∧Ext h h') ∨
       (isN name∧(0≤at_∧at_≤(els X.T.enc X.T.cur.ps).length)∧vs=[i64v 0]∧Chg (fun i=>i=X.m) h h'∧∃ c,(∀ e∈X.ms,e.2.2<c)∧BookR S n h' rho k { X with ms:=mputL name at_ X.ms c })):=by
  unfold F_Book_SetMark
  refine wp_call (c_isName) fun ⟨(b1:Bool),_⟩ h1 e1 hb=>wp_ifB (fun hc=>s_ret ⟨rfl, .inl ⟨fun hn=>?_,rfl,e1⟩⟩) fun hc=>?_
  · rw [notB_iff] at hc
    have:=hb.2 hn
    dsimp only at this hc
    rw [this] at hc; cases hc
  · rw [notB_not] at hc
    have hn:=hb.1 hc
    have r1:=r.ext e1
    refine wp_call (c_inside r1.ob rfl r1.t) fun ⟨(b2:Bool),_⟩ h2 e2 hb2=>wp_ifB (fun hd=>s_ret ⟨rfl, .inr (.inl ⟨hn,fun hx=>?_,rfl,e1.trans e2⟩)⟩) fun hd=>?_
    · rw [notB_iff] at hd
      have:=hb2.2 hx
      dsimp only at this hd
      rw [this] at hd; cases hd
    · rw [notB_not] at hd
      have r2:=r1.ext e2
      refine r2.rd (b:=.map) (some X.m) rfl (s_mput r2.mp hfn hfa fun h3 c u3 m3 hc3=>s_ret ⟨rfl, .inr (.inr ⟨hn,hb2.1 hd,rfl,Chg.pre (e1.trans e2) u3,c,hc3,?_⟩)⟩)
      have:=r2.marks u3 (fun i hi e=>by subst e; exact .inl r2.rm) m3 (r2.owK u3 fun i hi e=>by subst e; rw [r2.rm]; omega)
      exact this
def folB (x:List MvD) (X:Bk):Bk:={ X with ms:=folM x X.ms,ws:=folW x X.ws }
theorem c_bfollow {x:Mvs} (r:BookR S n h rho k X) (hx:(Sh.list MvSh).ok h x) (hx0:∀ h',Chg (ffoot X.m X.w) h h'→(Sh.list MvSh).ok h' x) (hb:MvB x.2) (hl:∀ e∈X.ms,0≤e.2.1∧e.2.1≤2199023255552) (hws:∀ v∈X.ws,v≤2199023255552) :
    GivesF (ffoot X.m X.w) P (F_Book_follow S (some X.b) x.1) [] h fun _ h'=>BookR S n h' rho k (folB x.2 X):=by
  have hbw:∀ a,X.w.base=some a→a.block≠X.b.block:=fun a ha e=>by have h1:=r.rwd a ha; have h2:=r.rb; rw [e] at h1; omega
  refine wp_mono _ (fun tg vs h' ⟨a1,a2,y,a3,a4,a5⟩=>⟨a1,a2,y,a3,?_⟩) (c_follow (S:=S) r.ob rfl rfl r.mp r.ow hbw hx0 hb hl hws)
  refine r.marks a2 (fun i hi hf=>?_) a4 a5
  rcases hf with rfl | ⟨a,ha,rfl⟩
  · exact .inl r.rm
  · exact .inr (r.rwd a ha)
end Go.Sw.Hist

set_option linter.unusedVariables false
set_option linter.unusedSimpArgs false
set_option maxRecDepth 100000
namespace Go.Sw.Hist
open Go.Sw.Any Go.Sw.Codec Go.Sw.Piece
open Go.Sw.Tree (iv s_putAll s_newP s_getP s_getT s_putP eqI_self Placed cell_own wp_whileG minI_eq)
variable {P:Program} {S:Ids} {h:Heap} {Q:Nat→List Value→Heap→Prop} {n k:Nat} {rho:Nat→Nat} {X:Bk}
abbrev kv (e:Int×Int×Nat):Int×Int:=(e.1,e.2.1)
abbrev keepT (T:TX):TX:={ T with kept:=T.cur::T.kept }
def insideB (X:Bk) (at_:Int):Prop:=0≤at_∧at_≤(els X.T.enc X.T.cur.ps).length
theorem c_BeginOpen {at_:Int} {o:Opn} (r:BookR S n h rho k X) (hn:X.now=some o):wp P (F_Book_Begin S (some X.b) at_) h fun tg vs h'=>tg=0∧vs=[i64v 70]∧h'=h:=by
 unfold F_Book_Begin
 exact r.rd (b:=.ptr) (some o.o) (by simp [bkC,hn,B.inj]) (wp_ifB (fun _=>s_ret ⟨rfl,rfl,rfl⟩) fun hc=>by cases hc)
theorem s_copyMap {m m':Nat} {l:Ents} {a:Addr} {n:Nat} {vs:List Value} {K:Nat→List Value→Prog} (hm:MapR h m l) (hm':MapR h m' []) (hne:m≠m') (ho:Own n 1 h ⟨some a,10,10⟩ vs) (h7:vs[7]? = some (.map (some m')))
  (hk:∀ h' l',Chg (fun i=>i=m') h h'→MapR h' m' l'→(l'.map kv).Perm (l.map kv)→wp P (K 2 []) h' Q) :
  wp P (.miter (some m) fun it=>.bind (.loop [] () fun _=>.mnext (some it) (fun _ _=>.mentry (some it) fun x y=>.load (.one .map) (shiftTo (some a) 7) fun (p:Option Nat)=>.mput p x y <| .ret 0 []) (.ret 2 [])) K) h Q:=by
 have ham:a.block≠m':=by
  intro e
  obtain ⟨c,g1,_⟩:=hm'
  obtain ⟨_,_,_,o4⟩:=ho
  obtain ⟨_,_,_,cs,el,e3,_⟩:=o4
  rw [← e,e3] at g1
  cases g1
 have hml:=hm.lt
 have hml':=hm'.lt
 have hm0:=hm
 obtain ⟨c,hc,ok⟩:=hm
 refine wp_mrange (m:=m) (l:=l) (t:=2) (body:=fun x y=>.load (.one .map) (shiftTo (some a) 7) fun (p:Option Nat)=>.mput p x y <| .ret 0 []) hm0 (by decide)
  (fun told g=>Chg (fun i=>i=m') h g∧(∀ x∈told,x∈l)∧∃ l',MapR g m' l'∧l'.map kv=told.map kv)
  (fun told g ⟨u,_,_⟩=>⟨c,l,by rw [u.2.1 m hml (by omega)]; exact hc,hc,rfl,fun e he _=>he⟩)
  (fun told g g2 ⟨u,hs,l',ml,e⟩ v=>⟨u.trans v fun i hi e=>by omega,hs,l',ml.chg v (by omega),e⟩)
  (fun g e _=>⟨Chg.of_ext e,by simp,[],hm'.ext e,rfl⟩) (fun told e g ⟨u,hs,l',ml,hl'⟩ hlt he hnt=>?_) fun told g hp ⟨u,hs,l',ml,hl'⟩=>hk g l' u ml (by rw [hl']; exact hp.map kv)
 have og:=u.own ho fun b hb e=>by cases hb; exact ham e
 have hnone:mfind e.1 l'=none:=by
  rw [mfind_none]
  intro hx
  have h1:l'.map (·.1)=told.map (·.1):=by
   have:=congrArg (List.map Prod.fst) hl'
   rw [List.map_map,List.map_map] at this
   exact this
  rw [h1] at hx
  obtain ⟨y,hy,hye⟩:=List.mem_map.1 hx
  have:=nodup_inj (f:=fun e:Int×Int×Nat=>e.1) ok.keys _ (hs y hy) _ he hye
  subst this
  exact hnt hy
 refine wp_load1 (b:=.map) (a.add 7) (some m') rfl (cells_iff.1 og.cells 7 _ h7) (s_mput ml (ok.fk e he).1 (ok.fk e he).2 fun g2 c2 u2 m2 _=>s_ret ⟨rfl,rfl,?_,?_,fun x hx=>?_,_,m2,?_⟩)
 ·exact u2.2.1 _ hlt (by omega)
 ·exact u.trans u2 fun i _ hi=>hi
 ·rcases List.mem_append.1 hx with hx | hx
  ·exact hs x hx
  ·simp at hx; subst hx; exact he
 ·simp only [mputL,hnone]
  simp [hl']
structure BeginR (S:Ids) (n k:Nat) (X:Bk) (h:Heap) (rho:Nat→Nat) (at_:Int) (h':Heap) (rho':Nat→Nat) (o:Opn):Prop where
 st:StepR k h rho h' rho'
 c:Chg (fun i=>i=X.b.block) h h'
 r:BookR S n h' rho' k { X with now:=some o,T:=keepT X.T }
 bg:o.bg=at_
 sb:o.sb=X.T.cur
 mv:o.mv=(⟨none,0,0⟩,[])
 old:o.old=X.state
 ms:(o.ms.map kv).Perm (X.ms.map kv)
 ws:o.ws=X.ws
 ch:o.ch=false
open Classical in
theorem c_Begin {at_:Int} (r:BookR S n h rho k X) (hn:X.now=none) (hl:X.ws.length≤1099511627776) :
  wp P (F_Book_Begin S (some X.b) at_) h fun tg vs h'=>tg=0∧((¬ insideB X at_∧vs=[i64v 2]∧Ext h h')∨(insideB X at_∧vs=[i64v 0]∧∃ rho' o,BeginR S n k X h rho at_ h' rho' o)):=by
 unfold F_Book_Begin
 have hnh:n≤h.size:=Nat.le_trans (r.ob.lt rfl).1 (Nat.le_of_lt (r.ob.lt rfl).2)
 refine r.rd (b:=.ptr) none (by simp [bkC,hn,B.inj]) (wp_ifB (fun hc=>by cases hc) fun _=>?_)
 refine wp_call (c_inside (at_:=at_) r.ob rfl r.t) fun ⟨(b1:Bool),_⟩ h1 e1 hb=>wp_ifB (fun hc=>s_ret ⟨rfl, .inl ⟨fun hx=>?_,rfl,e1⟩⟩) fun hc=>?_
 ·rw [notB_iff] at hc
  have:=hb.2 hx
  dsimp only at this hc
  rw [this] at hc; cases hc
 rw [notB_not] at hc
 have hin:insideB X at_:=hb.1 hc
 have r1:=r.ext e1
 refine s_mkmap fun h2 e2 z2 m2=>?_
 have r2:=r1.ext e2
 refine r2.rd (b:=.sl) X.w rfl (wp_call (c_Clone r2.ow.lst hl) fun ⟨(w':Sl),_⟩ h3 e3 w3=>?_)
 have w3:OwnL h2.size .i64 h3 w' X.ws:=w3
 dsimp only
 refine fun elem=>?_
 have e4:Ext h3 (h3.push (.cells [.pointer none, .pointer none,i64v 0,i64v 0, .slice none 0 0,i64v 0,i64v 0, .map (some h1.size),slv w', .bool false].toArray elem)):=Ext.push ..
 have o4:Own h3.size 1 (h3.push (.cells [.pointer none, .pointer none,i64v 0,i64v 0, .slice none 0 0,i64v 0,i64v 0, .map (some h1.size),slv w', .bool false].toArray elem)) ⟨some ⟨h3.size,0,none⟩,10,10⟩ [.pointer none, .pointer none,i64v 0,i64v 0, .slice none 0 0,i64v 0,i64v 0, .map (some h1.size),slv w', .bool false]:=own_alloc rfl (by decide) (by decide)
 generalize h3.push (.cells [.pointer none, .pointer none,i64v 0,i64v 0, .slice none 0 0,i64v 0,i64v 0, .map (some h1.size),slv w', .bool false].toArray elem)=h4 at e4 o4 ⊢
 have r4:=(r2.ext e3).ext e4
 refine r4.rd (b:=.ptr) (some X.T.p) rfl (r4.rd (b:=.int .i64) X.state rfl (wp_call (c_Snap r4.t) fun ⟨(sp:Option Addr),_⟩ h5 e5 hsn=>?_))
 obtain ⟨sn,rfl,s5⟩:=hsn
 have s5:SnapR h4.size h5 sn X.T.p X.T.cur:=s5
 dsimp only
 have r5:=r4.ext e5
 refine s_ckC (cells_iff.1 r5.ob.cells 7 _ rfl) ?_
 have o5:=(Chg.of_ext (F:=fun _=>False) e5).own o4 fun _ _ x=>x
 have sh0:∀ j,shiftTo (shiftTo (some (Addr.mk h3.size 0 none)) 0) j=shiftTo (some ⟨h3.size,0,none⟩) j:=fun j=>by rw [shiftTo_some,add_zero']
 simp only [sh0]
 refine wp_grd rfl (s_setC' (.pointer (some sn)) o5 (by simp) rfl fun h6 o6 u6=>wp_grd rfl (s_setC' (i64v at_) o6 (by simp) rfl fun h7 o7 u7=>wp_grd rfl (s_setC' (i64v X.state) o7 (by simp) rfl fun h8 o8 u8=>?_)))
 simp only [List.set_cons_zero,List.set_cons_succ] at o8
 have hs3:h2.size≤h3.size:=e3.1
 have hs4:=e4.1
 have hs5:=e5.1
 have e58:Ext h4 h8∨True:=.inr trivial
 have c8:Chg (fun i=>i=h3.size) h5 h8:=((Chg.of_upd (F:=fun i=>i=h3.size) u6 fun a ha _=>by cases ha; rfl).trans (Chg.of_upd (F:=fun i=>i=h3.size) u7 fun a ha _=>by cases ha; rfl) fun _ _ x=>x).trans (Chg.of_upd (F:=fun i=>i=h3.size) u8 fun a ha _=>by cases ha; rfl) fun _ _ x=>x
 have eA:Ext h h3:=((e1.trans e2).trans e3)
 have eB:Ext h h8:=by
  have:=(eA.trans e4).trans e5
  exact ⟨Nat.le_trans this.1 c8.1,fun i hi=>by rw [c8.2.1 i (Nat.lt_of_lt_of_le hi this.1) (by have:=eA.1; omega)]; exact this.2.1 i hi,fun x hx=>c8.2.2 x (this.2.2 x hx)⟩
 have r8:=r.ext eB
 have m8:MapR h8 h1.size []:=(((m2.ext e3).ext e4).ext e5).chg c8 (by omega)
 have s8:=c8.own s5 fun a ha e=>by cases ha; have h1:h4.size≤sn.block:=(s5.lt rfl).1; have h2:h3.size<h4.size:=(o4.lt rfl).2; have e:sn.block=h3.size:=e; omega
 have w8:OwnL h2.size .i64 h8 w' X.ws:=c8.ownL (((Chg.of_ext (F:=fun _=>False) (e4.trans e5))).ownL w3 fun _ _ x=>x) fun a ha e=>by have:=(w3.own.lt ha).2; omega
 refine r8.rd (b:=.map) (some X.m) rfl (s_copyMap r8.mp m8 (by have:=r.mp.lt; have:=e1.1; omega) o8 rfl fun h9 l' u9 m9 hp=>s_tag (s_cast0 ?_))
 have hbl:X.b.block<h.size:=(r.ob.lt rfl).2
 have hs1:=e1.1
 have hs8:=c8.1
 have h34:h3.size<h4.size:=(o4.lt rfl).2
 have hsnb:h4.size≤sn.block:=(s5.lt rfl).1
 have hwb:∀ a,w'.base=some a→h2.size≤a.block∧a.block<h3.size:=fun a ha=>w3.own.lt ha
 have c9:Chg (fun i=>i=h1.size) h8 h9:=u9
 have ob9:=c9.own r8.ob fun a ha e=>by cases ha; exact absurd (show X.b.block=h1.size from e) (by omega)
 refine wp_grd rfl (wp_grd rfl (s_setC' (.pointer (some ⟨h3.size,0,none⟩)) ob9 (by simp [bkC]) rfl fun h10 ob10 u10=>?_))
 have c10:Chg (fun i=>i=X.b.block) h9 h10:=Chg.of_upd u10 fun a ha _=>by cases ha; rfl
 have e09:Ext h h9:=⟨Nat.le_trans eB.1 c9.1,fun i hi=>by rw [c9.2.1 i (Nat.lt_of_lt_of_le hi eB.1) (by omega)]; exact eB.2.1 i hi,fun x hx=>c9.2.2 x (eB.2.2 x hx)⟩
 have cF:Chg (fun i=>i=X.b.block) h h10:=Chg.pre e09 c10
 let rho':Nat→Nat:=fun i=>if i<h.size then rho i else if i=h1.size then k+9 else if i=h3.size then k+6 else if (∃ a,w'.base=some a∧a.block=i) then k+10 else 0
 have hold:∀ i,i<h.size→rho' i=rho i:=fun i hi=>if_pos hi
 have hsame:∀ j i,i<h.size→rho i=j→rho' i=j:=fun j i hi e=>by rw [hold i hi]; exact e
 have hFb:∀ i,i<h.size→i=X.b.block→rho i=k+1:=fun i _ e=>by rw [e]; exact r.rb
 have hm9:rho' h1.size=k+9:=by show (if _ then _ else _)=_; rw [if_neg (by omega),if_pos rfl]
 have ho6:rho' h3.size=k+6:=by show (if _ then _ else _)=_; rw [if_neg (by omega),if_neg (by omega),if_pos rfl]
 have hw10:∀ a,w'.base=some a→rho' a.block=k+10:=fun a ha=>by
  have:=hwb a ha
  show (if _ then _ else _)=_
  rw [if_neg (by omega),if_neg (by omega),if_neg (by omega),if_pos ⟨a,ha,rfl⟩]
 have hs0:rho' sn.block=0:=by
  show (if _ then _ else _)=_
  rw [if_neg (by omega),if_neg (by omega),if_neg (by omega),if_neg]
  rintro ⟨a,ha,e⟩
  have:=hwb a ha
  omega
 have mono:∀ {m size:Nat} {g:Heap} {s:Sl} {vs:List Value},n≤m→Own m size g s vs→Own n size g s vs:=fun hm ho=>by
  obtain ⟨p1,p2,p3,p4⟩:=ho
  refine ⟨p1,p2,p3,?_⟩
  split at p4
  ·exact p4
  ·exact ⟨p4.1,p4.2.1,Nat.le_trans hm p4.2.2.1,p4.2.2.2⟩
 let o:Opn:={ o:=⟨h3.size,0,none⟩,bef:=sn,sb:=X.T.cur,bg:=at_,mv:=(⟨none,0,0⟩,[]),old:=X.state,m:=h1.size,ms:=l',w:=w',ws:=X.ws,ch:=false }
 have far:∀ {F:Nat→Prop} {g g':Heap},Chg F g g'→Chg F g g':=fun x=>x
 have opn:OpnR n h10 rho' k (keepT X.T) o:={
  ob:=mono (by omega) (c10.own (c9.own o8 fun a ha e=>by cases ha; exact absurd (show h3.size=h1.size from e) (by omega)) fun a ha e=>by cases ha; exact absurd (show h3.size=X.b.block from e) (by omega))
  ro:=ho6
  sn:=mono (by omega) (c10.own (c9.own s8 fun a ha e=>by cases ha; exact absurd (show sn.block=h1.size from e) (by omega)) fun a ha e=>by cases ha; exact absurd (show sn.block=X.b.block from e) (by omega))
  ks:=List.mem_cons_self ..
  rs:=hs0
  mv:=⟨Own.nil _ _ _,fun a ha=>(by cases ha),fun x hx=>(by cases hx)⟩
  mp:=m9.chg c10 (by omega)
  rm:=hm9
  ow:=⟨mono (by omega) (c10.own (c9.own w8.own fun a ha e=>by have:=hwb a ha; omega) fun a ha e=>by have:=hwb a ha; omega),w8.wf⟩
  rwd:=hw10 }
 refine s_ret ⟨rfl, .inr ⟨hin,rfl,rho',o,⟨⟨cF.mono fun i hi e=>by rw [hFb i hi e]; omega,fun i hi _=>hold i hi,fun i hi hj=>?_⟩,cF,?_,rfl,rfl,rfl,rfl,hp,rfl,rfl⟩⟩⟩
 ·by_cases hlt:i<h.size
  ·rw [hold i hlt]; rcases hj with hj | hj
   ·omega
   ·exact .inr hj
  ·show (if _ then _ else _)=0∨_<(if _ then _ else _)∧(if _ then _ else _)≤_
   rw [if_neg hlt]
   split
   ·exact .inr (by omega)
   ·split
    ·exact .inr (by omega)
    ·split
     ·exact .inr (by omega)
     ·exact .inl rfl
 ·exact {
   t:=(r.tK cF fun i hi e=>by rw [hFb i hi e]; omega).keep
   rt:=r.rtK (hsame _)
   mp:=r.mpK cF fun i hi e=>by rw [hFb i hi e]; omega
   rm:=r.rmK (hsame _)
   ow:=r.owK cF fun i hi e=>by rw [hFb i hi e]; omega
   rwd:=r.rwK (hsame _)
   ou:=r.ouK cF fun i hi e=>by rw [hFb i hi e]; omega
   ru:=r.ruK (hsame _)
   orr:=r.orK cF fun i hi e=>by rw [hFb i hi e]; omega
   rr:=r.rrK (hsame _)
   gs:=r.gsK cF (fun i hi e=>by rw [hFb i hi e]; omega) (hsame _) rfl fun s hs=>List.mem_cons_of_mem _ hs
   nw:=fun o' ho'=>by cases ho'; exact opn
   ob:=ob10
   rb:=by rw [hold _ hbl]; exact r.rb }
end Go.Sw.Hist

set_option linter.unusedVariables false
set_option linter.unusedSimpArgs false
set_option maxRecDepth 100000
namespace Go.Sw.Hist
open Go.Sw.Any Go.Sw.Codec Go.Sw.Piece
open Go.Sw.Tree (iv s_putAll s_newP s_getP s_getT s_putP eqI_self Placed cell_own wp_whileG minI_eq)
variable {P:Program} {S:Ids} {h:Heap} {Q:Nat→List Value→Heap→Prop} {n k:Nat} {rho:Nat→Nat} {X:Bk}
structure ClH (P:Program) (S:Ids):Prop where
 shut:∀ (b:Option Addr) (h:Heap) (R:Heap→Prop),wp P (F_Book_shut S b) h (fun tag _ h'=>tag=0∧R h')→DefersV P S.f_Book_shut [.pointer b] h R
theorem s_deferv {i:FuncId} {args:List Value} {K:Prog} (hk:wp P K h fun t vs h'=>DefersV P i args h' fun h''=>Q t vs h''):wp P (.deferv i args K) h Q:=hk
theorem s_shut (C:ClH P S) {b:Addr} {vs:List Value} {R:Heap→Prop} (ob:Own n 1 h ⟨some b,10,10⟩ vs) (hk:∀ h',Own n 1 h' ⟨some b,10,10⟩ (vs.set 6 (.pointer none))→Chg (fun i=>i=b.block) h h'→R h'):DefersV P S.f_Book_shut [.pointer (some b)] h R:=by
 refine C.shut (some b) h R ?_
 unfold F_Book_shut
 have hl:vs.length=10:=by have:=ob.1; simpa using this.symm
 exact wp_grd rfl (wp_grd rfl (s_setC' (.pointer none) ob (by omega) rfl fun h' o u=>s_ret ⟨rfl,hk h' o (Chg.of_upd u fun a ha _=>by cases ha; rfl)⟩))
theorem c_DropShut (r:BookR S n h rho k X) (hn:X.now=none):wp P (F_Book_Drop S (some X.b)) h fun tg vs h'=>tg=0∧vs=[i64v 0,i64v 71]∧h'=h:=by
 unfold F_Book_Drop
 exact r.rd (b:=.ptr) none (by simp [bkC,hn,B.inj]) (wp_ifB (fun _=>s_ret ⟨rfl,rfl,rfl⟩) fun hc=>by cases hc)
abbrev dropB (X:Bk) (o:Opn) (T':TX):Bk:={ X with T:=T',m:=o.m,ms:=o.ms,w:=o.w,ws:=o.ws,now:=none }
open Classical in
theorem c_Drop (C:ClH P S) {o:Opn} (r:BookR S n h rho k X) (hn:X.now=some o) :
  wp P (F_Book_Drop S (some X.b)) h fun tg vs h'=>tg=0∧vs=[i64v o.bg,i64v 0]∧∃ rho' T',StepR k h rho h' rho'∧BookR S n h' rho' k (dropB X o T')∧Nxt X.T T' h.size∧T'.cur=o.sb∧T'.A=X.T.A:=by
 unfold F_Book_Drop
 have ro:=r.nw o hn
 have hbl:X.b.block<h.size:=(r.ob.lt rfl).2
 have hnh:n≤h.size:=Nat.le_trans (r.ob.lt rfl).1 (Nat.le_of_lt hbl)
 have c6:(bkC X)[6]? = some (.pointer (some o.o)):=by simp [bkC,hn]
 have sh0:∀ j,shiftTo (shiftTo (some o.o) 0) j=shiftTo (some o.o) j:=fun j=>by rw [shiftTo_some,add_zero']
 refine r.rd (b:=.ptr) (some o.o) c6 (wp_ifB (fun hc=>by cases hc) fun _=>s_deferv ?_)
 refine r.rd (b:=.ptr) (some X.T.p) rfl (r.rd (b:=.ptr) (some o.o) c6 (wp_grd rfl (wp_grd rfl (wp_grd rfl ?_))))
 rw [sh0]
 refine wp_load1 (b:=.ptr) (o.o.add 0) (some o.bef) rfl (cells_iff.1 ro.ob.cells 0 _ rfl) ?_
 refine wp_callW (c_Back r.t hnh ro.ks ro.sn) fun tg vs h1 hx=>?_
 obtain ⟨rfl,rfl,c1,T',t1,nx,hcur,hA⟩:=hx
 refine ⟨rfl,(0,()),rfl,?_⟩
 have hwf:∀ i,i<h.size→wfoot X.T i→rho i=k+8:=fun i _ hi=>r.rt i (wfoot_Z r.t hi)
 have ob1:=r.obK c1 fun i hi hf=>by rw [hwf i hi hf]; omega
 have oo1:Own n 1 h1 ⟨some o.o,10,10⟩ (opnC o):=c1.own ro.ob fun a ha hf=>by cases ha; have h2:=hwf _ (ro.ob.lt rfl).2 hf; have h3:=ro.ro; rw [h3] at h2; omega
 have rd1:∀ {b:B} {i:Nat} (x:b.den) {K:b.den→Prog} {Q:Nat→List Value→Heap→Prop},(bkC X)[i]? = some (b.inj x)→wp P (K x) h1 Q→wp P (grd (someB (some X.b)) <| grd (someB (some X.b)) <| .load (.one b) (shiftTo (some X.b) i) K) h1 Q:=
  @fun b i x K Q hv hk=>wp_grd rfl (wp_grd rfl (wp_load1 (b:=b) (X.b.add i) x rfl (cells_iff.1 ob1.cells _ _ hv) hk))
 refine rd1 (b:=.ptr) (some o.o) c6 (wp_grd rfl (wp_grd rfl (wp_load1 (b:=.map) (o.o.add 7) (some o.m) rfl (cells_iff.1 oo1.cells 7 _ rfl) ?_)))
 refine rd1 (b:=.ptr) (some o.o) c6 (wp_grd rfl (wp_grd rfl (wp_load1 (b:=.sl) (o.o.add 8) o.w rfl (cells_iff.1 oo1.cells 8 _ rfl) ?_)))
 refine wp_grd rfl (wp_grd rfl (s_setC' (.map (some o.m)) ob1 (by simp [bkC]) rfl fun h2 ob2 u2=>?_))
 refine wp_grd rfl (wp_grd rfl (s_setC' (slv o.w) ob2 (by simp [bkC]) rfl fun h3 ob3 u3=>?_))
 have c3:Chg (fun i=>i=X.b.block) h1 h3:=(Chg.of_upd (F:=fun i=>i=X.b.block) u2 fun a ha _=>by cases ha; rfl).trans (Chg.of_upd (F:=fun i=>i=X.b.block) u3 fun a ha _=>by cases ha; rfl) fun _ _ x=>x
 have oo3:Own n 1 h3 ⟨some o.o,10,10⟩ (opnC o):=c3.own oo1 fun a ha e=>by cases ha; have h2:=ro.ro; have h3:=r.rb; have e:o.o.block=X.b.block:=e; rw [e] at h2; omega
 refine wp_grd rfl (wp_grd rfl (wp_load1 (b:=.ptr) (X.b.add 6) (some o.o) rfl (cells_iff.1 ob3.cells 6 _ (by simp [bkC,hn,B.inj])) (wp_grd rfl (wp_grd rfl (wp_grd rfl ?_)))))
 rw [sh0]
 refine wp_load1 (b:=.int .i64) (o.o.add 2) o.bg rfl (cells_iff.1 oo3.cells 2 _ rfl) (s_ret (s_shut C ob3 fun h4 ob4 c4=>⟨rfl,rfl,?_⟩))
 have cF:Chg (fun i=>wfoot X.T i∨i=X.b.block) h h4:=(c1.mono fun i _ hi=>.inl hi).trans (c3.trans c4 fun _ _ x=>x) fun i _ hi=>.inr hi
 have hF:∀ i,i<h.size→(wfoot X.T i∨i=X.b.block)→rho i=k+8∨rho i=k+1:=fun i hi hf=>hf.elim (fun h=>.inl (hwf i hi h)) fun e=>.inr (by rw [e]; exact r.rb)
 let rho':Nat→Nat:=fun i=>if i<h.size then (if rho i=k+9 then k+2 else if rho i=k+10 then k+3 else if rho i=k+2∨rho i=k+3∨rho i=k+6∨rho i=k+7 then 0 else rho i) else if T'.Z i then k+8 else 0
 have hold:∀ i,i<h.size→rho' i=(if rho i=k+9 then k+2 else if rho i=k+10 then k+3 else if rho i=k+2∨rho i=k+3∨rho i=k+6∨rho i=k+7 then 0 else rho i):=fun i hi=>if_pos hi
 have hsame:∀ j,(j≤k+1∨j=k+4∨j=k+5∨j=k+8∨k+10<j)→∀ i,i<h.size→rho i=j→rho' i=j:=fun j hj i hi e=>by rw [hold i hi,e,if_neg (by omega),if_neg (by omega),if_neg (by omega)]
 have h13:=c3.1
 have h34:=c4.1
 refine ⟨rho',T',⟨cF.mono fun i hi hf=>by have:=hF i hi hf; omega,fun i hi ho=>hsame _ (by omega) i hi rfl,fun i hi hj=>?_⟩,?_,nx,hcur,hA⟩
 ·by_cases hlt:i<h.size
  ·rw [hold i hlt]
   split
   ·exact .inr (by omega)
   ·split
    ·exact .inr (by omega)
    ·split
     ·exact .inl rfl
     ·rcases hj with hj | hj
      ·omega
      ·exact .inr hj
  ·show (if _ then _ else _)=0∨_<(if _ then _ else _)∧(if _ then _ else _)≤_
   rw [if_neg hlt]
   split
   ·exact .inr (by omega)
   ·exact .inl rfl
 ·have c14:Chg (fun i=>i=X.b.block) h1 h4:=c3.trans c4 fun _ _ x=>x
  have hzb:¬ T'.Z X.b.block:=fun hz=>by
   rcases nx.zn _ hz with h1 | h1
   ·have h2:=r.rt _ h1; have h3:=r.rb; omega
   ·omega
  exact {
   t:=t1.chg c14 fun i hz e=>hzb (by rw [← e]; exact hz)
   rt:=fun i hz=>by
    by_cases hlt:i<h.size
    ·rcases nx.zn i hz with h1 | h1
     ·exact hsame _ (by omega) i hlt (r.rt i h1)
     ·omega
    ·show (if _ then _ else _)=_
     rw [if_neg hlt,if_pos hz]
   mp:=ro.mp.chg cF fun hf=>by have:=hF _ ro.mp.lt hf; have:=ro.rm; omega
   rm:=by show rho' o.m=_; rw [hold _ ro.mp.lt,if_pos ro.rm]
   ow:=cF.ownL ro.ow fun a ha hf=>by have:=hF _ (ro.ow.own.lt ha).2 hf; have:=ro.rwd a ha; omega
   rwd:=fun a ha=>by show rho' a.block=_; rw [hold _ (ro.ow.own.lt ha).2,if_neg (by have:=ro.rwd a ha; omega),if_pos (ro.rwd a ha)]
   ou:=r.ouK cF fun i hi hf=>by have:=hF i hi hf; omega
   ru:=r.ruK (hsame _ (by omega))
   orr:=r.orK cF fun i hi hf=>by have:=hF i hi hf; omega
   rr:=r.rrK (hsame _ (by omega))
   gs:=r.gsK cF (fun i hi hf=>by have:=hF i hi hf; omega) (hsame _ (by omega)) nx.p fun s hs=>by rw [nx.kept]; exact hs
   nw:=fun o' ho'=>by cases ho'
   ob:=by
    have:bkC (dropB X o T')=(((bkC X).set 4 (.map (some o.m))).set 5 (slv o.w)).set 6 (.pointer none):=by simp [bkC,nx.p]
    show Own n 1 h4 ⟨some X.b,10,10⟩ (bkC (dropB X o T'))
    rw [this]; exact ob4
   rb:=hsame _ (by omega) _ hbl r.rb }
end Go.Sw.Hist

set_option linter.unusedVariables false
set_option linter.unusedSimpArgs false
set_option maxRecDepth 100000
namespace Go.Sw.Hist
open Go.Sw.Any Go.Sw.Codec Go.Sw.Piece
open Go.Sw.Tree (iv s_putAll s_newP s_getP s_getT s_putP eqI_self Placed cell_own wp_whileG minI_eq)
variable {P:Program} {S:Ids} {h:Heap} {Q:Nat→List Value→Heap→Prop} {n k:Nat} {rho:Nat→Nat} {X:Bk}
structure NewB (depth:Int) (T:TX) (X:Bk):Prop where
 T:X.T=T
 depth:X.depth=depth
 U:X.U.2=[]
 R:X.R.2=[]
 ms:X.ms=[]
 ws:X.ws=[]
 now:X.now=none
 nums:X.state=0∧X.saved=0∧X.last=0
inductive BOpenR (S:Ids) (h0 h:Heap) (enc limit depth:Int) (l:List Int):Option Addr→Int→Prop where
 | deep:¬ (1≤depth∧depth≤200)→BOpenR S h0 h enc limit depth l none 1
 | text {g g':Heap} {e:Int}:1≤depth∧depth≤200→e≠0→OpenR S g g' enc limit l none e→BOpenR S h0 h enc limit depth l none e
 | ok (T:TX) (X:Bk):1≤depth∧depth≤200→known enc→0≤limit∧limit≤65536→l.length≤limit→T.enc=enc→T.limit=limit→T.kept=[]→T.A=[]→els enc T.cur.ps=elsF 0 0 (toks enc l)→bytesL T.cur.ps=l →
   NewB depth T X→(∀ (k:Nat) (rho:Nat→Nat),∃ rho',StepR k h0 rho h rho'∧(∀ i,i<h0.size→rho' i=rho i)∧BookR S h0.size h rho' k X)→BOpenR S h0 h enc limit depth l (some X.b) 0
theorem TextR.mono {m:Nat} {T:TX} (t:TextR S n h T) (hm:m≤n):TextR S m h T:=
 ⟨t.enc,t.lim,t.ob.mono hm,t.ad.mono hm,t.adp,t.adk,t.cur,t.kept,t.zp,t.za,fun i hi=>⟨Nat.le_trans hm (t.lo i hi).1,(t.lo i hi).2⟩⟩
open Classical in
theorem c_BOpen (M:Meth0 P S) {enc limit depth:Int} {b:Sl} {l:List Int} (hb:Lst .u8 h b l) :
  Gives P (F_history_Open S enc b limit depth) [.one .ptr, .one (.int .i64)] h fun (y:Option Addr×Int×Unit) h'=>BOpenR S h h' enc limit depth l y.1 y.2.1:=by
 unfold F_history_Open Gives
 refine bind_bool (¬ (1≤depth∧depth≤200)) (wp_ifB (fun hc=>s_ret ⟨rfl,Ext.refl _,true,rfl,?_⟩) fun hc=>s_ret ⟨rfl,Ext.refl _,_,rfl,?_⟩) fun bb h1 e1 hbb=>wp_ifB (fun hc=>s_ret ⟨rfl,e1,(none,1,()),rfl, .deep (hbb.1 hc)⟩) fun hc=>?_
 ·rw [ltI_iff] at hc; exact ⟨fun _=>by omega,fun _=>rfl⟩
 ·rw [ltI_not] at hc; rw [gtI_iff]; exact ⟨fun _=>by omega,fun _=>by omega⟩
 have hd:1≤depth∧depth≤200:=by
  by_cases hx:1≤depth∧depth≤200
  ·exact hx
  ·have:=hbb.2 hx
   dsimp only at hc; rw [this] at hc; cases hc
 refine wp_call (c_Open M (enc:=enc) (limit:=limit) (hb.ext e1)) fun ⟨(p:Option Addr),(er:Int),_⟩ h2 e2 hx=>?_
 have hx:OpenR S h1 h2 enc limit l p er:=hx
 dsimp only
 have bad:∀ e:Int,e≠0→OpenR S h1 h2 enc limit l none e→wp P (ifB (neI e 0) (.ret 0 [.pointer none,i64v e]) .fail) h2 (fun t vs h'=>t=0∧Ext h h'∧∃ x:Option Addr×Int×Unit,vs=Ts.inj [.one .ptr, .one (.int .i64)] x∧BOpenR S h h' enc limit depth l x.1 x.2.1):=fun e he ho=>
  wp_ifB (fun _=>s_ret ⟨rfl,e1.trans e2,(none,e,()),rfl, .text hd he ho⟩) fun hc=>by rw [neI_not] at hc; exact absurd hc he
 have bad':∀ (e:Int) (K:Prog),e≠0→OpenR S h1 h2 enc limit l none e→wp P (ifB (neI e 0) (.ret 0 [.pointer none,i64v e]) K) h2 (fun t vs h'=>t=0∧Ext h h'∧∃ x:Option Addr×Int×Unit,vs=Ts.inj [.one .ptr, .one (.int .i64)] x∧BOpenR S h h' enc limit depth l x.1 x.2.1):=fun e K he ho=>
  wp_ifB (fun _=>s_ret ⟨rfl,e1.trans e2,(none,e,()),rfl, .text hd he ho⟩) fun hc=>by rw [neI_not] at hc; exact absurd hc he
 cases hx with
 | enc a=>exact bad' _ _ (by decide) (.enc a)
 | arg a b=>exact bad' _ _ (by decide) (.arg a b)
 | full a b c=>exact bad' _ _ (by decide) (.full a b c)
 | ok T a b c t en li ke A el by_ zn=>
  refine wp_ifB (fun hc=>by cases hc) fun _=>s_mkmap fun h3 e3 z3 m3=>?_
  refine fun elem=>?_
  have e4:Ext h3 (h3.push (.cells [.pointer (some T.p),i64v depth, .slice none 0 0, .slice none 0 0, .map (some h2.size), .slice none 0 0, .pointer none,i64v 0,i64v 0,i64v 0].toArray elem)):=Ext.push ..
  have o4:Own h3.size 1 (h3.push (.cells [.pointer (some T.p),i64v depth, .slice none 0 0, .slice none 0 0, .map (some h2.size), .slice none 0 0, .pointer none,i64v 0,i64v 0,i64v 0].toArray elem)) ⟨some ⟨h3.size,0,none⟩,10,10⟩ [.pointer (some T.p),i64v depth, .slice none 0 0, .slice none 0 0, .map (some h2.size), .slice none 0 0, .pointer none,i64v 0,i64v 0,i64v 0]:=own_alloc rfl (by decide) (by decide)
  generalize h3.push (.cells [.pointer (some T.p),i64v depth, .slice none 0 0, .slice none 0 0, .map (some h2.size), .slice none 0 0, .pointer none,i64v 0,i64v 0,i64v 0].toArray elem)=h4 at e4 o4 ⊢
  have hs1:=e1.1
  have hs2:=e2.1
  have eF:Ext h h4:=((e1.trans e2).trans e3).trans e4
  let X:Bk:={ b:=⟨h3.size,0,none⟩,T:=T,depth:=depth,U:=(⟨none,0,0⟩,[]),R:=(⟨none,0,0⟩,[]),m:=h2.size,ms:=[],w:=⟨none,0,0⟩,ws:=[],now:=none,state:=0,saved:=0,last:=0 }
  refine s_ret ⟨rfl,eF,(some X.b,0,()),rfl, .ok T X hd a b c en li ke A el by_ ⟨rfl,rfl,rfl,rfl,rfl,rfl,rfl,rfl,rfl,rfl⟩ fun k rho=>?_⟩
  let rho':Nat→Nat:=fun i=>if i<h.size then rho i else if T.Z i then k+8 else if i=h2.size then k+2 else if i=h3.size then k+1 else 0
  have hZ:∀ i,T.Z i→h1.size≤i∧i<h2.size:=fun i hi=>t.lo i hi
  have nz2:¬ T.Z h2.size:=fun hz=>by have:=hZ _ hz; omega
  have nz3:¬ T.Z h3.size:=fun hz=>by have:=hZ _ hz; omega
  have r2:rho' h2.size=k+2:=by show (if _ then _ else _)=_; rw [if_neg (by omega),if_neg nz2,if_pos rfl]
  have r3:rho' h3.size=k+1:=by show (if _ then _ else _)=_; rw [if_neg (by omega),if_neg nz3,if_neg (by omega),if_pos rfl]
  refine ⟨rho',⟨Chg.of_ext eF,fun i hi _=>if_pos hi,fun i hi hj=>?_⟩,fun i hi=>if_pos hi,?_⟩
  ·by_cases hlt:i<h.size
   ·have:rho' i=rho i:=if_pos hlt
    rw [this]; rcases hj with hj | hj
    ·omega
    ·exact .inr hj
   ·show (if _ then _ else _)=0∨_<(if _ then _ else _)∧(if _ then _ else _)≤_
    rw [if_neg hlt]
    split
    ·exact .inr (by omega)
    ·split
     ·exact .inr (by omega)
     ·split
      ·exact .inr (by omega)
      ·exact .inl rfl
  ·exact {
    t:=TextR.mono ((t.ext e3).ext e4) (by omega)
    rt:=fun i hi=>by have:=hZ i hi; show (if _ then _ else _)=_; rw [if_neg (by omega),if_pos hi]
    mp:=m3.ext e4
    rm:=r2
    ow:=OwnL.nil _ _ _
    rwd:=fun a ha=>by cases ha
    ou:=Own.nil _ _ _
    ru:=fun a ha=>by cases ha
    orr:=Own.nil _ _ _
    rr:=fun a ha=>by cases ha
    gs:=fun g hg=>by rcases hg with hg | hg <;> cases hg
    nw:=fun o ho=>by cases ho
    ob:=Own.mono o4 (by omega)
    rb:=r3 }
end Go.Sw.Hist

set_option linter.unusedVariables false
set_option linter.unusedSimpArgs false
set_option maxRecDepth 100000
namespace Go.Sw.Hist
open Go.Sw.Any Go.Sw.Codec Go.Sw.Piece
open Go.Sw.Tree (iv s_putAll s_newP s_getP s_getT s_putP eqI_self Placed cell_own wp_whileG minI_eq)
variable {P:Program} {S:Ids} {h:Heap} {Q:Nat→List Value→Heap→Prop} {n k:Nat} {rho:Nat→Nat} {X:Bk}
open Classical in
theorem c_Watch {s:Sl} {l:List Int} (r:BookR S n h rho k X) (hs:Lst .i64 h s l) (hl:l.length≤1099511627776) :
  wp P (F_Book_Watch S (some X.b) s) h fun tg vs h'=>tg=0∧((¬ (∀ v∈l,insideB X v)∧vs=[i64v 2]∧Ext h h')∨((∀ v∈l,insideB X v)∧vs=[i64v 0]∧Chg (fun i=>i=X.b.block) h h'∧∃ rho' w',StepR k h rho h' rho'∧BookR S n h' rho' k { X with w:=w',ws:=l })):=by
 unfold F_Book_Watch
 have hlen:=hs.len
 have hbl:X.b.block<h.size:=(r.ob.lt rfl).2
 have hnh:n≤h.size:=Nat.le_trans (r.ob.lt rfl).1 (Nat.le_of_lt hbl)
 have hn:natI s.len=(l.length:Int):=by rw [natI_def,hlen]
 rw [hn]
 refine wp_while (fun (q:Int×Unit) h'=>Ext h h'∧∃ i:Nat,q.1=i∧i≤l.length∧∀ v∈l.take i,insideB X v) (fun q _=>((l.length:Int)-q.1).toNat)
  (fun t vs h'=>Ext h h'∧((t=2∧vs=[]∧∀ v∈l,insideB X v)∨(t=1∧vs=[i64v 2]∧¬ ∀ v∈l,insideB X v))) ⟨Ext.refl _,0,rfl,Nat.zero_le _,by simp⟩ ?_ ?_
 ·rintro ⟨(i':Int),u⟩ h1 ⟨e1,i,hi,hil,hall⟩
  dsimp only at hi ⊢
  subst hi
  refine wp_ifB (fun hc=>?_) fun hc=>?_
  ·rw [ltI_iff] at hc
   have hlt:i<l.length:=by omega
   refine s_at (hs.ext e1) (by omega) (by omega) fun _=>?_
   have hg:l.getD ((i:Int).toNat) 0=l[i]:=by rw [Int.toNat_natCast]; simp [List.getD,List.getElem?_eq_getElem hlt]
   rw [hg]
   have r1:=r.ext e1
   refine wp_call (c_inside (at_:=l[i]) r1.ob rfl r1.t) fun ⟨(b1:Bool),_⟩ h2 e2 hb=>wp_ifB (fun hd=>s_ret ⟨fun hx=>absurd hx (by decide),fun _=>⟨e1.trans e2, .inr ⟨rfl,rfl,fun hx=>?_⟩⟩⟩) fun hd=>?_
   ·rw [notB_iff] at hd
    have:=hb.2 (hx _ (List.getElem_mem hlt))
    dsimp only at this hd
    rw [this] at hd; cases hd
   ·rw [notB_not] at hd
    rw [add_ok (by omega) (by omega)]
    refine s_ret ⟨fun _=>⟨((i:Int)+1,()),rfl,⟨e1.trans e2,i+1,by simp,by omega,fun v hv=>?_⟩,by dsimp only; omega⟩,fun hx=>absurd rfl hx⟩
    rw [List.take_add_one,List.getElem?_eq_getElem hlt] at hv
    rcases List.mem_append.1 hv with hv | hv
    ·exact hall v hv
    ·simp at hv; subst hv; exact hb.1 hd
  ·rw [ltI_not] at hc
   have:i=l.length:=by omega
   subst this
   rw [List.take_length] at hall
   exact s_ret ⟨fun hx=>absurd hx (by decide),fun _=>⟨e1, .inl ⟨rfl,rfl,hall⟩⟩⟩
 ·rintro t vs h1 ⟨e1,⟨rfl,rfl,hall⟩ | ⟨rfl,rfl,hno⟩⟩
  ·refine s_tag (s_cast0 (wp_call (c_Clone (hs.ext e1) hl) fun ⟨(w':Sl),_⟩ h2 e2 w2=>?_))
   have w2:OwnL h1.size .i64 h2 w' l:=w2
   dsimp only
   have e02:=e1.trans e2
   have r2:=r.ext e02
   refine wp_grd rfl (wp_grd rfl (s_setC' (slv w') r2.ob (by simp [bkC]) rfl fun h3 o3 u3=>?_))
   have c3:Chg (fun i=>i=X.b.block) h2 h3:=Chg.of_upd u3 fun a ha _=>by cases ha; rfl
   have cF:Chg (fun i=>i=X.b.block) h h3:=Chg.pre e02 c3
   have hs1:=e1.1
   let rho':Nat→Nat:=fun i=>if i<h.size then rho i else if (∃ a,w'.base=some a∧a.block=i) then k+3 else 0
   have hsame:∀ j i,i<h.size→rho i=j→rho' i=j:=fun j i hi e=>by show (if _ then _ else _)=_; rw [if_pos hi]; exact e
   have hFb:∀ i,i<h.size→i=X.b.block→rho i=k+1:=fun i _ e=>by rw [e]; exact r.rb
   refine s_ret ⟨rfl, .inr ⟨hall,rfl,cF,rho',w',⟨cF.mono fun i hi e=>by rw [hFb i hi e]; omega,fun i hi _=>hsame _ i hi rfl,fun i hi hj=>?_⟩,?_⟩⟩
   ·by_cases hlt:i<h.size
    ·rw [hsame _ i hlt rfl]; rcases hj with hj | hj
     ·omega
     ·exact .inr hj
    ·show (if _ then _ else _)=0∨_<(if _ then _ else _)∧(if _ then _ else _)≤_
     rw [if_neg hlt]
     split
     ·exact .inr (by omega)
     ·exact .inl rfl
   ·exact {
     t:=r.tK cF fun i hi e=>by rw [hFb i hi e]; omega
     rt:=r.rtK (hsame _)
     mp:=r.mpK cF fun i hi e=>by rw [hFb i hi e]; omega
     rm:=r.rmK (hsame _)
     ow:=(c3.ownL w2 fun a ha e=>by have:=(w2.own.lt ha).1; omega).mono (by omega)
     rwd:=fun a ha=>by have:=(w2.own.lt ha).1; show (if _ then _ else _)=_; rw [if_neg (by omega),if_pos ⟨a,ha,rfl⟩]
     ou:=r.ouK cF fun i hi e=>by rw [hFb i hi e]; omega
     ru:=r.ruK (hsame _)
     orr:=r.orK cF fun i hi e=>by rw [hFb i hi e]; omega
     rr:=r.rrK (hsame _)
     gs:=r.gsK cF (fun i hi e=>by rw [hFb i hi e]; omega) (hsame _) rfl fun s hs=>hs
     nw:=r.nwK cF (fun i hi e=>by rw [hFb i hi e]; omega) (fun i hi _=>hsame _ i hi rfl) rfl fun s hs=>hs
     ob:=o3
     rb:=hsame _ _ hbl r.rb }
  ·exact s_tagNo (by decide) (s_tag (s_castI (s_ret ⟨rfl, .inl ⟨hno,rfl,e1⟩⟩)))
end Go.Sw.Hist

set_option linter.unusedVariables false
set_option linter.unusedSimpArgs false
set_option maxRecDepth 100000
namespace Go.Sw.Hist
open Go.Sw.Any Go.Sw.Codec Go.Sw.Piece
def mvOf (e:EdD):MvD:=(e.1,e.2.1,(e.2.2.1.2.length:Int),())
def PlM (len:Int):Int→List MvD→Prop
 | _,[]=>True
 | at_,e::es=>at_≤e.1∧e.1≤e.2.1∧e.2.1≤len∧0≤e.2.2.1∧PlM len e.2.1 es
theorem plM_of {len:Int}:∀ {es:List EdD} {at_:Int},Plc len at_ es→PlM len at_ (es.map mvOf)
 | [],_,_=>trivial
 | e::es,at_,⟨a,b,c,d⟩=>⟨a,b,c,by show (0:Int)≤(e.2.2.1.2.length:Int); omega,plM_of d⟩
def sumD (l:List MvD):Int:=(l.map fun e=>e.2.2.1-(e.2.1-e.1)).sum
theorem sumD_cons (e:MvD) (l:List MvD):sumD (e::l)=(e.2.2.1-(e.2.1-e.1))+sumD l:=by simp [sumD]
theorem sumD_lo {len:Int}:∀ {l:List MvD} {at_:Int},PlM len at_ l→at_≤len→at_≤len+sumD l
 | [],at_,_,h=>by simp [sumD]; exact h
 | e::l,at_,⟨a,b,c,d,f⟩,h=>by
  have:=sumD_lo f c
  rw [sumD_cons]; omega
theorem PlM.mb {len:Int} (hl:len≤2199023255552):∀ {l:List MvD} {at_:Int},PlM len at_ l→0≤at_→(∀ e∈l,e.2.2.1≤2199023255552)→∀ e∈l,0≤e.1∧e.1≤e.2.1∧e.2.1≤2199023255552∧0≤e.2.2.1∧e.2.2.1≤2199023255552
 | [],_,_,_,_=>fun e he=>by cases he
 | x::l,at_,⟨a,b,c,d,f⟩,h0,hn=>fun e he=>by
  rcases List.mem_cons.1 he with rfl | he
  ·exact ⟨by omega,b,by omega,d,hn _ (List.mem_cons_self ..)⟩
  ·exact PlM.mb hl f (by omega) (fun y hy=>hn y (List.mem_cons_of_mem _ hy)) e he
theorem goL_below {len:Int}:∀ {l:List MvD} {at_ m:Int},PlM len at_ l→m<at_→goL m l=(m,true)
 | [],_,_,_,_=>rfl
 | e::l,at_,m,⟨a,b,c,d,f⟩,h=>by
  have ih:=goL_below (m:=m) f (by omega)
  show go1 e (goL m l)=_
  rw [ih]
  unfold go1
  rw [if_pos (show m<e.1 by omega)]
theorem goL_in {len:Int}:∀ {l:List MvD} {at_ m:Int},PlM len at_ l→at_≤m→m≤len→at_≤(goL m l).1∧(goL m l).1≤len+sumD l
 | [],at_,m,_,h0,h1=>by simp [goL,sumD]; omega
 | e::l,at_,m,⟨a,b,c,d,f⟩,h0,h1=>by
  have hs:=sumD_lo f c
  rw [sumD_cons]
  have e1:goL m (e::l)=go1 e (goL m l):=rfl
  rw [e1]
  by_cases hm:m<e.2.1
  ·rw [goL_below f hm]
   unfold go1
   dsimp only
   split
   ·dsimp only; omega
   ·rw [if_neg (by omega)]
    dsimp only; omega
  ·have ih:=goL_in (m:=m) f (by omega) h1
   unfold go1
   rw [if_neg (by omega),if_pos ih.1]
   dsimp only; omega
theorem invL_pl {len:Int}:∀ {l:List MvD} {at_ sh:Int},PlM len at_ l→PlM (len+sh+sumD l) (at_+sh) (invL sh l)
 | [],_,_,_=>trivial
 | e::l,at_,sh,⟨a,b,c,d,f⟩=>by
  have ih:=invL_pl (sh:=sh+(e.2.2.1-(e.2.1-e.1))) f
  have hs:=sumD_lo f c
  rw [sumD_cons]
  have e1:len+sh+(e.2.2.1-(e.2.1-e.1)+sumD l)=len+(sh+(e.2.2.1-(e.2.1-e.1)))+sumD l:=by omega
  have e2:e.2.1+(sh+(e.2.2.1-(e.2.1-e.1)))=e.1+sh+e.2.2.1:=by omega
  rw [e1]
  rw [e2] at ih
  refine ⟨?_,?_,?_,?_,ih⟩
  ·show at_+sh≤e.1+sh; omega
  ·show e.1+sh≤e.1+sh+e.2.2.1; omega
  ·show e.1+sh+e.2.2.1≤_; omega
  ·show 0≤e.2.1-e.1; omega
theorem sumD_inv:∀ {l:List MvD} {sh:Int},sumD (invL sh l) = - sumD l
 | [],_=>rfl
 | e::l,sh=>by
  have ih:=sumD_inv (l:=l) (sh:=sh+(e.2.2.1-(e.2.1-e.1)))
  show sumD ((e.1+sh,e.1+sh+e.2.2.1,e.2.1-e.1,())::invL _ l)=_
  rw [sumD_cons,sumD_cons,ih]
  dsimp only
  omega
end Go.Sw.Hist

set_option linter.unusedVariables false
set_option linter.unusedSimpArgs false
set_option maxRecDepth 100000
namespace Go.Sw.Hist
open Go.Sw.Any Go.Sw.Codec Go.Sw.Piece
theorem allE_len {E:List El}:∀ {es:List EdD} {at_:Int},Plc E.length at_ es→0≤at_→((allE E es).length:Int)=E.length+sumD (es.map mvOf)
 | [],_,_,_=>by simp [allE,sumD]
 | e::es,at_,⟨a,b,c,d⟩,h0=>by
  have ih:=allE_len (E:=E) d (by omega)
  have lo:=sumD_lo (plM_of d) c
  rw [allE_cons,List.map_cons,sumD_cons]
  have hl:(one1 (allE E es) e).length=min e.1.toNat (allE E es).length+e.2.2.1.2.length+((allE E es).length-e.2.1.toNat):=by simp [one1]; omega
  rw [hl]
  simp only [mvOf]
  omega
end Go.Sw.Hist

set_option linter.unusedVariables false
set_option linter.unusedSimpArgs false
set_option maxRecDepth 100000
namespace Go.Sw.Hist
open Go.Sw.Any Go.Sw.Codec Go.Sw.Piece
end Go.Sw.Hist

set_option linter.unusedVariables false
set_option linter.unusedSimpArgs false
set_option maxRecDepth 100000
namespace Go.Sw.Hist
open Go.Sw.Any Go.Sw.Codec Go.Sw.Piece
open Go.Sw.Tree (iv s_putAll s_newP s_getP s_getT s_putP eqI_self Placed cell_own wp_whileG minI_eq)
variable {P:Program} {S:Ids} {h:Heap} {Q:Nat→List Value→Heap→Prop} {n k:Nat} {rho:Nat→Nat} {X:Bk}
def effE (e:EdD):Bool:=decide (e.1<e.2.1) || decide (0<e.2.2.1.2.length)
theorem s_moves {b:Addr} {vs:List Value} {o:Opn} {x:Eds} {K:Sl→Prog} (ob:Own n 1 h ⟨some b,10,10⟩ vs) (h6:vs[6]? = some (.pointer (some o.o))) (oo:Own n 1 h ⟨some o.o,10,10⟩ (opnC o)) (hne:o.o.block≠b.block)
  (hx:∀ h',Chg (fun i=>i=o.o.block) h h'→(Sh.list EdSh).ok h' x) (hlen:x.2.length≤131072)
  (hk:∀ h' r,Chg (fun i=>i=o.o.block) h h'→MvO h.size h' r (x.2.map mvOf)→Own n 1 h' ⟨some o.o,10,10⟩ (opnC { o with ch:=o.ch || x.2.any effE })→(∀ a,r.base=some a→a.block=h.size)→wp P (K r) h' Q) :
  wp P (.mk 24 [i64v 0,i64v 0,i64v 0] (natI x.1.len) (natI x.1.len) fun (l4:Sl)=>.bind (.loop [.one (.int .i64)] ((0:Int),()) fun (r:Int×Unit)=>ifB (ltI r.1 (natI x.1.len))
   (.bind (grd (andB (someB x.1.base) (inB r.1 x.1.len)) <| .load (.agg [.int .i64, .int .i64, .sl]) (shiftTo x.1.base (mulN (toN r.1) 3)) fun (q:Int×Int×Sl×Unit)=>
    .alloc [i64v 0,i64v 0, .slice none 0 0] fun a=>.store (some a) [i64v q.1,i64v q.2.1,slv q.2.2.1] <|
    .load (.one (.int .i64)) (shiftTo (some a) 0) fun (n1:Int)=>.load (.one (.int .i64)) (shiftTo (some a) 1) fun (n2:Int)=>.load (.one .sl) (shiftTo (some a) 2) fun (l2:Sl)=>
    grd (andB (someB l4.base) (inB r.1 l4.len)) <| .store (shiftTo l4.base (mulN (toN r.1) 3)) [i64v n1,i64v n2,i64v (natI l2.len)] <|
    .bind (.load (.one (.int .i64)) (shiftTo (some a) 0) fun (n3:Int)=>.load (.one (.int .i64)) (shiftTo (some a) 1) fun (n4:Int)=>ifB (ltI n3 n4) (.ret 0 [.bool true]) <|
     .load (.one .sl) (shiftTo (some a) 2) fun (l3:Sl)=>.ret 0 [.bool (gtI (natI l3.len) 0)]) fun k1 vs1=>ifB (eqN k1 0) (.cast [.one .bool] vs1 fun (r2:Bool×Unit)=>ifB r2.1
      (grd (someB (some b)) <| grd (someB (some b)) <| .load (.one .ptr) (shiftTo (some b) 6) fun (p:Option Addr)=>grd (someB p) <| grd (someB p) <| .store (shiftTo p 9) [.bool true] <| .ret 0 []) <| .ret 0 []) .fail)
    fun k2 vs2=>ifB (eqN k2 0) (.cast [] vs2 fun _=>.ret 0 [i64v (addI .i64 r.1 1)]) .fail) <| .ret 2 []) fun k3 vs3=>ifB (eqN k3 2) (.cast [] vs3 fun _=>K l4) .fail) h Q:=by
 have hxl:=(hx h (Chg.refl _ _)).len
 have hn:natI x.1.len=(x.2.length:Int):=by rw [natI_def,hxl]
 rw [hn]
 refine s_mkM hlen fun h1 r e1 z1 rb o1=>?_
 have hol:o.o.block<h.size:=(oo.lt rfl).2
 refine wp_while (fun (s:Int×Unit) h'=>Chg (fun i=>i=o.o.block) h h'∧h.size<h'.size∧∃ i:Nat,s.1=i∧i≤x.2.length∧MvO h.size h' r ((x.2.take i).map mvOf++List.replicate (x.2.length-i) (0,0,0,()))∧Own n 1 h' ⟨some o.o,10,10⟩ (opnC { o with ch:=o.ch || (x.2.take i).any effE }))
  (fun s _=>((x.2.length:Int)-s.1).toNat)
  (fun t vs h'=>t=2∧vs=[]∧Chg (fun i=>i=o.o.block) h h'∧MvO h.size h' r (x.2.map mvOf)∧Own n 1 h' ⟨some o.o,10,10⟩ (opnC { o with ch:=o.ch || x.2.any effE }))
  ⟨Chg.of_ext e1,by omega,0,rfl,Nat.zero_le _,by simpa using o1,by simpa using (Chg.of_ext (F:=fun _=>False) e1).own oo fun _ _ x=>x⟩ ?_ ?_
 ·rintro ⟨(i':Int),u⟩ h2 ⟨c2,z2,i,hi,hil,o2,w2⟩
  dsimp only at hi ⊢
  subst hi
  refine wp_ifB (fun hc=>?_) fun hc=>?_
  ·rw [ltI_iff] at hc
   have hlt:i<x.2.length:=by omega
   obtain ⟨e,he⟩:∃ e,x.2[i]? = some e:=⟨x.2[i]'hlt,List.getElem?_eq_getElem hlt⟩
   have hok:=hx h2 c2
   have hle:=(hok.el he).2.2.1.len
   have hfe:fitsI .i64 e.1∧fitsI .i64 e.2.1:=⟨(hok.el he).1,(hok.el he).2.1⟩
   have htk:x.2.take (i+1)=x.2.take i++[e]:=by rw [List.take_add_one,he]; rfl
   have fin:∀ h6,Chg (fun i=>i=o.o.block) h h6→h.size<h6.size→MvO h.size h6 r ((x.2.take (i+1)).map mvOf++List.replicate (x.2.length-(i+1)) (0,0,0,()))→Own n 1 h6 ⟨some o.o,10,10⟩ (opnC { o with ch:=o.ch || (x.2.take (i+1)).any effE }) →
     wp P (ifB (eqN 0 0) (.cast [] [] fun _=>.ret 0 [i64v (addI .i64 (i:Int) 1)]) .fail) h6 (fun tag vs h'=>
      (tag=0→∃ s':Int×Unit,vs=Ts.inj [.one (.int .i64)] s'∧(Chg (fun i=>i=o.o.block) h h'∧h.size<h'.size∧∃ i:Nat,s'.1=i∧i≤x.2.length∧MvO h.size h' r ((x.2.take i).map mvOf++List.replicate (x.2.length-i) (0,0,0,()))∧Own n 1 h' ⟨some o.o,10,10⟩ (opnC { o with ch:=o.ch || (x.2.take i).any effE }))∧((x.2.length:Int)-s'.1).toNat<((x.2.length:Int)-(i:Int)).toNat) ∧
      (tag≠0→tag=2∧vs=[]∧Chg (fun i=>i=o.o.block) h h'∧MvO h.size h' r (x.2.map mvOf)∧Own n 1 h' ⟨some o.o,10,10⟩ (opnC { o with ch:=o.ch || x.2.any effE }))):=by
    intro h6 c6 z6 m6 w6
    refine s_tag (s_cast0 ?_)
    rw [add_ok (by omega) (by omega)]
    exact s_ret ⟨fun _=>⟨((i:Int)+1,()),rfl,⟨c6,z6,i+1,by simp,by omega,m6,w6⟩,by dsimp only; omega⟩,fun hx=>absurd rfl hx⟩
   refine s_bind (s_edit hok he fun a h3 e3 ha o3=>?_)
   have l0:∀ {K:Int→Prog} {Q:Nat→List Value→Heap→Prop} {h'},Own h2.size 1 h' ⟨some a,3,3⟩ [i64v e.1,i64v e.2.1,slv e.2.2.1.1]→wp P (K e.1) h' Q→wp P (.load (.one (.int .i64)) (shiftTo (some a) 0) K) h' Q:=fun q hk=>wp_load1 (b:=.int .i64) _ e.1 rfl (cells_iff.1 q.cells 0 _ rfl) hk
   have l1:∀ {K:Int→Prog} {Q:Nat→List Value→Heap→Prop} {h'},Own h2.size 1 h' ⟨some a,3,3⟩ [i64v e.1,i64v e.2.1,slv e.2.2.1.1]→wp P (K e.2.1) h' Q→wp P (.load (.one (.int .i64)) (shiftTo (some a) 1) K) h' Q:=fun q hk=>wp_load1 (b:=.int .i64) _ e.2.1 rfl (cells_iff.1 q.cells 1 _ rfl) hk
   have l2:∀ {K:Sl→Prog} {Q:Nat→List Value→Heap→Prop} {h'},Own h2.size 1 h' ⟨some a,3,3⟩ [i64v e.1,i64v e.2.1,slv e.2.2.1.1]→wp P (K e.2.2.1.1) h' Q→wp P (.load (.one .sl) (shiftTo (some a) 2) K) h' Q:=fun q hk=>wp_load1 (b:=.sl) _ e.2.2.1.1 rfl (cells_iff.1 q.cells 2 _ rfl) hk
   have hq:natI e.2.2.1.1.len=(e.2.2.1.2.length:Int):=by rw [natI_def,hle]
   have hmx:e.2.2.1.2.length<2 ^ 63:=by have h1:=(hok.el he).2.2.1.2.1; have h2:=(hok.el he).2.2.1.2.2.1; omega
   refine l0 o3 (l1 o3 (l2 o3 ?_))
   rw [hq]
   have hll:((x.2.take i).map mvOf).length=i:=by rw [List.length_map,List.length_take]; omega
   have hset:((x.2.take i).map mvOf++List.replicate (x.2.length-i) ((0,0,0,()):MvD)).set i (mvOf e)=(x.2.take (i+1)).map mvOf++List.replicate (x.2.length-(i+1)) (0,0,0,()):=by
    rw [List.set_append_right (h:=by omega),hll,Nat.sub_self,show x.2.length-i=(x.2.length-(i+1))+1 by omega,List.replicate_succ,List.set_cons_zero,htk,List.map_append,List.append_assoc]
    rfl
   have c3:Chg (fun i=>i=o.o.block) h h3:=c2.ext e3
   have w3:=(Chg.of_ext (F:=fun _=>False) e3).own w2 fun _ _ x=>x
   refine s_setM (mvOf e) (o2.ext e3) (by rw [List.length_append,hll,List.length_replicate]; omega) ⟨hfe.1,hfe.2,by show fitsI .i64 (e.2.2.1.2.length:Int); rw [fits_i64]; omega⟩ fun h4 m4 u4 z4=>?_
   rw [hset] at m4
   have cr:Chg (fun i=>i=h.size) h3 h4:=Chg.of_upd u4 fun y hy _=>rb y hy
   have hs3:=e3.1
   have o4:Own h2.size 1 h4 ⟨some a,3,3⟩ [i64v e.1,i64v e.2.1,slv e.2.2.1.1]:=cr.own o3 fun y hy=>by cases hy; exact Nat.ne_of_gt (Nat.lt_of_lt_of_le z2 ha)
   have w4:=cr.own w3 fun y hy=>by cases hy; exact Nat.ne_of_lt hol
   have c4:Chg (fun i=>i=o.o.block) h h4:=c3.trans cr fun j hj e=>by omega
   refine bind_bool (effE e=true) (l0 o4 (l1 o4 (wp_ifB (fun hd=>s_ret ⟨rfl,Ext.refl _,true,rfl,?_⟩) fun hd=>l2 o4 (s_ret ⟨rfl,Ext.refl _,_,rfl,?_⟩)))) fun bb h5 e5 hb=>?_
   ·rw [ltI_iff] at hd; simp [effE,hd]
   ·rw [ltI_not] at hd
    rw [hq,gtI_iff]
    simp [effE]; omega
   have m5:=m4.ext e5
   have w5:=(Chg.of_ext (F:=fun _=>False) e5).own w4 fun _ _ x=>x
   have c5:=c4.ext e5
   have hs5:=e5.1
   dsimp only
   refine wp_ifB (fun ht=>?_) fun hf=>s_ret (fin h5 c5 (by omega) m5 ?_)
   ·have ob5:=c5.own ob fun y hy e=>by cases hy; exact hne e.symm
    refine wp_grd rfl (wp_grd rfl (wp_load1 (b:=.ptr) (b.add 6) (some o.o) rfl (cells_iff.1 ob5.cells 6 _ h6) (wp_grd rfl (wp_grd rfl (s_setC' (.bool true) w5 (by simp [opnC]) rfl fun h6 w6 u6=>?_)))))
    have c6':Chg (fun i=>i=o.o.block) h5 h6:=Chg.of_upd u6 fun y hy _=>by cases hy; rfl
    have hs6:=c6'.1
    refine s_ret (fin h6 (c5.trans c6' fun _ _ x=>x) (by omega) (m5.chg c6' fun y hy e=>by have:=rb y hy; omega) ?_)
    have:opnC { o with ch:=o.ch || (x.2.take (i+1)).any effE }=(opnC { o with ch:=o.ch || (x.2.take i).any effE }).set 9 (.bool true):=by
     rw [htk,List.any_append]; simp [opnC,hb.1 ht]
    rw [this]; exact w6
   ·have hf':effE e=false:=by
     cases hx:effE e with
     | false=>rfl
     | true=>rw [hb.2 hx] at hf; cases hf
    have:opnC { o with ch:=o.ch || (x.2.take (i+1)).any effE }=opnC { o with ch:=o.ch || (x.2.take i).any effE }:=by
     rw [htk,List.any_append]; simp [hf']
    rw [this]; exact w5
  ·rw [ltI_not] at hc
   have:i=x.2.length:=by omega
   subst this
   rw [List.take_length,Nat.sub_self,List.replicate_zero,List.append_nil] at o2
   rw [List.take_length] at w2
   exact s_ret ⟨fun hx=>absurd hx (by decide),fun _=>⟨rfl,rfl,c2,o2,w2⟩⟩
 ·rintro t vs h' ⟨rfl,rfl,c2,o2,w2⟩
  exact s_tag (s_cast0 (hk h' r c2 o2 w2 rb))
end Go.Sw.Hist

set_option linter.unusedVariables false
set_option linter.unusedSimpArgs false
set_option maxRecDepth 100000
namespace Go.Sw.Hist
open Go.Sw.Any Go.Sw.Codec Go.Sw.Piece
variable {P:Program} {S:Ids} {h:Heap} {Q:Nat→List Value→Heap→Prop}
def slotF (i n:Int):Int:=if i.tmod (n+1)<0 then i.tmod (n+1)+n+1 else i.tmod (n+1)
theorem slot_in {i n:Int} (h0:0≤n):0≤slotF i n∧slotF i n≤n:=by
 have h1:=Int.tmod_lt_of_pos i (show 0<n+1 by omega)
 have h2 : -(n+1)<i.tmod (n+1):=by
  have h3:=Int.tmod_lt_of_pos (-i) (show 0<n+1 by omega)
  rw [Int.neg_tmod] at h3
  omega
 unfold slotF
 split <;> omega
theorem c_slot {i n:Int} (h0:0≤n) (h1:n≤1099511627776):Gives P (F_law7_slot S i n) [.one (.int .i64)] h fun (y:Int×Unit) _=>y.1=slotF i n:=by
 unfold F_law7_slot Gives
 have hb:=slot_in (i:=i) h0
 have t1:=Int.tmod_lt_of_pos i (show 0<n+1 by omega)
 have t2 : -(n+1)<i.tmod (n+1):=by
  have h3:=Int.tmod_lt_of_pos (-i) (show 0<n+1 by omega)
  rw [Int.neg_tmod] at h3
  omega
 rw [add_ok (a:=n) (b:=1) (by omega) (by omega)]
 refine wp_grd (by rw [notB_iff,eqI_not]; omega) ?_
 have hr:remI .i64 i (n+1)=i.tmod (n+1):=rfl
 rw [hr]
 refine bind_val (tys:=[.one (.int .i64)]) (fun (y:Int×Unit) _=>y.1=slotF i n) (wp_ifB (fun hc=>?_) fun hc=>s_ret ⟨rfl,Ext.refl _,(i.tmod (n+1),()),rfl,?_⟩) fun ⟨(y:Int),_⟩ h1 e1 hy=>s_ret ⟨rfl,e1,(y,()),rfl,hy⟩
 ·rw [ltI_iff] at hc
  rw [add_ok (a:=i.tmod (n+1)) (b:=n) (by omega) (by omega),add_ok (by omega) (by omega)]
  exact s_ret ⟨rfl,Ext.refl _,(_,()),rfl,by unfold slotF; rw [if_pos hc]⟩
 ·rw [ltI_not] at hc
  show i.tmod (n+1)=slotF i n
  unfold slotF; rw [if_neg (by omega)]
end Go.Sw.Hist

set_option linter.unusedVariables false
set_option linter.unusedSimpArgs false
set_option maxRecDepth 100000
namespace Go.Sw.Hist
open Go.Sw.Any Go.Sw.Codec Go.Sw.Piece
variable {P:Program} {S:Ids} {h:Heap} {Q:Nat→List Value→Heap→Prop}
def lett (a:Int):Int:=97+a % 16
theorem lett_in (a:Int):97≤lett a∧lett a≤112:=by unfold lett; omega
theorem c_edit7 {c1 c2 n:Int} {s:Sl} {pl:List Int} (hs:Lst .i64 h s pl) (hp:pl.length≤1099511627776) (h0:0≤n) (h1:n≤1099511627776) :
  Gives P (F_law7_edit S (c1,c2,s,()) n) [.agg [.int .i64, .int .i64, .sl]] h fun (y:(Int×Int×Sl×Unit)×Unit) h'=>
   y.1.1=slotF c1 n∧y.1.2.1=slotF c1 n+slotF c2 (min 3 (n-slotF c1 n))∧OwnL h.size .i64 h' y.1.2.2.1 (pl.map lett):=by
 unfold F_law7_edit Gives
 have hlen:=hs.len
 have hcap:=hs.cap
 have hmax:=hs.max
 dsimp only
 refine fun el1=>?_
 have e1:Ext h (h.push (.cells [i64v c1,i64v c2,slv s].toArray el1)):=Ext.push ..
 have o1:Own h.size 1 (h.push (.cells [i64v c1,i64v c2,slv s].toArray el1)) ⟨some ⟨h.size,0,none⟩,3,3⟩ [i64v c1,i64v c2,slv s]:=own_alloc rfl (by decide) (by decide)
 generalize h.push (.cells [i64v c1,i64v c2,slv s].toArray el1)=g1 at e1 o1 ⊢
 refine fun el2=>?_
 have e2:Ext g1 (g1.push (.cells [i64v 0,i64v 0, .slice none 0 0].toArray el2)):=Ext.push ..
 have o2:Own g1.size 1 (g1.push (.cells [i64v 0,i64v 0, .slice none 0 0].toArray el2)) ⟨some ⟨g1.size,0,none⟩,3,3⟩ [i64v 0,i64v 0, .slice none 0 0]:=own_alloc rfl (by decide) (by decide)
 generalize g1.push (.cells [i64v 0,i64v 0, .slice none 0 0].toArray el2)=g2 at e2 o2 ⊢
 have h01:h.size<g1.size:=(o1.lt rfl).2
 have h12:g1.size<g2.size:=(o2.lt rfl).2
 have o1':∀ {g:Heap},Ext g2 g→Own h.size 1 g ⟨some ⟨h.size,0,none⟩,3,3⟩ [i64v c1,i64v c2,slv s]:=fun e=>(Chg.of_ext (F:=fun _=>False) (e2.trans e)).own o1 fun _ _ x=>x
 refine wp_load1 (b:=.int .i64) _ c1 rfl (cells_iff.1 (o1' (Ext.refl _)).cells 0 _ rfl) ?_
 refine wp_call (c_slot (i:=c1) h0 h1) fun ⟨(f:Int),_⟩ g3 e3 hf=>?_
 have hf:f=slotF c1 n:=hf
 subst hf
 dsimp only
 have hin:=slot_in (i:=c1) h0
 refine wp_load1 (b:=.int .i64) _ c2 rfl (cells_iff.1 (o1' e3).cells 1 _ rfl) ?_
 rw [sub_ok (by omega) (by omega),Tree.minI_eq]
 refine wp_call (c_slot (i:=c2) (n:=min 3 (n-slotF c1 n)) (by omega) (by omega)) fun ⟨(z:Int),_⟩ g4 e4 hz=>?_
 have hz:z=slotF c2 (min 3 (n-slotF c1 n)):=hz
 have hzi:=slot_in (i:=c2) (n:=min 3 (n-slotF c1 n)) (by omega)
 rw [← hz] at hzi ⊢
 dsimp only
 have e24:=e3.trans e4
 refine wp_while (fun (q:Sl×Int×Unit) g=>Ext g2 g∧∃ i:Nat,q.2.1=i∧i≤pl.length∧OwnL g2.size .i64 g q.1 ((pl.take i).map lett)) (fun q _=>((pl.length:Int)-q.2.1).toNat)
  (fun t vs g=>t=2∧Ext g2 g∧∃ q:Sl,vs=[slv q]∧OwnL g2.size .i64 g q (pl.map lett)) ⟨e24,0,rfl,Nat.zero_le _,OwnL.nil _ _ _⟩ ?_ ?_
 ·rintro ⟨(q:Sl),(i':Int),u⟩ g5 ⟨e5,i,hi,hil,o5⟩
  dsimp only at hi ⊢
  subst hi
  have ld2:∀ {K:Sl→Prog} {Q:Nat→List Value→Heap→Prop},wp P (K s) g5 Q→wp P (.load (.one .sl) (shiftTo (some ⟨h.size,0,none⟩) 2) K) g5 Q:=fun hk=>wp_load1 (b:=.sl) _ s rfl (cells_iff.1 (o1' e5).cells 2 _ rfl) hk
  refine ld2 (wp_ifB (fun hc=>ld2 ?_) fun hc=>?_)
  ·rw [ltI_iff,natI_def,hlen] at hc
   have hlt:i<pl.length:=by omega
   refine s_at (hs.ext ((e1.trans e2).trans e5)) (by omega) (by omega) fun _=>?_
   have hg:pl.getD ((i:Int).toNat) 0=pl[i]:=by rw [Int.toNat_natCast]; simp [List.getD,List.getElem?_eq_getElem hlt]
   rw [hg,and15,add_ok (a:=97) (by omega) (by omega)]
   have hfit:∀ x∈[lett pl[i]],fitsI .i64 x:=by intro x hx; rw [List.mem_singleton.1 hx]; have:=lett_in pl[i]; rw [fits_i64]; omega
   refine s_allocL [lett pl[i]] hfit (by simp) fun g6 e6 o6=>?_
   have hs5:=e5.1
   have hs6:=e6.1
   refine s_append (o5.ext e6) (by omega) o6.lst (by simp; omega) (by simp; omega) fun r g7 k7 o7 u7 b7=>?_
   rw [add_ok (by omega) (by omega)]
   have hb5:∀ y,q.base=some y→g2.size≤y.block:=o5.base
   refine s_ret ⟨fun _=>⟨(r,(i:Int)+1,()),rfl,⟨Upd.extN (e5.trans e6) u7 hb5,i+1,by simp,by omega,?_⟩,by dsimp only; omega⟩,fun hx=>absurd rfl hx⟩
   rw [List.take_add_one,List.getElem?_eq_getElem hlt,Option.toList_some,List.map_append,List.map_singleton]
   exact o7
  ·rw [ltI_not,natI_def,hlen] at hc
   have:i=pl.length:=by omega
   subst this
   rw [List.take_length] at o5
   exact s_ret ⟨fun hx=>absurd hx (by decide),fun _=>⟨rfl,e5,q,rfl,o5⟩⟩
 ·rintro t vs g5 ⟨rfl,e5,q,rfl,o5⟩
  refine s_tag ⟨(q,()),rfl,?_⟩
  dsimp only
  have o2':=(Chg.of_ext (F:=fun _=>False) e5).own o2 fun _ _ x=>x
  rw [add_ok (by omega) (by omega)]
  refine s_putV [i64v (slotF c1 n),i64v (slotF c1 n+z),slv q] o2' rfl (by intro v hv; simp only [List.mem_cons,List.not_mem_nil,or_false] at hv; rcases hv with rfl | rfl | rfl <;> rfl) fun g6 o6 u6 z6=>?_
  refine ⟨_,rfl,(slotF c1 n,slotF c1 n+z,q,()),o6.cells,s_ret ⟨rfl,?_,((slotF c1 n,slotF c1 n+z,q,()),()),rfl,rfl,rfl,?_⟩⟩
  ·exact Upd.extN ((e1.trans e2).trans e5) u6 fun y hy=>by cases hy; exact Nat.le_of_lt h01
  ·have cu:Chg (fun i=>i=g1.size) g5 g6:=Chg.of_upd u6 fun y hy _=>by cases hy; rfl
   exact (cu.ownL o5 fun y hy e=>by have:=o5.base y hy; omega).mono (by omega)
end Go.Sw.Hist

set_option linter.unusedVariables false
set_option linter.unusedSimpArgs false
set_option maxRecDepth 100000
namespace Go.Sw.Hist
open Go.Sw.Any Go.Sw.Codec Go.Sw.Piece
variable {P:Program} {S:Ids} {h:Heap} {Q:Nat→List Value→Heap→Prop}
structure Book7 (S:Ids) (h h':Heap) (enc depth:Int) (l:List Int) (X:Bk):Prop where
 new:NewB depth X.T X
 en:X.T.enc=enc
 li:X.T.limit=60000
 kept:X.T.kept=[]
 A:X.T.A=[]
 el:els enc X.T.cur.ps=elsF 0 0 (toks enc l)
 bytes:bytesL X.T.cur.ps=l
 r:∃ n,h.size≤n∧∀ (k:Nat) (rho:Nat→Nat),∃ rho',StepR k h rho h' rho'∧(∀ i,i<h.size→rho' i=rho i)∧BookR S n h' rho' k X
theorem c_book7 (M:Meth0 P S) {enc depth:Int} {b:Sl} {l:List Int} (hb:Lst .u8 h b l) (hl:l.length≤60000) (hd:1≤depth∧depth≤200) :
  Gives P (F_law7_book S enc b depth) [.one .ptr] h fun (y:Option Addr×Unit) h'=>∃ X,y.1=some X.b∧Book7 S h h' (enc % 4+1) depth l X:=by
 unfold F_law7_book Gives
 refine s_append (n:=h.size) (k:=.u8) (OwnL.nil _ _ _) (Nat.le_refl _) hb (by simp; omega) (by simp; omega) fun q h1 k1 o1 u1 b1=>?_
 have e1:Ext h h1:=k1
 rw [List.nil_append] at o1
 have hk:known (enc % 4+1):=by unfold known; omega
 rw [and3,add_ok (by omega) (by omega)]
 refine wp_call (c_BOpen M (enc:=enc % 4+1) (limit:=Int.ofNat 60000) (depth:=depth) o1.lst) fun ⟨(p:Option Addr),(er:Int),_⟩ h2 e2 hx=>?_
 have hx:BOpenR S h1 h2 (enc % 4+1) (Int.ofNat 60000) depth l p er:=hx
 dsimp only
 cases hx with
 | deep a=>exact absurd hd a
 | text a b c=>cases c with
  | enc x=>exact absurd hk x
  | arg x y=>exact absurd ⟨by decide,by decide⟩ y
  | full x y z=>exact absurd z (by simp; omega)
 | ok T X a b c d en li ke A el by_ nb hr=>
  refine bind_bool False ?_ fun bb h3 e3 hbb=>wp_ifB (fun hc=>(hbb.1 hc).elim) fun _=>s_ret ⟨rfl,(e1.trans e2).trans e3,(some X.b,()),rfl,X,rfl,?_⟩
  ·unfold F_law7_num
   refine wp_call (R:=fun (y:Int×Unit) _=>y.1=0) (s_ret ⟨rfl,Ext.refl _,(0,()),rfl,rfl⟩) fun ⟨(y:Int),_⟩ h3 e3 hy=>?_
   have hy:y=0:=hy
   subst hy
   obtain ⟨rho',_,_,rb⟩:=hr 0 fun _=>0
   refine wp_ifB (fun hc=>by cases hc) fun _=>wp_ifB (fun hc=>by cases hc) fun _=>wp_call (c_BText (rb.ext e3)) fun ⟨(z:Option Addr),_⟩ h4 e4 hz=>s_ret ⟨rfl,e3.trans e4,_,rfl,?_⟩
   have hz:z=some X.T.p:=hz
   subst hz
   simp [noneB]
  ·refine ⟨by rw [nb.T]; exact nb,by rw [nb.T]; exact en,by rw [nb.T]; exact li,by rw [nb.T]; exact ke,by rw [nb.T]; exact A,by rw [nb.T, ← en]; rw [← en] at el; exact el,by rw [nb.T]; exact by_,h1.size,e1.1,fun k rho=>?_⟩
   obtain ⟨rho',s1,s2,s3⟩:=hr k fun i=>if i<h.size then rho i else 0
   have hag:∀ i,i<h.size→rho' i=rho i:=fun i hi=>by rw [s2 i (Nat.lt_of_lt_of_le hi e1.1)]; exact if_pos hi
   have sa:StepR k h rho h1 (fun i=>if i<h.size then rho i else 0):=⟨Chg.of_ext e1,fun i hi _=>if_pos hi,fun i hi hj=>by
    by_cases hlt:i<h.size
    ·rw [if_pos hlt]; rcases hj with hj | hj
     ·omega
     ·exact .inr hj
    ·rw [if_neg hlt]; exact .inl rfl⟩
   have sc:StepR k h2 rho' h3 (fun i=>if i<h2.size then rho' i else 0):=⟨Chg.of_ext e3,fun i hi _=>if_pos hi,fun i hi hj=>by
    by_cases hlt:i<h2.size
    ·rw [if_pos hlt]; rcases hj with hj | hj
     ·omega
     ·exact .inr hj
    ·rw [if_neg hlt]; exact .inl rfl⟩
   have hs12:=e1.1
   have hs23:=e2.1
   refine ⟨fun i=>if i<h2.size then rho' i else 0,(sa.trans s1).trans sc,fun i hi=>(if_pos (show i<h2.size by omega)).trans (hag i hi),s3.other (Chg.of_ext (F:=fun _=>False) e3) (fun _ _ x=>x.elim) fun i hi _=>if_pos hi⟩
end Go.Sw.Hist

set_option linter.unusedVariables false
set_option linter.unusedSimpArgs false
set_option maxRecDepth 100000
namespace Go.Sw.Hist
open Go.Sw.Any Go.Sw.Codec Go.Sw.Piece
open Go.Sw.Tree (iv s_putAll s_newP s_getP s_getT s_putP eqI_self Placed cell_own wp_whileG minI_eq)
variable {P:Program} {S:Ids} {h:Heap} {Q:Nat→List Value→Heap→Prop} {n k:Nat} {rho:Nat→Nat} {X:Bk}
open Classical in
theorem BookR.text {h1:Heap} {T':TX} (r:BookR S n h rho k X) (c:Chg (wfoot X.T) h h1) (t:TextR S n h1 T') (nx:Nxt X.T T' h.size) :
  ∃ rho',StepR k h rho h1 rho'∧(∀ i,i<h.size→rho' i=rho i)∧BookR S n h1 rho' k { X with T:=T' }:=by
 have hwf:∀ i,i<h.size→wfoot X.T i→rho i=k+8:=fun i _ hi=>r.rt i (wfoot_Z r.t hi)
 let rho':Nat→Nat:=fun i=>if i<h.size then rho i else if T'.Z i then k+8 else 0
 have hold:∀ i,i<h.size→rho' i=rho i:=fun i hi=>if_pos hi
 have hsame:∀ j i,i<h.size→rho i=j→rho' i=j:=fun j i hi e=>by rw [hold i hi]; exact e
 refine ⟨rho',⟨c.mono fun i hi hf=>by rw [hwf i hi hf]; omega,fun i hi _=>hold i hi,fun i hi hj=>?_⟩,hold,?_⟩
 ·by_cases hlt:i<h.size
  ·rw [hold i hlt]; rcases hj with hj | hj
   ·omega
   ·exact .inr hj
  ·show (if _ then _ else _)=0∨_<(if _ then _ else _)∧(if _ then _ else _)≤_
   rw [if_neg hlt]
   split
   ·exact .inr (by omega)
   ·exact .inl rfl
 ·exact {
   t:=t
   rt:=fun i hz=>by
    by_cases hlt:i<h.size
    ·rcases nx.zn i hz with h1 | h1
     ·exact hsame _ i hlt (r.rt i h1)
     ·omega
    ·show (if _ then _ else _)=_
     rw [if_neg hlt,if_pos hz]
   mp:=r.mpK c fun i hi hf=>by rw [hwf i hi hf]; omega
   rm:=r.rmK (hsame _)
   ow:=r.owK c fun i hi hf=>by rw [hwf i hi hf]; omega
   rwd:=r.rwK (hsame _)
   ou:=r.ouK c fun i hi hf=>by rw [hwf i hi hf]; omega
   ru:=r.ruK (hsame _)
   orr:=r.orK c fun i hi hf=>by rw [hwf i hi hf]; omega
   rr:=r.rrK (hsame _)
   gs:=r.gsK c (fun i hi hf=>by rw [hwf i hi hf]; omega) (hsame _) nx.p fun s hs=>by rw [nx.kept]; exact hs
   nw:=r.nwK c (fun i hi hf=>by rw [hwf i hi hf]; omega) (fun i hi _=>hold i hi) nx.p fun s hs=>by rw [nx.kept]; exact hs
   ob:=by
    have:=r.obK c fun i hi hf=>by rw [hwf i hi hf]; omega
    have e:bkC { X with T:=T' }=bkC X:=by simp [bkC,nx.p]
    show Own n 1 h1 ⟨some X.b,10,10⟩ (bkC { X with T:=T' })
    rw [e]; exact this
   rb:=hsame _ _ (r.ob.lt rfl).2 r.rb }
abbrev chO (o:Opn) (q:Sl) (m:Mvs) (ch:Bool):Opn:={ o with mv:=(q,o.mv.2++[m]),ch:=ch }
abbrev chB (X:Bk) (o:Opn) (T':TX) (q:Sl) (m:Mvs) (ch:Bool):Bk:={ X with T:=T',ms:=folM m.2 X.ms,ws:=folW m.2 X.ws,now:=some (chO o q m ch) }
structure BChR (S:Ids) (n k:Nat) (X:Bk) (o:Opn) (es:List EdD) (h:Heap) (rho:Nat→Nat) (h':Heap) (rho':Nat→Nat) (e:Int) (X':Bk):Prop where
 st:StepR k h rho h' rho'
 r:BookR S n h' rho' k X'
 ref:RefR X.T.enc X.T.limit (toksL X.T.enc X.T.cur.ps) es e
 nx:Nxt X.T X'.T h.size
 els:els X.T.enc X'.T.cur.ps=if e=0 then allE (els X.T.enc X.T.cur.ps) es else els X.T.enc X.T.cur.ps
 len:X'.T.A.length≤X.T.A.length+4*(putsOf es).length
 no:e≠0→X'={ X with T:=X'.T }
 yes:e=0→∃ q l,X'=chB X o X'.T q (l,es.map mvOf) (o.ch || es.any effE)
theorem mvB_of {len:Int} {es:List EdD} (hl:len≤2199023255552) (hp:Plc len 0 es) (hm:es.length≤70000) (hq:(putsOf es).length≤200000000000):MvB (es.map mvOf):=by
 refine ⟨by rw [List.length_map]; omega,PlM.mb hl (plM_of hp) (Int.le_refl _) fun e he=>?_⟩
 obtain ⟨x,hx,rfl⟩:=List.mem_map.1 he
 have:x.2.2.1.2.length≤(putsOf es).length:=by
  obtain ⟨i,hi⟩:=List.mem_iff_getElem?.1 hx
  have h1:=puts_split hi
  have h2:=puts_drop_le es i
  omega
 show (x.2.2.1.2.length:Int)≤_
 omega
theorem own_mono {n m size:Nat} {h:Heap} {s:Sl} {vs:List Value} (hm:n≤m) (ho:Own m size h s vs):Own n size h s vs:=Own.mono ho hm
open Classical in
theorem c_BChange (M:Meth0 P S) {o:Opn} {x:Eds} (r:BookR S n h rho k X) (hn:X.now=some o) (hok:∀ h',Chg (fun i=>k<rho i∧rho i≤k+10) h h'→(Sh.list EdSh).ok h' x)
  (hz:∀ e,e∈x.2→e.2.2.1.2≠[]→∀ a,e.2.2.1.1.base=some a→rho a.block≤k∨k+10<rho a.block)
  (hA:X.T.A.length+4*(putsOf x.2).length≤400000000000) (hsm:(bytesL X.T.cur.ps).length≤X.T.limit) (hlen:(els X.T.enc X.T.cur.ps).length≤65536)
  (hms:∀ e∈X.ms,0≤e.2.1∧e.2.1≤2199023255552) (hws:∀ v∈X.ws,v≤2199023255552) (hmv:o.mv.2.length≤1099511627776) :
  wp P (F_Book_Change S (some X.b) x.1) h fun tg vs h'=>tg=0∧∃ e rho' X',vs=[i64v e]∧BChR S n k X o x.2 h rho h' rho' e X':=by
 unfold F_Book_Change
 have hnh:n≤h.size:=Nat.le_trans (r.ob.lt rfl).1 (Nat.le_of_lt (r.ob.lt rfl).2)
 have c6:(bkC X)[6]? = some (.pointer (some o.o)):=by simp [bkC,hn]
 have hwf:∀ i,i<h.size→wfoot X.T i→rho i=k+8:=fun i _ hi=>r.rt i (wfoot_Z r.t hi)
 refine r.rd (b:=.ptr) (some o.o) c6 (wp_ifB (fun hc=>by cases hc) fun _=>r.rd (b:=.ptr) (some X.T.p) rfl ?_)
 refine wp_callW (c_Change M r.t hnh (fun h' c=>hok h' (c.mono fun i hi hf=>by rw [hwf i hi hf]; omega)) (fun e he hne a ha hz'=>by have h1:=hz e he hne a ha; have h2:=r.rt _ hz'; omega) hA hsm) fun tg vs h1 hx=>?_
 obtain ⟨rfl,c1,e,T',rfl,R⟩:=hx
 refine ⟨rfl,(e,()),rfl,?_⟩
 obtain ⟨rho1,st1,ag1,r1⟩:=r.text c1 R.t R.nx
 refine wp_ifB (fun hc=>?_) fun hc=>?_
 ·rw [neI_iff] at hc
  exact s_ret ⟨rfl,e,rho1,{ X with T:=T' },rfl,st1,r1,R.ref,R.nx,R.els,R.len,fun _=>rfl,fun h0=>absurd h0 hc⟩
 rw [neI_not] at hc
 dsimp only at hc
 subst hc
 have ro1:=r1.nw o hn
 have hplc:Plc (els X.T.enc X.T.cur.ps).length 0 x.2∧x.2.length≤70000:=by
  have hl:(toksL X.T.enc X.T.cur.ps).length=(els X.T.enc X.T.cur.ps).length:=(els_len ..).symm
  cases R.ref with
  | ok a b c d=>rw [hl] at b; exact ⟨b,a⟩
 have hmb:MvB (x.2.map mvOf):=mvB_of (by omega) hplc.1 hplc.2 (by omega)
 have hrho1:∀ i,i<h.size→(k<rho1 i∧rho1 i≤k+10)→k<rho i∧rho i≤k+10:=fun i hi hr=>by rw [ag1 i hi] at hr; exact hr
 have hokA:∀ h',Chg (fun i=>k<rho1 i∧rho1 i≤k+10) h1 h'→(Sh.list EdSh).ok h' x:=fun h' c=>hok h' (st1.c.trans c hrho1)
 have hob:o.o.block<h1.size:=(ro1.ob.lt rfl).2
 have hne:o.o.block≠X.b.block:=fun e=>by have h1:=ro1.ro; have h2:=r1.rb; rw [e] at h1; have h2:rho1 X.b.block=k+1:=h2; omega
 refine s_moves r1.ob (by simp [bkC,hn]) ro1.ob hne (fun h' c=>hokA h' (c.mono fun i hi e=>by subst e; rw [ro1.ro]; omega)) (by omega) fun h2 l c2 m2 oo2 lb2=>?_
 have ob2:Own n 1 h2 ⟨some X.b,10,10⟩ (bkC X):=by
  have e:bkC { X with T:=T' }=bkC X:=by simp [bkC,R.nx.p]
  have:=c2.own r1.ob fun a ha e=>by cases ha; exact hne e.symm
  rw [e] at this; exact this
 have rdb:∀ {h':Heap} {b:B} {i:Nat} (y:b.den) {K:b.den→Prog} {Q:Nat→List Value→Heap→Prop},Own n 1 h' ⟨some X.b,10,10⟩ (bkC X)→(bkC X)[i]? = some (b.inj y)→wp P (K y) h' Q→wp P (grd (someB (some X.b)) <| grd (someB (some X.b)) <| .load (.one b) (shiftTo (some X.b) i) K) h' Q:=
  @fun h' b i y K Q ob hv hk=>wp_grd rfl (wp_grd rfl (wp_load1 (b:=b) (X.b.add i) y rfl (cells_iff.1 ob.cells _ _ hv) hk))
 have sh0:∀ j,shiftTo (shiftTo (some o.o) 0) j=shiftTo (some o.o) j:=fun j=>by rw [shiftTo_some,add_zero']
 refine rdb (b:=.ptr) (some o.o) ob2 c6 (rdb (b:=.ptr) (some o.o) ob2 c6 (wp_grd rfl (wp_grd rfl (wp_grd rfl ?_))))
 simp only [sh0]
 refine wp_load1 (b:=.sl) (o.o.add 4) o.mv.1 rfl (cells_iff.1 oo2.cells 4 _ rfl) ?_
 refine fun elem=>?_
 have e3:Ext h2 (h2.push (.cells [slv l].toArray elem)):=Ext.push ..
 have rd3:Rd 1 (h2.push (.cells [slv l].toArray elem)) ⟨some ⟨h2.size,0,none⟩,1,1⟩ [slv l]:=rd_alloc rfl
 generalize h2.push (.cells [slv l].toArray elem)=h3 at e3 rd3 ⊢
 have X3:∀ {n size:Nat} {s:Sl} {vs:List Value},Own n size h2 s vs→Own n size h3 s vs:=fun ho=>(Chg.of_ext (F:=fun _=>False) e3).own ho fun _ _ x=>x
 have ob3:=X3 ob2
 have oo3:=X3 oo2
 refine s_ckC (cells_iff.1 oo3.cells 4 _ rfl) (s_ckC (cells_iff.1 ob3.cells 6 _ c6) (s_ckC (cells_iff.1 ob3.cells 6 _ c6) ?_))
 have omv2:Own n 1 h2 o.mv.1 (o.mv.2.map fun x=>slv x.1):=c2.own ro1.mv.own fun a ha e=>by have h1:=ro1.mv.role a ha; have h2:=ro1.ro; rw [e,h2] at h1; omega
 have hmvl:o.mv.1.len=o.mv.2.length:=by have:=omv2.1; simpa using this
 have hs1:=c1.1
 have hs2:=c2.1
 have hs3:=e3.1
 refine wp_appendE (X3 omv2) (by omega) rd3 (by intro v hv; rw [List.mem_singleton.1 hv]; rfl) rfl (by dsimp only; omega) (by dsimp only; omega) fun q h4 o4 l4 u4 b4 _=>?_
 have c4:Chg (fun i=>∃ a,o.mv.1.base=some a∧a.block=i) h3 h4:=Chg.of_upd u4 fun a ha _=>⟨a,ha,rfl⟩
 have mvr:∀ a,o.mv.1.base=some a→a.block<h1.size∧rho1 a.block=k+7:=fun a ha=>⟨(ro1.mv.own.lt ha).2,ro1.mv.role a ha⟩
 have ob4:=c4.own ob3 fun a ha ⟨y,hy,e⟩=>by cases ha; have h1:=(mvr y hy).2; have h2:=r1.rb; rw [e] at h1; have h2:rho1 X.b.block=k+1:=h2; omega
 have oo4:=c4.own oo3 fun a ha ⟨y,hy,e⟩=>by cases ha; have h1:=(mvr y hy).2; have h2:=ro1.ro; rw [e] at h1; omega
 refine s_ckC (cells_iff.1 ob4.cells 6 _ c6) (wp_grd rfl (wp_grd rfl (wp_grd rfl ?_)))
 refine s_setC' (slv q) oo4 (by simp [opnC]) rfl fun h5 oo5 u5=>?_
 have c5:Chg (fun i=>i=o.o.block) h4 h5:=Chg.of_upd u5 fun a ha _=>by cases ha; rfl
 have hs4:=c4.1
 have hs5:=c5.1
 let F:Nat→Prop:=fun i=>i=o.o.block∨∃ a,o.mv.1.base=some a∧a.block=i
 have c15:Chg F h1 h5:=(((c2.mono (G:=F) fun i _ x=>.inl x).ext e3).trans (c4.mono (G:=F) fun i _ x=>.inr x) fun _ _ x=>x).trans (c5.mono (G:=F) fun i _ x=>.inl x) fun _ _ x=>x
 have hF:∀ i,i<h1.size→F i→rho1 i=k+6∨rho1 i=k+7:=fun i hi hf=>by
  rcases hf with rfl | ⟨a,ha,rfl⟩
  ·exact .inl ro1.ro
  ·exact .inr (mvr a ha).2
 let rho2:Nat→Nat:=fun i=>if i<h1.size then rho1 i else if (∃ a,q.base=some a∧a.block=i) then k+7 else 0
 have hold:∀ i,i<h1.size→rho2 i=rho1 i:=fun i hi=>if_pos hi
 have hsame:∀ j i,i<h1.size→rho1 i=j→rho2 i=j:=fun j i hi e=>by rw [hold i hi]; exact e
 have hqb:∀ a,q.base=some a→rho2 a.block=k+7:=fun a ha=>by
  rcases b4 a ha with hb | hb
  ·exact hsame _ _ (mvr a hb).1 (mvr a hb).2
  ·show (if _ then _ else _)=_
   rw [if_neg (by omega),if_pos ⟨a,ha,rfl⟩]
 have hl0:∀ a,l.base=some a→rho2 a.block=0:=fun a ha=>by
  have hb:=lb2 a ha
  have h12:h1.size<h2.size:=by rw [← hb]; exact (m2.own.lt ha).2
  show (if _ then _ else _)=0
  rw [if_neg (by omega),if_neg]
  rintro ⟨y,hy,e⟩
  rcases b4 y hy with h | h
  ·have:=(mvr y h).1; omega
  ·omega
 have st2:StepR k h1 rho1 h5 rho2:=⟨c15.mono fun i hi hf=>by have:=hF i hi hf; omega,fun i hi _=>hold i hi,fun i hi hj=>by
  by_cases hlt:i<h1.size
  ·rw [hold i hlt]; rcases hj with hj | hj
   ·omega
   ·exact .inr hj
  ·show (if _ then _ else _)=0∨_<(if _ then _ else _)∧(if _ then _ else _)≤_
   rw [if_neg hlt]
   split
   ·exact .inr (by omega)
   ·exact .inl rfl⟩
 have m5:MvO h1.size h5 l (x.2.map mvOf):=by
  refine ((m2.ext e3).chg c4 fun a ha ⟨y,hy,e⟩=>?_).chg c5 fun a ha e=>?_
  ·have:=lb2 a ha; have:=(mvr y hy).1; omega
  ·have:=lb2 a ha; omega
 have m5n:MvO n h5 l (x.2.map mvOf):=⟨own_mono (by omega) m5.own,m5.fit⟩
 let o':Opn:=chO o q (l,x.2.map mvOf) (o.ch || x.2.any effE)
 have opn:OpnR n h5 rho2 k T' o':={
  ob:=by
   have e:opnC o'=(opnC { o with ch:=o.ch || x.2.any effE }).set 4 (slv q):=by simp [opnC,o',chO]
   rw [e]; exact oo5
  ro:=hsame _ _ hob ro1.ro
  sn:=c15.own ro1.sn fun a ha hf=>by cases ha; have h1:=hF _ (ro1.sn.lt rfl).2 hf; have h2:=ro1.rs; omega
  ks:=ro1.ks
  rs:=hsame _ _ (ro1.sn.lt rfl).2 ro1.rs
  mv:={
   own:=by
    have:=c5.own o4 fun a ha e=>by
     rcases b4 a ha with hb | hb
     ·have h1:=(mvr a hb).2; have h2:=ro1.ro; rw [e,h2] at h1; omega
     ·omega
    show Own n 1 h5 q ((o.mv.2++[(l,x.2.map mvOf)]).map fun x=>slv x.1)
    rw [List.map_append]; exact this
   role:=hqb
   each:=fun y hy=>by
    rcases List.mem_append.1 hy with hy | hy
    ·obtain ⟨y1,y2,y3⟩:=ro1.mv.each y hy
     exact ⟨y1.chg c15 fun a ha hf=>by have h1:=hF _ (y1.own.lt ha).2 hf; have h2:=y2 a ha; omega,fun a ha=>hsame _ _ (y1.own.lt ha).2 (y2 a ha),y3⟩
    ·rw [List.mem_singleton.1 hy]
     exact ⟨m5n,hl0,hmb⟩ }
  mp:=ro1.mp.chg c15 fun hf=>by have h1:=hF _ ro1.mp.lt hf; have h2:=ro1.rm; omega
  rm:=hsame _ _ ro1.mp.lt ro1.rm
  ow:=c15.ownL ro1.ow fun a ha hf=>by have h1:=hF _ (ro1.ow.own.lt ha).2 hf; have h2:=ro1.rwd a ha; omega
  rwd:=fun a ha=>hsame _ _ (ro1.ow.own.lt ha).2 (ro1.rwd a ha) }
 have r5:BookR S n h5 rho2 k { X with T:=T',now:=some o' }:={
  t:=r1.tK c15 fun i hi hf=>by have:=hF i hi hf; omega
  rt:=r1.rtK (hsame _)
  mp:=r1.mpK c15 fun i hi hf=>by have:=hF i hi hf; omega
  rm:=r1.rmK (hsame _)
  ow:=r1.owK c15 fun i hi hf=>by have:=hF i hi hf; omega
  rwd:=r1.rwK (hsame _)
  ou:=r1.ouK c15 fun i hi hf=>by have:=hF i hi hf; omega
  ru:=r1.ruK (hsame _)
  orr:=r1.orK c15 fun i hi hf=>by have:=hF i hi hf; omega
  rr:=r1.rrK (hsame _)
  gs:=r1.gsK c15 (fun i hi hf=>by have:=hF i hi hf; omega) (hsame _) rfl fun s hs=>hs
  nw:=fun o1 ho=>by cases ho; exact opn
  ob:=by
   have e:bkC { X with T:=T',now:=some o' }=bkC X:=by simp [bkC,hn,R.nx.p,o',chO]
   show Own n 1 h5 ⟨some X.b,10,10⟩ (bkC { X with T:=T',now:=some o' })
   rw [e]
   exact c5.own ob4 fun a ha e=>by cases ha; exact hne e.symm
  rb:=hsame _ _ (r1.ob.lt rfl).2 r1.rb }
 refine wp_callW (c_bfollow (X:={ X with T:=T',now:=some o' }) (x:=(l,x.2.map mvOf)) r5 m5.ok (fun h' c=>(m5.chg c fun a ha hf=>?_).ok) hmb hms hws) fun tg vs h6 hx=>?_
 ·have h1:=hl0 a ha
  rcases hf with e | ⟨y,hy,e⟩
  ·have h2:=r5.rm; rw [e] at h1; rw [h1] at h2; omega
  ·have h2:=r5.rwd y hy; rw [e,h1] at h2; omega
 obtain ⟨rfl,c6',y,rfl,r6⟩:=hx
 refine ⟨rfl,(),rfl,s_ret ⟨rfl,0,rho2,_,rfl,?_,r6,R.ref,R.nx,R.els,R.len,fun h0=>absurd rfl h0,fun _=>⟨q,l,rfl⟩⟩⟩
 refine (st1.trans st2).trans ⟨c6'.mono fun i hi hf=>?_,fun _ _ _=>rfl,fun i hi hj=>?_⟩
 ·rcases hf with rfl | ⟨a,ha,rfl⟩
  ·have:=r5.rm; rw [this]; omega
  ·have:=r5.rwd a ha; rw [this]; omega
 ·by_cases hlt:i<h5.size
  ·rcases hj with hj | hj
   ·omega
   ·exact .inr hj
  ·left
   show (if _ then _ else _)=0
   rw [if_neg (by omega),if_neg]
   rintro ⟨a,ha,e⟩
   have:=(o4.lt ha).2
   omega
end Go.Sw.Hist
