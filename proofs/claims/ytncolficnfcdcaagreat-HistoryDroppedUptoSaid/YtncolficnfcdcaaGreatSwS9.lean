import Derived.Test.YtncolficnfcdcaaGreatSwS8
set_option linter.unusedSimpArgs false
set_option linter.unusedVariables false
namespace Go.Sw
theorem B.prj_inj {b:B} {v:Value} {x:b.den} (h:b.prj v=some x):v=b.inj x:=by
 cases b <;> cases v <;> simp only [B.prj,reduceCtorEq] at h
 case int.int k k' n=>
  cases hk:kindBeq k k'
  ·simp [hk] at h
  ·simp only [hk,cond_true] at h
   obtain rfl:=kindBeq_iff.1 hk
   exact congrArg (Value.int k) (Option.some.inj h)
 case flt.float k k' n=>
  cases hk:fkindBeq k k'
  ·simp [hk] at h
  ·simp only [hk,cond_true] at h
   obtain rfl:=fkindBeq_iff.1 hk
   exact congrArg (Value.float k) (Option.some.inj h)
 all_goals (obtain rfl:=Option.some.inj h; rfl)
theorem Bs.prj_inj:∀ {bs:List B} {vs:List Value} {x:Bs.den bs},Bs.prj bs vs=some x→vs=Bs.inj bs x:=by
 intro bs
 induction bs with
 | nil=>
  intro vs x h
  cases vs with
  | nil=>rfl
  | cons v vs=>simp [Bs.prj] at h
 | cons b bs ih=>
  intro vs x h
  cases vs with
  | nil=>simp [Bs.prj] at h
  | cons v vs=>
   simp only [Bs.prj] at h
   split at h
   ·rename_i y ys h1 h2
    obtain rfl:=Option.some.inj h
    rw [B.prj_inj h1,ih h2]
    rfl
   ·cases h
theorem Ty.prj_inj {t:Ty} {v:Value} {x:t.den} (h:t.prj v=some x):v=t.inj x:=by
 cases t with
 | one b=>exact B.prj_inj h
 | agg bs=>
  have hv:∃ cs,v = .agg cs:=by
   cases v <;> first | exact ⟨_,rfl⟩ | cases h
  obtain ⟨cs,rfl⟩:=hv
  have e:cs.toList=Bs.inj bs x:=Bs.prj_inj h
  show Value.agg cs=Value.agg (Bs.inj bs x).toArray
  exact congrArg Value.agg (Array.toList_inj.1 (by rw [e]))
theorem Ts.prj_inj:∀ {ts:List Ty} {vs:List Value} {x:Ts.den ts},Ts.prj ts vs=some x→vs=Ts.inj ts x:=by
 intro ts
 induction ts with
 | nil=>
  intro vs x h
  cases vs with
  | nil=>rfl
  | cons v vs=>simp [Ts.prj] at h
 | cons t ts ih=>
  intro vs x h
  cases vs with
  | nil=>simp [Ts.prj] at h
  | cons v vs=>
   simp only [Ts.prj] at h
   split at h
   ·rename_i y ys h1 h2
    obtain rfl:=Option.some.inj h
    rw [Ty.prj_inj h1,ih h2]
    rfl
   ·cases h
def toExit:Ex→Exit
 | .nrm=>.normal
 | .ex id=>.exit id
 | .ret=>.ret
def disj (ks ws:List Nat):Bool:=ks.all fun k=>!mem k ws
def disjO (o:Option (Outs×List Nat)) (ws:List Nat):Bool:=
 match o with
 | some (_,keep)=>disj keep ws
 | none=>true
theorem without_get {ws:List Nat}:∀ {f:Fr} {n:Nat} {v:Value},(Fr.without f ws).get n=some v→f.get n=some v∧n∉ws
 | [],n,v,h=>by simp [Fr.without,Fr.get] at h
 | (k,u)::f,n,v,h=>by
  simp only [Fr.without] at h
  rw [Fr.get_cons]
  cases hm:mem k ws
  ·simp only [hm,cond_false] at h
   rw [Fr.get_cons] at h
   by_cases e:k=n
   ·subst e
    simp only [if_true] at h ⊢
    exact ⟨h,fun hk=>by
     have:∀ {n:Nat} {l:List Nat},n∈l→mem n l=true:=by
      intro n l
      induction l with
      | nil=>intro h; cases h
      | cons k r ih=>
       intro h
       simp only [mem]
       cases hb:Nat.beq k n
       ·simp only [cond_false]
        rcases List.mem_cons.1 h with rfl | h
        ·rw [nbeq_iff.2 rfl] at hb; cases hb
        ·exact ih h
       ·rfl
     rw [this hk] at hm; cases hm⟩
   ·simp only [e,if_false] at h ⊢
    exact without_get h
  ·simp only [hm,cond_true] at h
   by_cases e:k=n
   ·subst e
    exfalso
    have h2:=(without_get h).2
    have:∀ {n:Nat} {l:List Nat},mem n l=true→n∈l:=by
     intro n l
     induction l with
     | nil=>intro h; cases h
     | cons k r ih=>
      intro h
      simp only [mem] at h
      cases hb:Nat.beq k n
      ·simp only [hb,cond_false] at h; exact List.mem_cons_of_mem _ (ih h)
      ·rw [nbeq_iff.1 hb]; exact List.mem_cons_self ..
    exact h2 (this hm)
   ·simp only [e,if_false]
    exact without_get h
def nodupB:List Nat→Bool
 | []=>true
 | n::r=>!mem n r && nodupB r
def beqL:List Nat→List Nat→Bool
 | [],[]=>true
 | a::r,b::s=>Nat.beq a b && beqL r s
 | _,_=>false
def okC (P:Program) (An:Ann) (n:Nat):Code→Bool
 | .region id ops draw=>disjO (An.reg id) (dsts ops.toList) && ((dsts ops.toList).all (fun d=>Nat.blt d n) && (bif draw then (match An.order id with
   | some (ls,loose)=>orderOk P ops ls loose
   | none=>false) else true))
 | .seq a b=>disjO ((firstReg b).bind An.join) (writes a) && ((match (firstReg b).bind An.join with
   | some _=>!hasRange a
   | none=>true) && (okC P An n a && okC P An n b))
 | .cond _ a b=>okC P An n a && okC P An n b
 | .block _ b=>okC P An n b
 | .loop b=>disjO ((loopKey b).bind An.loop) (writes b) && (!hasRange b && okC P An n b)
 | .rangeFunc _ ps a b=>nodupB ps.toList && (ps.toList.all (fun d=>Nat.blt d n) && ((match ps.toList with
   | []=>false
   | p::_=>match An.rng p with
    | some (po,_)=>beqL (po.map (·.1)) ps.toList
    | none=>false) && (!hasRange a && (!hasRange b && (okC P An n a && okC P An n b)))))
 | _=>true
theorem wp_loopS {P:Program} {ro:Option Nat} {Q:Exit→Act→World→Prop} {a:Act} {w:World} {c:Code} {σ:Type} (I:σ→Act→World→Prop) (μ:σ→World→Nat) (s:σ) (h₀:I s a w)
  (round:∀ s a w,I s a w→c.wpIn (Fen ro) 0 P (Exit.then (fun a' w'=>∃ s',I s' a' w'∧μ s' w'<μ s w) Q) a w):(Code.loop c).wpIn (Fen ro) 0 P Q a w:=by
 intro b k cs hro hb hr
 have key:∀ n s a w,μ s w=n→I s a w →
   ∃ e a' w',Q e a' w'∧ArrivesIn (Machine.fenced P (Fen ro)) P (lone (b.atR a (.code c :: .inLoop c::k)) cs w) b k cs e a' w':=by
  intro n
  induction n using Nat.strongRecOn with
  | _ n ih=>
   intro s a w hn hI
   obtain ⟨e,a₁,w₁,hq,harr⟩:=round s a w hI b (.inLoop c::k) cs hro hb hr
   cases e with
   | normal=>
    obtain ⟨s₁,hI₁,hlt⟩:=hq
    obtain ⟨e₂,a₂,w₂,hq₂,harr₂⟩:=ih (μ s₁ w₁) (hn ▸ hlt) s₁ a₁ w₁ rfl hI₁
    exact ⟨e₂,a₂,w₂,hq₂, .of_steps (StepsIn.trans harr (.one (fenced_calm hb hr rfl) stepR_inLoop)) harr₂⟩
   | exit id=>exact ⟨_,a₁,w₁,hq, .pass (x:=.inLoop c) rfl (fun _ _=>.inl (by simp)) harr⟩
   | goto l=>exact ⟨_,a₁,w₁,hq, .pass (x:=.inLoop c) rfl (fun _ _=>.inl (by simp)) harr⟩
   | ret=>exact ⟨_,a₁,w₁,hq, .pass (x:=.inLoop c) rfl (fun _ _=>.inl (by simp)) harr⟩
   | panic ch=>exact ⟨_,a₁,w₁,hq, .pass (x:=.inLoop c) rfl (fun _ _=>.inl (by simp)) harr⟩
   | outgrown=>exact ⟨_,a₁,w₁,hq, .pass (x:=.inLoop c) rfl (fun _ _=>.inl (by simp)) harr⟩
 obtain ⟨e,a',w',hq,harr⟩:=key _ s a w rfl h₀
 exact ⟨e,a',w',hq, .of_steps (.one (fenced_calm hb hr rfl) stepR_loop) harr⟩
def markOf (D:Nat):Deferred:={ target:=.collected D,args:=#[] }
abbrev Post:=Nat→List Value→Heap→Prop
def shutQ (D:Nat) (Q:Post):Post:=fun t vs h=>h[D]? = some (.deferred (some []))∧Q t vs (h.setIfInBounds D (.deferred none))
structure DefOf (P:Program) (d:Deferred) (i:FuncId) (args:List Value):Prop where
 tar:∃ fv cap,d.target = .fn fv cap
 inv:∀ w:World,(invoke d.target d.args).run P w = .ok (.enter i args.toArray) w
def callQ (P:Program) (i:FuncId) (args:List Value) (Q:Post):Post:=fun t vs h=>DefersV P i args h fun h'=>Q t vs h'
inductive Marks (P:Program) (D:Prop) (df:List Deferred) (Q:Post):List Deferred→Post→Prop
 | refl:Marks P D df Q df Q
 | push {df':List Deferred} {Q':Post} (B:Nat) (m:Marks P D df Q df' Q'):Marks P D df Q (markOf B::df') (shutQ B Q')
 | call {df':List Deferred} {Q':Post} {d:Deferred} {i:FuncId} {args:List Value} (hD:D) (hd:DefOf P d i args) (m:Marks P D df Q df' Q'):Marks P D df Q (d::df') (callQ P i args Q')
theorem Marks.trans {P:Program} {D:Prop} {df df' df'':List Deferred} {Q Q' Q'':Post} (m:Marks P D df Q df' Q') (n:Marks P D df' Q' df'' Q''):Marks P D df Q df'' Q'':=by
 induction n with
 | refl=>exact m
 | push B _ ih=>exact .push B ih
 | call hD hd _ ih=>exact .call hD hd ih
def hasDef:Code→Bool
 | .region _ ops draw=>match deferOf ops.toList draw with
  | some _=>true
  | none=>false
 | .seq a b=>hasDef a || hasDef b
 | .cond _ a b=>hasDef a || hasDef b
 | .block _ b=>hasDef b
 | .loop b=>hasDef b
 | .rangeFunc _ _ a b=>hasDef a || hasDef b
 | _=>false
theorem lastOp_some:∀ {l:List Oper} {o:Oper},lastOp l=some o→0<l.length∧l[l.length-1]? = some o:=by
 intro l
 induction l with
 | nil=>intro o h; cases h
 | cons x l ih=>
  intro o h
  cases l with
  | nil=>simp only [lastOp,Option.some.injEq] at h; subst h; simp
  | cons y l=>
   simp only [lastOp] at h
   obtain ⟨h1,h2⟩:=ih h
   refine ⟨by simp,?_⟩
   simpa using h2
theorem deferOf_some {ops:List Oper} {draw:Bool} {o:Oper} {c:Call} (h:deferOf ops draw=some (o,c)):draw=false∧0<ops.length∧ops[ops.length-1]? = some o∧o.op = .defer c:=by
 unfold deferOf at h
 cases draw with
 | true=>cases h
 | false=>
  simp only [cond_false] at h
  split at h
  ·rename_i o' ho
   split at h
   ·rename_i c' hc
    simp only [Option.some.injEq,Prod.mk.injEq] at h
    obtain ⟨rfl,rfl⟩:=h
    obtain ⟨h1,h2⟩:=lastOp_some ho
    exact ⟨rfl,h1,h2,hc⟩
   ·cases h
  ·cases h
theorem mem_iff {n:Nat} {l:List Nat}:mem n l=true↔n∈l:=by
 induction l with
 | nil=>simp [mem]
 | cons k r ih=>
  simp only [mem,List.mem_cons]
  cases hb:Nat.beq k n
  ·have:k≠n:=fun e=>by rw [nbeq_iff.2 e] at hb; cases hb
   simp only [cond_false,ih]
   exact ⟨fun h=>.inr h,fun h=>h.resolve_left (fun e=>this e.symm)⟩
  ·simp only [cond_true,true_iff]
   exact .inl (nbeq_iff.1 hb).symm
theorem only_get {f:Fr}:∀ {ks:List Nat} {n:Nat} {v:Value},(f.only ks).get n=some v→f.get n=some v∧n∈ks:=by
 intro ks
 induction ks with
 | nil=>intro n v h; simp [Fr.only,Fr.get] at h
 | cons k ks ih=>
  intro n v h
  simp only [Fr.only] at h
  split at h
  ·rename_i u hu
   rw [Fr.get_cons] at h
   by_cases e:k=n
   ·subst e
    simp only [if_true] at h
    rw [← h]
    exact ⟨hu,List.mem_cons_self ..⟩
   ·simp only [e,if_false] at h
    exact ⟨(ih h).1,List.mem_cons_of_mem _ (ih h).2⟩
  ·exact ⟨(ih h).1,List.mem_cons_of_mem _ (ih h).2⟩
theorem onlyK_eq {f:Fr}:∀ {ks:List Nat} {K:Fr→Prog},Fr.onlyK f ks K=K (f.only ks):=by
 intro ks
 induction ks with
 | nil=>intro K; rfl
 | cons k ks ih=>
  intro K
  simp only [Fr.onlyK,Fr.only]
  split
  ·exact ih
  ·exact ih
theorem FrOk.only {f:Fr} {a:Act} (h:FrOk f a) (ks:List Nat):FrOk (f.only ks) a:=fun n v hv=>h n v (only_get hv).1
theorem keeps_only (f:Fr) {ks ws:List Nat} (hd:disj ks ws=true):Keeps (FrOk (f.only ks)) ws:=by
 intro a d v hdw h n u hu
 have hn:=(only_get hu).2
 have hne:d≠n:=fun e=>by
  have:=List.all_eq_true.1 hd n hn
  rw [mem_iff.2 (e ▸ hdw)] at this
  cases this
 simp [Act.put,Array.getElem?_setIfInBounds_ne hne,h n u hu]
theorem Keeps.and {G G':Act→Prop} {ws:List Nat} (h:Keeps G ws) (h':Keeps G' ws):Keeps (fun a=>G a∧G' a) ws:=
 fun a d v hd hg=>⟨h a d v hd hg.1,h' a d v hd hg.2⟩
theorem Keeps.sub {G:Act→Prop} {ws ws':List Nat} (h:Keeps G ws) (hs:∀ d,d∈ws'→d∈ws):Keeps G ws':=fun a d v hd hg=>h a d v (hs d hd) hg
theorem putL_ok {base f:Fr} {a:Act} (hb:FrOk base a) (hf:FrOk f a):∀ {outs:Outs} {x:Ts.den (tysL outs)},getL f outs=some (Ts.inj (tysL outs) x)→FrOk (putL base outs x) a:=by
 intro outs
 induction outs with
 | nil=>intro x h; exact hb
 | cons p outs ih=>
  intro x h
  obtain ⟨k,t⟩:=p
  simp only [getL] at h
  split at h
  ·rename_i v vs h1 h2
   have e:=Option.some.inj h
   have e1:v=t.inj x.1:=(List.cons.inj e).1
   have e2:vs=Ts.inj (tysL outs) x.2:=(List.cons.inj e).2
   subst e1 e2
   have hr:FrOk (putL base outs x.2) a:=ih h2
   intro n u hu
   have hu':Fr.get ((k,t.inj x.1)::putL base outs x.2) n=some u:=hu
   rw [Fr.get_cons] at hu'
   by_cases e:k=n
   ·subst e
    simp only [if_true,Option.some.injEq] at hu'
    rw [← hu']
    exact hf _ _ h1
   ·simp only [e,if_false] at hu'
    exact hr n u hu'
  ·cases h
def outsOf (An:Ann) (nrm:Option Outs):Ex→Option Outs
 | .nrm=>nrm
 | .ret=>some An.res
 | .ex id=>some (An.blk id)
theorem tagOf_inj {e e':Ex} (h:tagOf e=tagOf e'):e=e':=by
 cases e <;> cases e' <;> simp [tagOf] at h <;> first | rfl | (subst h; rfl) | omega
section
variable {P:Program} {An:Ann}
theorem encode_wp {outs:Outs} {e:Ex} {f:Fr} {h:Heap} {Qp:Nat→List Value→Heap→Prop} (hw:wp P (encode An outs e f) h Qp) :
  ∃ o vs,outsOf An (some outs) e=some o∧getL f o=some vs∧Qp (tagOf e) vs h:=by
 cases e <;> simp only [encode] at hw <;> (split at hw <;> first | exact hw.elim | skip)
 all_goals
  rename_i vs hv
  exact ⟨_,vs,rfl,hv,hw⟩
theorem decode_wp {nrm:Option Outs} {base:Fr} {K:Ex→Fr→Prog} {h:Heap} {Qp:Nat→List Value→Heap→Prop} {vs:List Value} {e:Ex}:∀ {es:List Nat},
  wp P (decode An nrm base K es (tagOf e) vs) h Qp→∃ o x,outsOf An nrm e=some o∧vs=Ts.inj (tysL o) x∧wp P (K e (putL base o x)) h Qp:=by
 intro es
 induction es with
 | nil=>
  intro hw
  simp only [decode] at hw
  split at hw
  ·rename_i outs
   cases hb:Nat.beq (tagOf e) 0
   ·simp only [ifB,eqN,hb,cond_false] at hw; exact hw.elim
   ·simp only [ifB,eqN,hb,cond_true] at hw
    have:e = .nrm:=tagOf_inj (nbeq_iff.1 hb)
    subst this
    obtain ⟨x,hx,hw⟩:=hw
    exact ⟨outs,x,rfl,hx,hw⟩
  ·exact hw.elim
 | cons k es ih=>
  intro hw
  cases k with
  | zero=>
   simp only [decode] at hw
   cases hb:Nat.beq (tagOf e) 1
   ·simp only [ifB,eqN,hb,cond_false] at hw; exact ih hw
   ·simp only [ifB,eqN,hb,cond_true] at hw
    have:e = .ret:=tagOf_inj (nbeq_iff.1 hb)
    subst this
    obtain ⟨x,hx,hw⟩:=hw
    exact ⟨An.res,x,rfl,hx,hw⟩
  | succ id=>
   simp only [decode] at hw
   cases hb:Nat.beq (tagOf e) (id+2)
   ·simp only [ifB,eqN,hb,cond_false] at hw; exact ih hw
   ·simp only [ifB,eqN,hb,cond_true] at hw
    have:e = .ex id:=tagOf_inj (nbeq_iff.1 hb)
    subst this
    obtain ⟨x,hx,hw⟩:=hw
    exact ⟨An.blk id,x,rfl,hx,hw⟩
theorem swAlts_mem {Γ:Ctx} {anys:List Nat} {ops:List Oper} {loose:List (Nat×Nat)} {f:Fr} {K:Fr→Prog} {h:Heap} {Qp:Nat→List Value→Heap→Prop}:∀ {ls:List (List Nat)},
  wp P (swAlts P Γ anys ops loose f K ls) h Qp→∀ L,L∈ls→wp P (swOps P Γ anys true ops loose L [] f K) h Qp:=by
 intro ls
 induction ls with
 | nil=>intro _ L hL; cases hL
 | cons l ls ih=>
  intro hw L hL
  cases ls with
  | nil=>obtain rfl:=List.mem_singleton.1 hL; exact hw
  | cons m ls=>
   obtain ⟨h1,h2⟩:=hw
   rcases List.mem_cons.1 hL with rfl | hL
   ·exact h1
   ·exact ih h2 L hL
theorem swRegion_sound {ro:Option Nat} {Γ:Ctx} (hΓ:CtxOk P Γ) (hm:P.follows .mixedOrders=true) {n:Nat} {id:Nat} {ops:Array Oper} {draw:Bool} (hok:okC P An n (.region id ops draw)=true) {w0:World} {G:Act→Prop}
  {f:Fr} {K:Fr→Prog} {Qp:Nat→List Value→Heap→Prop} {Q:Exit→Act→World→Prop} {a:Act} {w:World} (hG:Keeps G (dsts ops.toList))
  (hs:St w0 G n f a w) (hw:wp P (swRegion P Γ An id ops.toList draw f K) w.heap Qp)
  (hK:∀ f a w,St w0 G n f a w→wp P (K f) w.heap Qp→Q .normal a w):(Code.region id ops draw).wpIn (Fen ro) 0 P Q a w:=by
 simp only [okC,Bool.and_eq_true] at hok
 obtain ⟨-, hd,ho⟩:=hok
 have hdst:∀ (i:Nat) o d,ops[i]? = some o→o.dst=some d→d<n∧d∈dsts ops.toList:=by
  intro i o d hi hod
  have hmem:d∈dsts ops.toList:=List.mem_filterMap.2 ⟨o,by
   have:ops.toList[i]? = some o:=by simpa using hi
   exact List.mem_of_getElem? this,hod⟩
  exact ⟨Nat.le_of_ble_eq_true (List.all_eq_true.1 hd d hmem),hmem⟩
 cases draw
 ·simp only [swRegion,cond_false] at hw
  refine wpIn_region (wpR_wpOps (dr:=false) (loose:=[]) _ [] a w ?_)
  have:=swOps_sound (P:=P) (dr:=false) hΓ (R:=Q .normal) hdst hG hK (List.range ops.toList.length) [] [] f a w trivial hs hw
  simpa using this
 ·simp only [swRegion,cond_true] at hw ho
  have hs':St w0 G n f a w.drew:=⟨hs.fr,hs.sz,hs.env.trans (drew_env w),hs.g⟩
  split at hw
  ·rename_i ls loose hord
   simp only [hord] at ho
   refine region_order hm ho fun L hL=>?_
   exact swOps_sound (P:=P) (dr:=true) hΓ (R:=Q .normal) hdst hG hK L [] [] f a w.drew trivial hs' (swAlts_mem hw L hL)
  ·exact hw.elim
theorem keeps_df {G:Act→Prop} {ws:List Nat} (h:Keeps G ws) (df:List Deferred):Keeps (fun a=>G a∧a.defers=df) ws:=
 fun a d v hd hg=>⟨h a d v hd hg.1,hg.2⟩
def Blind (G:Act→Prop):Prop:=∀ a d,G a→G { a with defers:=d }
theorem nodup_not {p:Nat} {r:List Nat} (h:nodupB (p::r)=true):p∉r∧nodupB r=true:=by
 simp only [nodupB,Bool.and_eq_true,Bool.not_eq_true'] at h
 exact ⟨fun hm=>by rw [mem_iff.2 hm] at h; exact absurd h.1 (by simp),h.2⟩
theorem beqL_eq:∀ {l m:List Nat},beqL l m=true→l=m
 | [],[],_=>rfl
 | a::r,b::s,h=>by
  simp only [beqL,Bool.and_eq_true] at h
  rw [nbeq_iff.1 h.1,beqL_eq h.2]
theorem foldl_size (l:List (Nat×Value)):∀ t:Array Value,(l.foldl (fun t (x:Nat×Value)=>t.setIfInBounds x.1 x.2) t).size=t.size:=by
 induction l with
 | nil=>intro t; rfl
 | cons x l ih=>intro t; rw [List.foldl_cons,ih]; simp
theorem foldl_other (l:List (Nat×Value)) {k:Nat}:∀ t:Array Value,(∀ x,x∈l→x.1≠k)→(l.foldl (fun t (x:Nat×Value)=>t.setIfInBounds x.1 x.2) t)[k]? = t[k]? := by
 induction l with
 | nil=>intro t _; rfl
 | cons x l ih=>
  intro t h
  rw [List.foldl_cons,ih _ fun y hy=>h y (List.mem_cons_of_mem _ hy),Array.getElem?_setIfInBounds_ne (h x (List.mem_cons_self ..))]
theorem putL_fold {f:Fr}:∀ (po:Outs) (x:Ts.den (tysL po)) (t:Array Value),nodupB (po.map (·.1))=true→(∀ p,p∈po→p.1<t.size)→(∀ n v,f.get n=some v→t[n]? = some v) →
  ∀ n v,(putL f po x).get n=some v→(((po.map (·.1)).zip (Ts.inj (tysL po) x)).foldl (fun t (x:Nat×Value)=>t.setIfInBounds x.1 x.2) t)[n]? = some v:=by
 intro po
 induction po with
 | nil=>intro x t _ _ h n v hv; exact h n v hv
 | cons p po ih=>
  intro x t hd hs h n v hv
  obtain ⟨k,ty⟩:=p
  obtain ⟨hk,hd'⟩:=nodup_not (p:=k) (r:=po.map (·.1)) (show nodupB (k::po.map (·.1))=true from hd)
  have hv':Fr.get ((k,ty.inj x.1)::putL f po x.2) n=some v:=hv
  rw [Fr.get_cons] at hv'
  show ((List.zip (po.map (·.1)) (Ts.inj (tysL po) x.2)).foldl _ (t.setIfInBounds k (ty.inj x.1)))[n]? = some v
  by_cases e:k=n
  ·subst e
   simp only [if_true,Option.some.injEq] at hv'
   subst hv'
   rw [foldl_other]
   ·have:=hs (k,ty) (List.mem_cons_self ..)
    dsimp only at this
    simp [this]
   ·intro y hy he
    refine hk ?_
    rw [← he]
    exact (List.of_mem_zip (a:=y.1) (b:=y.2) hy).1
  ·simp only [e,if_false] at hv'
   have hput:∀ m u,(putL f po x.2).get m=some u→m≠k→((List.zip (po.map (·.1)) (Ts.inj (tysL po) x.2)).foldl (fun t (x:Nat×Value)=>t.setIfInBounds x.1 x.2) (t.setIfInBounds k (ty.inj x.1)))[m]? = some u:=by
    intro m u hu hm
    have h1:=ih x.2 t hd' (fun p hp=>hs p (List.mem_cons_of_mem _ hp)) h m u hu
    have key:∀ (l:List (Nat×Value)) (t:Array Value),k∉l.map (·.1)→(l.foldl (fun t (x:Nat×Value)=>t.setIfInBounds x.1 x.2) (t.setIfInBounds k (ty.inj x.1)))[m]? = (l.foldl (fun t (x:Nat×Value)=>t.setIfInBounds x.1 x.2) t)[m]? := by
     intro l
     induction l with
     | nil=>intro t _; rw [List.foldl_nil,List.foldl_nil,Array.getElem?_setIfInBounds_ne (Ne.symm hm)]
     | cons y l ihl=>
      intro t hy
      simp only [List.map_cons,List.mem_cons,not_or] at hy
      rw [List.foldl_cons,List.foldl_cons]
      have hc:(t.setIfInBounds k (ty.inj x.1)).setIfInBounds y.1 y.2=(t.setIfInBounds y.1 y.2).setIfInBounds k (ty.inj x.1):=Array.setIfInBounds_comm _ _ hy.1
      rw [hc]
      exact ihl _ hy.2
    rw [key _ _ (fun hmem=>?_)]
    ·exact h1
    ·obtain ⟨y,hy,he⟩:=List.mem_map.1 hmem
     refine hk ?_
     rw [← he]
     exact (List.of_mem_zip (a:=y.1) (b:=y.2) hy).1
   exact hput n v hv' (fun e'=>e e'.symm)
theorem leaves_wp {K:Ex→Prog} {h:Heap} {Qp:Post}:∀ {es:List Nat} {j:Nat},wp P (leaves K es j) h Qp→∃ e,j=tagOf e∧wp P (K e) h Qp:=by
 intro es
 induction es with
 | nil=>
  intro j hw
  simp only [leaves] at hw
  cases hb:Nat.beq j 0
  ·simp only [ifB,eqN,hb,cond_false] at hw; exact hw.elim
  ·simp only [ifB,eqN,hb,cond_true] at hw; exact ⟨.nrm,nbeq_iff.1 hb,hw⟩
 | cons k es ih=>
  intro j hw
  cases k with
  | zero=>
   simp only [leaves] at hw
   cases hb:Nat.beq j 1
   ·simp only [ifB,eqN,hb,cond_false] at hw; exact ih hw
   ·simp only [ifB,eqN,hb,cond_true] at hw; exact ⟨.ret,nbeq_iff.1 hb,hw⟩
  | succ id=>
   simp only [leaves] at hw
   cases hb:Nat.beq j (id+2)
   ·simp only [ifB,eqN,hb,cond_false] at hw; exact ih hw
   ·simp only [ifB,eqN,hb,cond_true] at hw; exact ⟨.ex id,nbeq_iff.1 hb,hw⟩
theorem jump_tag (e:Ex):jumpOf (tagOf e)=match e with | .nrm=>none | .ret=>some .ret | .ex id=>some (.exit id):=by cases e <;> rfl
theorem putObj_heap (w:World) (l:Nat) (o:Obj):(w.putObj l o).heap=w.heap.setIfInBounds l o:=rfl
theorem putObj_env (w:World) (l:Nat) (o:Obj):Env w (w.putObj l o):=⟨rfl,rfl,rfl⟩
theorem swC_sound {D:Prop} {Γ:Ctx} (hΓ:CtxOk P Γ) (hm:P.follows .mixedOrders=true) {n:Nat}:∀ (c:Code),okC P An n c=true→∀ {w0:World} {ro:Option Nat} {df:List Deferred} {G:Act→Prop} {f:Fr} {K:Ex→Fr→Prog}
  {Qp:Post} {Q:Exit→Act→World→Prop} {a:Act} {w:World},Keeps G (writes c)→Blind G→(hasRange c=true→ro=none)→(hasDef c=true→D)→St w0 (fun a=>G a∧a.defers=df) n f a w→wp P (swC P Γ An c f K) w.heap Qp →
  (∀ e f a w df' Qp',Marks P D df Qp df' Qp'→(hasRange c=false→df'=df∧Qp'=Qp)→St w0 (fun a=>G a∧a.defers=df') n f a w→wp P (K e f) w.heap Qp'→Q (toExit e) a w)→c.wpIn (Fen ro) 0 P Q a w:=by
 intro c
 induction c with
 | skip=>intro hok w0 ro df G f K Qp Q a w hG hB hR hD hs hw hK; exact wpIn_skip (hK _ _ _ _ _ _ .refl (fun _=>⟨rfl,rfl⟩) hs hw)
 | region id ops draw=>
  intro hok w0 ro df G f K Qp Q a w hG hB hR hD hs hw hK
  have hG:=keeps_df hG df
  simp only [swC] at hw
  split at hw
  ·rename_i o c hdo
   have hr:hasRange (.region id ops draw)=true:=by simp [hasRange,hdo]
   have hdd:D:=hD (by simp [hasDef,hdo])
   obtain rfl:=hR hr
   obtain ⟨rfl,hpos,hlast,hop⟩:=deferOf_some hdo
   have hdst:∀ (i:Nat) o d,ops[i]? = some o→o.dst=some d→d<n∧d∈dsts ops.toList:=by
    simp only [okC,Bool.and_eq_true] at hok
    intro i o d hi hod
    have hmem:d∈dsts ops.toList:=List.mem_filterMap.2 ⟨o,by
     have:ops.toList[i]? = some o:=by simpa using hi
     exact List.mem_of_getElem? this,hod⟩
    exact ⟨Nat.le_of_ble_eq_true (List.all_eq_true.1 hok.2.1 d hmem),hmem⟩
   have hlast':ops[ops.toList.length-1]? = some o:=by simpa using hlast
   refine wpIn_region ?_
   have hrange:List.range ops.size=List.range (ops.toList.length-1)++[ops.toList.length-1]:=by
    have:ops.size=(ops.toList.length-1)+1:=by rw [← Array.length_toList]; omega
    rw [this,List.range_succ]
   rw [hrange]
   refine wpR_wpOpsA (dr:=false) (loose:=[]) (R:=fun a w=>wpOpsIn (Fen none) 0 P ops Q [ops.toList.length-1] a w) (fun _ _ h=>h) _ [] a w ?_
   refine swOps_sound (P:=P) (dr:=false) hΓ hdst hG (fun f' a' w' hs' hw'=>?_) (List.range (ops.toList.length-1)) [] [] f a w trivial hs hw
   simp only [wpOpsIn,hlast']
   split at hw'
   ·rename_i g hgu hcal
    split at hw'
    ·rename_i i first cap args' hg hargs
     split at hw'
     ·rename_i y hy
      obtain ⟨m,tys⟩:=y
      obtain ⟨hcall, -⟩:=hΓ _ _ _ _ hy
      have hwa:Region.wanted o (yielded ops a'.tmps)=true:=by simp [Region.wanted,hgu]
      simp only [hwa,if_true]
      refine ⟨fun _ _=>trivial,?_⟩
      let d:Deferred:={ target:=.fn (.func i) cap,args:=first++args'.toArray }
      have hrun:(o.semAt (Fen none).round a'.eval).run P w' = .ok (.defer d) w':=by
       have h1:(resolve a'.eval c o.type).run P w' = .ok d w':=by
        rw [resolve_value (a:=a') hs'.fr hcal hg hargs o.type]
        rfl
       show (execOp a'.eval o).run P w'=_
       unfold execOp
       simp only [hop,Sem.run_bind,h1,Result.andThen_ok,Sem.run_pure]
      rw [hrun]
      rw [Oper.uponIn_defer]
      have hdef:DefOf P d i (first.toList++args'++cap.toList):=⟨⟨_,_,rfl⟩,fun w=>by
       have:=hcall (first++args'.toArray++cap) w
       simp only [d,invoke,this]
       congr 2
       apply Array.toList_inj.1
       simp⟩
      have hSt:St w0 (fun a=>G a∧a.defers=d::df) n f' { a' with defers:=d::a'.defers } w':=⟨hs'.fr,hs'.sz,hs'.env,hB _ _ hs'.g.1,by rw [← hs'.g.2]⟩
      have hodst:∀ k,o.dst=some k→k<n∧k∈dsts ops.toList:=fun k hk=>hdst _ o k hlast' hk
      have hGd:Keeps (fun a=>G a∧a.defers=d::df) (dsts ops.toList):=fun a k v hk hg=>⟨(hG { a with defers:=df } k v hk ⟨hB _ _ hg.1,rfl⟩).1 |> fun h=>by
       have:=hB _ (d::df) h
       simpa [Act.put,hg.2] using this,hg.2⟩
      exact hK .nrm _ _ _ _ _ (.call hdd hdef .refl) (fun h=>by rw [hr] at h; cases h) (hSt.put hGd hodst (Env.refl _) undef) hw'
     ·exact hw'.elim
    ·exact hw'.elim
   ·exact hw'.elim
  split at hw
  ·exact swRegion_sound hΓ hm hok hG hs hw fun f a w hs hw=>hK .nrm f a w _ _ .refl (fun _=>⟨rfl,rfl⟩) hs hw
  ·rename_i outs keep ho
   rw [onlyK_eq] at hw
   have hdj:disj keep (dsts ops.toList)=true:=by
    have h2:=hok
    simp only [okC,Bool.and_eq_true,ho,disjO] at h2
    exact h2.1
   have hG':=hG.and (keeps_only f hdj)
   refine swRegion_sound (G:=fun a=>(G a∧a.defers=df)∧FrOk (f.only keep) a) hΓ hm hok hG' ⟨hs.fr,hs.sz,hs.env,hs.g,hs.fr.only _⟩ hw fun f' a' w' hs' hw'=>?_
   obtain ⟨o,vs,h1,h2,h3⟩:=encode_wp hw'
   obtain ⟨o',x,h4,rfl,h5⟩:=decode_wp (e:=.nrm) h3
   obtain rfl:o=o':=Option.some.inj (h1.symm.trans h4)
   exact hK .nrm _ _ _ _ _ .refl (fun _=>⟨rfl,rfl⟩) ⟨putL_ok hs'.g.2 hs'.fr h2,hs'.sz,hs'.env,hs'.g.1⟩ h5
 | seq c d ihc ihd=>
  intro hok w0 ro df G f K Qp Q a w hG hB hR hD hs hw hK
  simp only [okC,Bool.and_eq_true] at hok
  obtain ⟨hdj,hnr,hok⟩:=hok
  have hGc:Keeps G (writes c):=hG.sub fun d hd=>List.mem_append_left _ hd
  have hGd:Keeps G (writes d):=hG.sub fun d hd=>List.mem_append_right _ hd
  have hRc:hasRange c=true→ro=none:=fun h=>hR (by simp [hasRange,h])
  have hRd:hasRange d=true→ro=none:=fun h=>hR (by simp [hasRange,h])
  have hDc:hasDef c=true→D:=fun h=>hD (by simp [hasDef,h])
  have hDd:hasDef d=true→D:=fun h=>hD (by simp [hasDef,h])
  refine wpIn_seq ?_
  have hK':∀ e f a w df' Qp',Marks P D df Qp df' Qp'→(hasRange c=false→df'=df∧Qp'=Qp)→St w0 (fun a=>G a∧a.defers=df') n f a w →
    wp P ((fun e f'=>match e with | .nrm=>swC P Γ An d f' K | e=>K e f':Ex→Fr→Prog) e f) w.heap Qp'→Exit.then (d.wpIn (Fen ro) 0 P Q) Q (toExit e) a w:=by
   intro e f a w df' Qp' hm1 hn1 hs hw
   cases e with
   | nrm=>exact ihd hok.2 hGd hB hRd hDd hs hw fun e f a w df2 Qp2 hm2 hn2 hs hw=>hK e f a w df2 Qp2 (hm1.trans hm2) (fun h=>by
     simp only [hasRange,Bool.or_eq_false_iff] at h
     obtain ⟨r1,r2⟩:=hn1 h.1
     obtain ⟨r3,r4⟩:=hn2 h.2
     exact ⟨r3.trans r1,r4.trans r2⟩) hs hw
   | ex id=>exact hK (.ex id) f a w df' Qp' hm1 (fun h=>by simp only [hasRange,Bool.or_eq_false_iff] at h; exact hn1 h.1) hs hw
   | ret=>exact hK .ret f a w df' Qp' hm1 (fun h=>by simp only [hasRange,Bool.or_eq_false_iff] at h; exact hn1 h.1) hs hw
  simp only [swC] at hw
  split at hw
  ·exact ihc hok.1 hGc hB hRc hDc hs hw hK'
  ·rename_i outs keep ho
   rw [onlyK_eq] at hw
   simp only [ho,disjO] at hdj
   simp only [ho,Bool.not_eq_true'] at hnr
   have hG':=hGc.and (keeps_only f hdj)
   refine ihc hok.1 (G:=fun a=>G a∧FrOk (f.only keep) a) hG' (fun a d h=>⟨hB a d h.1,h.2⟩) hRc hDc ⟨hs.fr,hs.sz,hs.env,⟨hs.g.1,hs.fr.only _⟩,hs.g.2⟩ hw fun e f' a' w' df' Qp' hm1 hn1 hs' hw'=>?_
   obtain ⟨rfl,rfl⟩:=hn1 hnr
   obtain ⟨o,vs,h1,h2,h3⟩:=encode_wp hw'
   obtain ⟨o',x,h4,rfl,h5⟩:=decode_wp h3
   obtain rfl:o=o':=Option.some.inj (h1.symm.trans h4)
   exact hK' e _ _ _ _ _ .refl (fun _=>⟨rfl,rfl⟩) ⟨putL_ok hs'.g.1.2 hs'.fr h2,hs'.sz,hs'.env,hs'.g.1.1,hs'.g.2⟩ h5
 | cond x c d ihc ihd=>
  intro hok w0 ro df G f K Qp Q a w hG hB hR hD hs hw hK
  simp only [okC,Bool.and_eq_true] at hok
  simp only [swC] at hw
  split at hw
  ·rename_i t ht
   have he:=ev_sound hs.fr ht
   cases t
   ·simp only [ifB,cond_false] at hw
    exact wpIn_cond_false he (ihd hok.2 (hG.sub fun d hd=>List.mem_append_right _ hd) hB (fun h=>hR (by simp [hasRange,h])) (fun h=>hD (by simp [hasDef,h])) hs hw fun e f a w df' Qp' m1 n1=>hK e f a w df' Qp' m1 (fun h=>n1 (by simp only [hasRange,Bool.or_eq_false_iff] at h; exact h.2)))
   ·simp only [ifB,cond_true] at hw
    exact wpIn_cond_true he (ihc hok.1 (hG.sub fun d hd=>List.mem_append_left _ hd) hB (fun h=>hR (by simp [hasRange,h])) (fun h=>hD (by simp [hasDef,h])) hs hw fun e f a w df' Qp' m1 n1=>hK e f a w df' Qp' m1 (fun h=>n1 (by simp only [hasRange,Bool.or_eq_false_iff] at h; exact h.1)))
  ·exact hw.elim
 | block id c ih=>
  intro hok w0 ro df G f K Qp Q a w hG hB hR hD hs hw hK
  refine wpIn_block (ih hok hG hB hR hD hs hw fun e f a w df' Qp' m1 n1 hs hw=>?_)
  cases e with
  | nrm=>exact hK .nrm f a w _ _ m1 n1 hs hw
  | ret=>exact hK .ret f a w _ _ m1 n1 hs hw
  | ex j=>
   simp only at hw
   simp only [toExit,Exit.inBlock]
   by_cases e:j=id
   ·subst e
    simp only [nbeq_iff.2 rfl,cond_true] at hw
    simp only [if_true]
    exact hK .nrm f a w _ _ m1 n1 hs hw
   ·simp only [nbeq_ne e,cond_false] at hw
    simp only [e,if_false]
    exact hK (.ex j) f a w _ _ m1 n1 hs hw
 | loop c ih=>
  intro hok w0 ro df G f K Qp Q a w hG hB hR hD hs hw hK
  simp only [swC] at hw
  split at hw
  ·exact hw.elim
  ·rename_i outs keep ho
   split at hw
   ·exact hw.elim
   ·rename_i vs hvs
    split at hw
    ·exact hw.elim
    rename_i s0 hs0
    obtain rfl:=Ts.prj_inj hs0
    rw [onlyK_eq] at hw
    obtain ⟨I,μ,h0,hr⟩:=hw
    simp only [okC,Bool.and_eq_true,ho,disjO,Bool.not_eq_true'] at hok
    obtain ⟨hdj,hnr,hok⟩:=hok
    have hG':=hG.and (keeps_only f hdj)
    refine wp_loopS (I:=fun s a w=>I s w.heap∧St w0 (fun a=>(G a∧FrOk (f.only keep) a)∧a.defers=df) n (putL (f.only keep) outs s) a w) (μ:=fun s w=>μ s w.heap) s0
     ⟨h0,putL_ok (hs.fr.only _) hs.fr hvs,hs.sz,hs.env,⟨hs.g.1,hs.fr.only _⟩,hs.g.2⟩ fun s a w hi=>?_
    refine ih hok hG' (fun a d h=>⟨hB a d h.1,h.2⟩) hR hD hi.2 (hr s w.heap hi.1) fun e f' a' w' df' Qp' m1 n1 hs' hw'=>?_
    obtain ⟨rfl,rfl⟩:=n1 hnr
    obtain ⟨o,vs,h1,h2,h3⟩:=encode_wp hw'
    cases e with
    | nrm=>
     obtain ⟨s',rfl,hI,hμ⟩:=h3.1 rfl
     obtain rfl:=Option.some.inj h1
     exact ⟨s',⟨hI,putL_ok hs'.g.1.2 hs'.fr h2,hs'.sz,hs'.env,hs'.g⟩,hμ⟩
    | ret=>
     obtain ⟨o',x,h4,rfl,h5⟩:=decode_wp (e:=.ret) (h3.2 (by simp [tagOf]))
     obtain rfl:o=o':=Option.some.inj (h1.symm.trans h4)
     exact hK .ret _ _ _ _ _ .refl (fun _=>⟨rfl,rfl⟩) ⟨putL_ok hs'.g.1.2 hs'.fr h2,hs'.sz,hs'.env,hs'.g.1.1,hs'.g.2⟩ h5
    | ex id=>
     obtain ⟨o',x,h4,rfl,h5⟩:=decode_wp (e:=.ex id) (h3.2 (by simp [tagOf]))
     obtain rfl:o=o':=Option.some.inj (h1.symm.trans h4)
     exact hK (.ex id) _ _ _ _ _ .refl (fun _=>⟨rfl,rfl⟩) ⟨putL_ok hs'.g.1.2 hs'.fr h2,hs'.sz,hs'.env,hs'.g.1.1,hs'.g.2⟩ h5
 | exit id=>intro hok w0 ro df G f K Qp Q a w hG hB hR hD hs hw hK; exact wpIn_exit (hK (.ex id) _ _ _ _ _ .refl (fun _=>⟨rfl,rfl⟩) hs hw)
 | ret=>intro hok w0 ro df G f K Qp Q a w hG hB hR hD hs hw hK; exact wpIn_ret (hK .ret _ _ _ _ _ .refl (fun _=>⟨rfl,rfl⟩) hs hw)
 | rangeFunc g ps asg b iha ihb=>
  intro hok w0 ro df G f K Qp Q a w hG hB hR hD hs hw hK
  obtain rfl:=hR rfl
  simp only [swC] at hw
  split at hw
  ·exact hw.elim
  rename_i p0 pr hps
  split at hw
  ·rename_i fv po outs hfv hrng
   simp only [okC,Bool.and_eq_true,hps,hrng,Bool.not_eq_true'] at hok
   obtain ⟨hnd,hlt,hpo,hna,hnb,hoka,hokb⟩:=hok
   have hpo:=beqL_eq hpo
   rw [← hps] at hpo hnd hlt
   refine wpIn_rangeFunc fun fn _=>?_
   have hfvE:a.eval g=fv:=ev_sound hs.fr hfv
   let r:Loop:={ state:=.ready,pending:=none,fn,tmps:=a.tmps,params:=ps,assign:=asg,body:=b,defers:=w.heap.size }
   let w1:World:=(w.alloc (.deferred (some []))).alloc (.loop r)
   have henter:=run_enterLoop_outer (P:=P) (w:=w) fn a.tmps ps asg b
   have hw1:w1.heap=(w.heap.push (.deferred (some []))).push (.loop r):=rfl
   refine Exists.elim (hw r rfl rfl (fun x h2 R hr2 hasg=>?round) w1 hw1) fun d hd=>?main
   case main=>
    obtain ⟨gf,as,hof,hinv,hcall⟩:=hd
    refine ⟨w.heap.size+1,[markOf w.heap.size],w1,d,w1,gf,as,w1,henter,?_,fun _ _=>trivial,hinv,(fun h=>by cases h),callsIn_fen (Calls.mono hcall fun e w3 he=>?_)⟩
    ·simp only [resolve,hfvE,List.size_toArray]
     simp [Act.eval]
     exact hof
    obtain ⟨vs,rfl,henv,j,hrec,hk⟩:=he
    have hnb2:(recOf r j).state ≠ .busy:=by
     unfold recOf
     dsimp only
     split <;> simp
    have hend:=run_endLoop (P:=P) hrec hnb2
    refine ⟨(recOf r j).pending,_,hend,?_⟩
    obtain ⟨e,rfl,hke⟩:=leaves_wp hk
    have hSt:St w0 (fun a'=>G a'∧a'.defers=markOf w.heap.size::df) n f { a with defers:=[markOf w.heap.size]++a.defers } (w3.putObj (w.heap.size+1) (.loop { recOf r (tagOf e) with state:=.exhausted })):=
     ⟨hs.fr,hs.sz,((hs.env.trans (show Env w w1 from ⟨rfl,rfl,rfl⟩)).trans henv).trans (putObj_env _ _ _),hB _ _ hs.g.1,by rw [← hs.g.2]; rfl⟩
    have hq:=hK e f _ _ _ _ (.push w.heap.size .refl) (fun h=>by simp [hasRange] at h) hSt hke
    have hj:(recOf r (tagOf e)).pending=jumpOf (tagOf e):=rfl
    rw [hj,jump_tag]
    cases e with
    | nrm=>exact hq
    | ret=>exact wpIn_ret hq
    | ex id=>exact wpIn_exit hq
   case round=>
    intro w2 hw2
    subst hw2
    refine ⟨{ target:=.fn (.yield (w.heap.size+1)) #[],args:=#[]++(Ts.inj (tysL po) x).toArray },rfl, .inr ⟨w.heap.size+1,r.fn,_,r.assign,r.body,run_yield hr2 ?_,?_⟩⟩
    ·have:(Ts.inj (tysL po) x).length=po.length:=by
      have:∀ {ts:List Ty} (x:Ts.den ts),(Ts.inj ts x).length=ts.length:=by
       intro ts
       induction ts with
       | nil=>intro x; rfl
       | cons t ts ih=>intro x; simp [Ts.inj,ih]
      rw [this]; simp [tysL]
     have h2:ps.size=po.length:=by rw [← Array.length_toList, ← hpo,List.length_map]
     simp [this,h2,r]
    refine roundIn_of_wpIn trivial ?_
    rw [Fen_in]
    have htm:(r.params.zip (#[]++(Ts.inj (tysL po) x).toArray)).foldl (fun tmps (t,a)=>tmps.setIfInBounds t a) r.tmps=((po.map (·.1)).zip (Ts.inj (tysL po) x)).foldl (fun t (x:Nat×Value)=>t.setIfInBounds x.1 x.2) a.tmps:=by
     rw [hpo, ← Array.foldl_toList]
     simp [r]
    rw [htm]
    have hszr:=foldl_size ((po.map (·.1)).zip (Ts.inj (tysL po) x)) a.tmps
    have hfr:FrOk (putL f po x) { tmps:=((po.map (·.1)).zip (Ts.inj (tysL po) x)).foldl (fun t (x:Nat×Value)=>t.setIfInBounds x.1 x.2) a.tmps,defers:=[] }:=by
     refine putL_fold po x a.tmps (by rw [hpo]; exact hnd) (fun p hp=>?_) hs.fr
     have:p.1∈ps.toList:=by rw [← hpo]; exact List.mem_map_of_mem hp
     have:=List.all_eq_true.1 hlt _ this
     have:=Nat.le_of_ble_eq_true this
     rw [hs.sz]; omega
    have hbase:Keeps (FrOk (Fr.without f (ps.toList++writes asg))) (writes asg):=fun a d v hd hf k u hk=>by
     have hne:d≠k:=fun e=>(without_get hk).2 (List.mem_append_right _ (e ▸ hd))
     simp [Act.put,Array.getElem?_setIfInBounds_ne hne,hf k u hk]
    have hfb:FrOk (Fr.without f (ps.toList++writes asg)) { tmps:=((po.map (·.1)).zip (Ts.inj (tysL po) x)).foldl (fun t (x:Nat×Value)=>t.setIfInBounds x.1 x.2) a.tmps,defers:=[] }:=fun k u hk=>by
     obtain ⟨h1,h2⟩:=without_get hk
     show (List.foldl _ _ _)[k]? = some u
     rw [foldl_other]
     ·exact hs.fr k u h1
     ·intro y hy he
      refine h2 (List.mem_append_left _ ?_)
      rw [← he, ← hpo]
      exact (List.of_mem_zip (a:=y.1) (b:=y.2) hy).1
    refine iha hoka (w0:=w2) (ro:=some (w.heap.size+1)) (df:=[]) (G:=FrOk (Fr.without f (ps.toList++writes asg))) hbase (fun _ _ h=>h) (fun h=>by rw [hna] at h; cases h) (fun h=>hD (by simp [hasDef,h])) ⟨hfr,by rw [hszr]; exact hs.sz,Env.refl _,hfb,rfl⟩ hasg fun e f1 a1 w3 df' Qp' m1 n1 hs1 hw3=>?_
    obtain ⟨rfl,rfl⟩:=n1 hna
    cases e with
    | ret=>exact hw3.elim
    | ex id=>exact hw3.elim
    | nrm=>
     simp only at hw3
     split at hw3
     ·rename_i vs hvs
      obtain ⟨-, y,rfl,hrec3,hbody⟩:=hw3
      refine ⟨_,run_beginRound hrec3 rfl,?_⟩
      refine ihb hokb (w0:=w2) (ro:=some (w.heap.size+1)) (df:=[]) (G:=fun _=>True) (fun _ _ _ _ h=>h) (fun _ _ h=>h) (fun h=>by rw [hnb] at h; cases h) (fun h=>hD (by simp [hasDef,h])) ⟨putL_ok hs1.g.1 hs1.fr hvs,hs1.sz,hs1.env.trans (putObj_env _ _ _),trivial,hs1.g.2⟩ hbody fun e f2 a2 w4 df' Qp' m2 n2 hs2 hw4=>?_
      obtain ⟨rfl,rfl⟩:=n2 hnb
      obtain ⟨hrec4,hR4⟩:=hw4
      have hfin:∀ jump:Option Code,jump=jumpOf (tagOf e)→∃ v w',(Instr.endRound (w.heap.size+1) jump).run P w4 = .ok v w'∧∃ vs,Ending.returned v = .returned (resV vs)∧Env w2 w'∧R vs w'.heap:=by
       rintro jump rfl
       refine ⟨_,_,run_endRound _ hrec4,[.bool (jumpOf (tagOf e)).isNone],rfl,hs2.env.trans (putObj_env _ _ _),?_⟩
       rw [putObj_heap]
       exact hR4
      cases e with
      | nrm=>exact hfin none rfl
      | ret=>exact hfin (some .ret) rfl
      | ex id=>exact hfin (some (.exit id)) rfl
     ·exact hw3.elim
  ·exact hw.elim
 | scope=>intro hok w0 ro df G f K Qp Q a w hG hB hR hD hs hw hK; exact hw.elim
 | label=>intro hok w0 ro df G f K Qp Q a w hG hB hR hD hs hw hK; exact hw.elim
 | goto=>intro hok w0 ro df G f K Qp Q a w hG hB hR hD hs hw hK; exact hw.elim
 | refuse=>intro hok w0 ro df G f K Qp Q a w hG hB hR hD hs hw hK; exact hw.elim
theorem initFr_get:∀ {vs:List Value} {k n:Nat} {v:Value},(initFr k vs).get n=some v→k≤n∧vs[n-k]? = some v:=by
 intro vs
 induction vs with
 | nil=>intro k n v h; simp [initFr,Fr.get] at h
 | cons u vs ih=>
  intro k n v h
  simp only [initFr,Fr.get_cons] at h
  by_cases e:k=n
  ·subst e
   simp only [if_true,Option.some.injEq] at h
   simp [h]
  ·simp only [e,if_false] at h
   obtain ⟨h1,h2⟩:=ih h
   refine ⟨by omega,?_⟩
   have:n-k=(n-(k+1))+1:=by omega
   rw [this]
   simpa using h2
def resSem (tmps:Array Value):ResultVar→Sem Value
 | .tmp t=>pure (tmps.getD t undef)
 | .cell x t=>do loadVar t (← asAddr (tmps.getD x undef))
theorem retVals_sound {f:Fr} {a:Act} {w:World} (hf:FrOk f a):∀ {rs:List ResultVar} {K:List Value→Prog} {Qp:Nat→List Value→Heap→Prop},wp P (retVals P f rs K) w.heap Qp →
  ∃ vs,(rs.mapM (resSem a.tmps)).run P w = .ok vs w∧wp P (K vs) w.heap Qp∧vs.length=rs.length:=by
 intro rs
 induction rs with
 | nil=>intro K Qp h; exact ⟨[],by simp,h,rfl⟩
 | cons r rs ih=>
  intro K Qp h
  cases r with
  | tmp t=>
   simp only [retVals] at h
   split at h
   ·rename_i v hv
    obtain ⟨vs,h1,h2,h3⟩:=ih h
    refine ⟨v::vs,?_,h2,by simp [h3]⟩
    have hv':a.tmps.getD t undef=v:=by simp [hf _ _ hv]
    simp only [List.mapM_cons,Sem.run_bind,resSem,Sem.run_pure,Result.andThen_ok,hv']
    simp only [h1,Result.andThen_ok]
   ·exact h.elim
  | cell x t=>
   simp only [retVals] at h
   split at h
   ·rename_i p ty hx ht
    obtain ⟨ad,rfl,y,hc,h⟩:=h
    obtain ⟨vs,h1,h2,h3⟩:=ih h
    refine ⟨ty.inj y::vs,?_,h2,by simp [h3]⟩
    have hx':a.tmps.getD x undef = .pointer (some ad):=by simp [hf _ _ hx]
    simp only [List.mapM_cons,Sem.run_bind,resSem,hx',asAddr,Sem.run_pure,Result.andThen_ok,loadVar_ok (P:=P) ht hc]
    simp only [h1,Result.andThen_ok]
   ·exact h.elim
theorem results_ok {fn:Func} {a:Act} {w:World} {vs:List Value} (h:(fn.results.toList.mapM (resSem a.tmps)).run P w = .ok vs w) :
  (results fn a.tmps).run P w = .ok (resV vs) w:=by
 change (do let vs ← fn.results.mapM (resSem a.tmps); pure (if h:vs.size=1 then vs[0] else .tuple vs):Sem Value).run P w=_
 rw [Array.mapM_eq_mapM_toList]
 simp only [Sem.run_bind,Sem.run_map,h,Result.andThen_ok]
 match vs with
 | []=>rfl
 | [v]=>rfl
 | u::v::r=>rfl
def tmpOnly:List ResultVar→Bool
 | []=>true
 | .tmp _::r=>tmpOnly r
 | _=>false
theorem tmpOnly_any {f:Fr} {a:Act} (hf:FrOk f a):∀ {rs:List ResultVar} {K:List Value→Prog} {Qp:Post} {h:Heap},tmpOnly rs=true→wp P (retVals P f rs K) h Qp →
  ∃ vs,(∀ w:World,(rs.mapM (resSem a.tmps)).run P w = .ok vs w)∧wp P (K vs) h Qp:=by
 intro rs
 induction rs with
 | nil=>intro K Qp h _ hw; exact ⟨[],fun w=>by simp,hw⟩
 | cons r rs ih=>
  intro K Qp h ht hw
  cases r with
  | tmp t=>
   simp only [retVals] at hw
   split at hw
   ·rename_i v hv
    obtain ⟨vs,h1,h2⟩:=ih ht hw
    refine ⟨v::vs,fun w=>?_,h2⟩
    have hv':a.tmps.getD t undef=v:=by simp [hf _ _ hv]
    simp only [List.mapM_cons,Sem.run_bind,resSem,Sem.run_pure,Result.andThen_ok,hv']
    simp only [h1,Result.andThen_ok]
   ·exact hw.elim
  | cell x t=>cases ht
theorem fn_sound {Γ:Ctx} (hΓ:CtxOk P Γ) (hm:P.follows .mixedOrders=true) {i:FuncId} {fn:Func} {c:Code} (hf:P.funcs[i]? = some fn) (hb:fn.body=some c) {n:Nat} (hn:fn.ntmps=n) (hok:okC P An n c=true)
  (hres:(!hasRange c || tmpOnly fn.results.toList)=true)
  {args:List Value} (ha:Nat.ble args.length n=true) {h:Heap} {Q:List Value→Heap→Prop} (hw:wp P (swTop P Γ An fn args) h (fun tag vs h'=>tag=0∧Q vs h')):CallsV P i args h Q:=by
 intro w hwh
 subst hwh
 refine (callsIn_wide (n:=0)).1 (callsIn_of_wp_marks (F:=Fence.wide) hf hb trivial ?_)
 rw [← Fen_none]
 simp only [swTop,hb] at hw
 have hle:args.length≤n:=Nat.le_of_ble_eq_true ha
 have hsz:(args.toArray++Array.replicate (fn.ntmps-args.toArray.size) undef).size=n:=by simp [hn]; omega
 refine swC_sound (D:=True) (w0:=w) (df:=[]) (G:=fun _=>True) hΓ hm c hok (fun _ _ _ _ h=>h) (fun _ _ h=>h) (fun _=>rfl) (fun _=>trivial) ⟨?_,hsz,Env.refl w,trivial,rfl⟩ hw fun e f a w' df' Qp' m1 n1 hs hw'=>?_
 ·intro k v hv
  obtain ⟨h0,h1⟩:=initFr_get hv
  have hlt:k<args.length:=(List.getElem?_eq_some_iff.1 h1).1
  simp only [Nat.sub_zero] at h1
  have h2:args[k]=v:=by rw [List.getElem?_eq_getElem hlt] at h1; exact Option.some.inj h1
  simp [Array.getElem?_append,hlt,h2]
 ·have key:wp P (retVals P f fn.results.toList fun vs=>.ret 0 vs) w'.heap Qp'→LeavesInM (Fen none) 0 P fn a.tmps (fun e w''=>∃ vs,e = .returned (resV vs)∧Env w w''∧Q vs w''.heap) a.defers .returning w':=by
   intro hx
   rw [hs.g.2]
   cases hhr:hasRange c
   ·obtain ⟨rfl,rfl⟩:=n1 hhr
    obtain ⟨vs,h1,h2, -⟩:=retVals_sound hs.fr hx
    exact ⟨resV vs,results_ok h1,vs,rfl,hs.env,h2.2⟩
   ·rw [hhr] at hres
    obtain ⟨vs,h1,h2⟩:=tmpOnly_any hs.fr (by simpa using hres) hx
    have h2:Qp' 0 vs w'.heap:=h2
    have henv:=hs.env
    clear hs hw' hx n1
    generalize w'=w3 at *
    induction m1 generalizing w3 with
    | refl=>exact ⟨resV vs,results_ok (h1 w3),vs,rfl,henv,h2.2⟩
    | push D m ih=>
     refine ⟨by simp, .inl ⟨D,_,rfl,run_takeDeferred h2.1,?_⟩⟩
     apply ih
     all_goals first | exact h2.2 | exact henv.trans (putObj_env _ _ _)
    | call hD hd m ih=>
     obtain ⟨fv,cap,htar⟩:=hd.tar
     refine ⟨by simp, .inr ⟨(fun h=>by cases h),fv,cap,_,_,htar,hd.inv w3,fun _ _=>trivial,?_⟩⟩
     have hcd:=h2 .returning w3 rfl
     refine CallsDIn.mono hcd fun e u' w4 ⟨hu,v,he,hen,hq⟩=>?_
     subst hu; subst he
     apply ih
     all_goals first | exact hq | exact henv.trans hen
  cases e with
  | nrm=>exact key hw'
  | ret=>exact key hw'
  | ex id=>exact hw'.elim
end
end Go.Sw
