import Derived.Test.YtncolficnfcdcaaGreatSwS6
set_option linter.unusedSimpArgs false
set_option linter.unusedVariables false
namespace Go.Sw
section
variable {P:Program} {dr:Bool}
abbrev Made:=Nat×Sem Next×Value
def Rechecks (P:Program) (w:World) (js:List Made):Prop:=∀ x,x∈js→x.2.1.run P w = .ok (.value x.2.2) w
def behindM (loose:List (Nat×Nat)) (e:Nat) (js:List Made):List Made:=js.filter fun x=>isLoose loose x.1 e
def wpR (P:Program) (dr:Bool) (ops:Array Oper) (loose:List (Nat×Nat)) (R:Act→World→Prop):List Nat→List Made→Act→World→Prop
 | [],_,a,w=>R a w
 | i::rest,acc,a,w=>match ops[i]? with
  | none=>False
  | some o=>if Region.wanted o (yielded ops a.tmps) then
    (if isEff P o then stepR P dr o a w fun a' w'=>Rechecks P w' (behindM loose i acc)∧wpR P dr ops loose R rest acc a' w'
    else if isLoad P o then ∃ v,(execOp a.eval o).run P w = .ok (.value v) w∧wpR P dr ops loose R rest ((i,execOp a.eval o,v)::acc) (a.put o.dst v) w
    else stepR P dr o a w fun a' w'=>wpR P dr ops loose R rest acc a' w')
   else wpR P dr ops loose R rest acc (a.put o.dst undef) w
theorem FrOk.same {f:Fr} {a:Act} (h:FrOk f a) {d:Nat} {v:Value} (hd:a.tmps[d]? = some v):FrOk (f.put (some d) v) a:=by
 intro n u hu
 simp only [Fr.put,Fr.get_cons] at hu
 by_cases e:d=n
 ·subst e; simp only [if_true,Option.some.injEq] at hu; subst hu; exact hd
 ·simp only [e,if_false] at hu; exact h n u hu
theorem St.same {w0:World} {G:Act→Prop} {n:Nat} {f:Fr} {a:Act} {w:World} (h:St w0 G n f a w) {d:Nat} {v:Value} (hd:a.tmps[d]? = some v) :
  St w0 G n (f.put (some d) v) a w:=⟨h.fr.same hd,h.sz,h.env,h.g⟩
def Chk.ok (h:Heap):Chk→Prop
 | .mem p vs=>∃ a,p=some a∧Cells h a vs
 | .bytes x s=>Firsts h x.base x.len (s.toList.map fun b=>.int .u8 b.toNat)
def AccOk (P:Program):List Entry→List Made→Prop
 | [],[]=>True
 | e::es,m::ms=>(e.1=m.1∧∀ w:World,e.2.ok w.heap→m.2.1.run P w = .ok (.value m.2.2) w)∧AccOk P es ms
 | _,_=>False
theorem checks_sound {loose:List (Nat×Nat)} {e:Nat} {K:Prog} {Qp:Nat→List Value→Heap→Prop} {w:World}:∀ {es:List Entry} {ms:List Made},AccOk P es ms →
  wp P (checks (behind loose e es) K) w.heap Qp→Rechecks P w (behindM loose e ms)∧wp P K w.heap Qp:=by
 intro es
 induction es with
 | nil=>
  intro ms h hw
  cases ms with
  | nil=>exact ⟨fun x hx=>(List.not_mem_nil hx).elim,hw⟩
  | cons m ms=>exact h.elim
 | cons x es ih=>
  intro ms h hw
  cases ms with
  | nil=>exact h.elim
  | cons m ms=>
   obtain ⟨⟨h1,h2⟩,h3⟩:=h
   simp only [behind] at hw
   cases hl:isLoose loose x.1 e
   ·simp only [hl,cond_false] at hw
    have:=ih h3 hw
    rw [h1] at hl
    refine ⟨fun y hy=>this.1 y ?_,this.2⟩
    simpa [behindM,hl] using hy
   ·have hxw:x.2.ok w.heap∧wp P (checks (behind loose e es) K) w.heap Qp:=by
     obtain ⟨i,c⟩:=x
     cases c with
     | mem p vs=>
      simp only [hl,cond_true,checks] at hw
      exact hw
     | bytes y s=>
      simp only [hl,cond_true,checks] at hw
      obtain ⟨l,hf,hw⟩:=hw
      have hw:wp P (grd (eqS ⟨l.toArray⟩ s) (checks (behind loose e es) K)) w.heap Qp:=hw
      cases hs:eqS ⟨l.toArray⟩ s
      ·rw [hs] at hw; simp only [grd,cond_false] at hw; exact hw.elim
      ·rw [hs] at hw
       refine ⟨?_,hw⟩
       have e1:(⟨l.toArray⟩:ByteArray).toList=s.toList:=by simpa [eqS] using hs
       have e2:(⟨l.toArray⟩:ByteArray).toList=l:=by rw [ByteArray.toList_eq]
       show Firsts w.heap y.base y.len (s.toList.map fun b=>.int .u8 b.toNat)
       rw [← e1,e2]; exact hf
    obtain ⟨hx,hw⟩:=hxw
    have:=ih h3 hw
    rw [h1] at hl
    refine ⟨fun y hy=>?_,this.2⟩
    simp only [behindM,List.filter_cons,hl,if_true,List.mem_cons] at hy
    rcases hy with rfl | hy
    ·exact h2 w hx
    ·exact this.1 y hy
theorem loadVar_of_cells {w:World} {t:TypeId} {v:Value} {c:Bool} {vs:List Value} {ad:Addr} (hcs:cellsOf P t v=some (c,vs)) (hc:Cells w.heap ad vs) :
  (loadVar t ad).run P w = .ok v w:=by
 unfold cellsOf at hcs
 split at hcs
 ·rename_i i hi
  split at hcs
  ·rename_i hag
   split at hcs
   ·rename_i cs
    cases hb:Nat.beq cs.toList.length i.size
    ·simp only [hb,cond_false] at hcs; cases hcs
    ·simp only [hb,cond_true,Option.some.injEq,Prod.mk.injEq] at hcs
     obtain ⟨-, rfl⟩:=hcs
     have:=loadCells_ok (P:=P) hc
     rw [nbeq_iff.1 hb] at this
     simp only [loadVar,Sem.run_bind,aggD_isAgg hag,Result.andThen_ok,if_true,run_size hi,this,Sem.run_pure]
   ·cases hcs
  ·rename_i hag
   cases hb:Nat.beq i.size 1
   ·simp only [hb,cond_false] at hcs; cases hcs
   ·simp only [hb,cond_true,Option.some.injEq,Prod.mk.injEq] at hcs
    obtain ⟨-, rfl⟩:=hcs
    have h0:=hc.1
    simp only [Addr.add,if_true] at h0
    simp only [loadVar,Sem.run_bind,aggD_isAgg hag,Result.andThen_ok,Bool.false_eq_true,if_false,run_cell h0]
  ·cases hcs
 ·cases hcs
theorem entry_sound {f:Fr} {a:Act} (hf:FrOk f a) (i:Nat) (o:Oper) (v:Value) :
  (entryOf P i o f (f.put o.dst v)).1=i∧∀ w:World,(entryOf P i o f (f.put o.dst v)).2.ok w.heap →
   (execOp a.eval o).run P w = .ok (.value v) w:=by
 obtain ⟨dst,op,type,pos,after,guard⟩:=o
 unfold entryOf
 split
 ·rename_i d t x hd hop
  simp only at hd hop
  subst hd hop
  split
  ·rename_i p u hp hu
   simp only [Fr.put,Fr.get_cons,if_true,Option.some.injEq] at hu
   subst hu
   split
   ·rename_i c vs hcs
    refine ⟨rfl,fun w hw=>?_⟩
    obtain ⟨ad,rfl,hc⟩:=hw
    simp [execOp,ev_sound hf hp,Instr.loadAt,sureAddr_some,loadVar_of_cells hcs hc]
   ·exact ⟨rfl,fun w hw=>by obtain ⟨ad,e, -⟩:=hw; cases e⟩
  ·exact ⟨rfl,fun w hw=>by obtain ⟨ad,e, -⟩:=hw; cases e⟩
 ·rename_i d s t x hd hop
  simp only at hd hop
  subst hd hop
  split
  ·rename_i e p n c b hu1 hu2 hx hb
   simp only [Fr.put,Fr.get_cons,if_true,Option.some.injEq] at hb
   subst hb
   split
   ·rename_i hu3
    refine ⟨rfl,fun w hw=>?_⟩
    have e2:b=⟨b.toList.toArray⟩:=by
     rw [ByteArray.toList_eq]
    have:=run_convBytes (w:=w) (dst:=some d) (type:=type) (pos:=pos) (after:=after) (guard:=guard) hf hu1 hu2 hu3 hx (l:=b.toList) hw
    rw [← e2] at this
    exact this
   ·exact ⟨rfl,fun w hw=>by obtain ⟨ad,e, -⟩:=hw; cases e⟩
  ·exact ⟨rfl,fun w hw=>by obtain ⟨ad,e, -⟩:=hw; cases e⟩
 ·exact ⟨rfl,fun w hw=>by obtain ⟨ad,e, -⟩:=hw; cases e⟩
theorem stepR_mono {o:Oper} {a:Act} {w:World} {next next':Act→World→Prop} (h:∀ a w,next a w→next' a w) (hs:stepR P dr o a w next) :
  stepR P dr o a w next':=by
 unfold stepR at *
 split
 ·rename_i e; simp only [e] at hs; obtain ⟨v,h1,h2⟩:=hs; exact ⟨v,h1,h _ _ h2⟩
 ·rename_i e; simp only [e] at hs; obtain ⟨v,h1,h2⟩:=hs; exact ⟨v,h1,h _ _ h2⟩
 ·rename_i e1 e2
  split at hs
  ·rename_i e; exact (e1 rfl e).elim
  ·rename_i e; exact (e2 rfl e).elim
  ·exact Oper.wpI_mono h (fun _ _ _ h=>h) hs
theorem swOp_sound {Γ:Ctx} {anys:List Nat} (hΓ:CtxOk P Γ) {o:Oper} {a:Act} {w:World} {next:Act→World→Prop} {w0:World} {G:Act→Prop} {n:Nat} {f:Fr} {K:Fr→Prog}
  {Qp:Nat→List Value→Heap→Prop} {ws:List Nat}
  (hw:wp P (swOp P Γ anys dr o f K) w.heap Qp) (hs:St w0 G n f a w) (hd:∀ d,o.dst=some d→d<n∧d∈ws) (hG:Keeps G ws)
  (hK:∀ v w',St w0 G n (f.put o.dst v) (a.put o.dst v) w'→wp P (K (f.put o.dst v)) w'.heap Qp→next (a.put o.dst v) w'):stepR P dr o a w next:=by
 unfold swOp at hw
 split at hw
 ·rename_i c v hp
  have hc:PCHolds P c∧wp P (K (f.put o.dst v)) w.heap Qp:=by
   cases c with
   | b c=>
    cases c
    ·simp only [grd',grd,cond_false] at hw; exact hw.elim
    ·exact ⟨rfl,hw⟩
   | nil x=>exact hw
  exact stepR_any (v:=v) (fun w'=>pureOp_sound hs.fr hp hc.1 w') (hK v w (hs.put hG hd (Env.refl w) v) hc.2)
 ·exact effOp_sound hΓ hw hs hd hG hK
theorem swOp_load {Γ:Ctx} {anys:List Nat} {o:Oper} {a:Act} {w:World} {f:Fr} {K:Fr→Prog} {Qp:Nat→List Value→Heap→Prop} (hk:isLoad P o=true) (hf:FrOk f a)
  (hw:wp P (swOp P Γ anys dr o f K) w.heap Qp):∃ v,(execOp a.eval o).run P w = .ok (.value v) w∧wp P (K (f.put o.dst v)) w.heap Qp:=by
 obtain ⟨dst,op,type,pos,after,guard⟩:=o
 cases op <;> simp only [isLoad,kindOf,Bool.false_eq_true,reduceCtorEq] at hk
 case convert s d x=>
  unfold swOp at hw
  split at hw
  ·rename_i c v hp
   have hc:PCHolds P c∧wp P (K (f.put dst v)) w.heap Qp:=by
    cases c with
    | b c=>
     cases c
     ·simp only [grd',grd,cond_false] at hw; exact hw.elim
     ·exact ⟨rfl,hw⟩
    | nil x=>exact hw
   exact ⟨v,pureOp_sound hf hp hc.1 w,hc.2⟩
  ·simp only [effOp] at hw
   split at hw
   ·rename_i e p m c hu1 hu2 hx
    split at hw
    ·rename_i hu3
     obtain ⟨l,hl,hw⟩:=hw
     exact ⟨.string ⟨l.toArray⟩,run_convBytes hf hu1 hu2 hu3 hx hl,hw⟩
    ·exact hw.elim
   ·exact hw.elim
 case load t x=>
  simp only [swOp,pureOp,effOp] at hw
  split at hw
  ·rename_i p ty hx ht
   obtain ⟨ad,rfl,y,hc,hw⟩:=hw
   exact ⟨ty.inj y,by simp [execOp,ev_sound hf hx,Instr.loadAt,sureAddr_some,loadVar_ok (P:=P) ht hc],hw⟩
  ·exact hw.elim
 case call c=>
  obtain ⟨callee,args,ts⟩:=c
  cases callee with
  | builtin b=>cases b <;> first | (simp at hk; done) | (cases hm:mapArg P ts.toList <;> simp [hm] at hk)
  | _=>simp at hk
theorem swOps_sound {Γ:Ctx} {anys:List Nat} (hΓ:CtxOk P Γ) {ops:Array Oper} {loose:List (Nat×Nat)} {R:Act→World→Prop} {w0:World} {G:Act→Prop} {n:Nat} {K:Fr→Prog}
  {Qp:Nat→List Value→Heap→Prop} {ws:List Nat} (hd:∀ (i:Nat) o d,ops[i]? = some o→o.dst=some d→d<n∧d∈ws) (hG:Keeps G ws)
  (hK:∀ f a w,St w0 G n f a w→wp P (K f) w.heap Qp→R a w) :
  ∀ (l:List Nat) (acc:List Entry) (ms:List Made) (f:Fr) (a:Act) (w:World),AccOk P acc ms→St w0 G n f a w→wp P (swOps P Γ anys dr ops.toList loose l acc f K) w.heap Qp→wpR P dr ops loose R l ms a w:=by
 intro l
 induction l with
 | nil=>intro acc ms f a w ha hs hw; exact hK f a w hs hw
 | cons i rest ih=>
  intro acc ms f a w ha hs hw
  simp only [swOps] at hw
  simp only [wpR]
  cases hi:ops[i]? with
  | none=>
   have:ops.toList[i]? = none:=by simpa using hi
   simp only [this] at hw
   exact hw
  | some o=>
   have:ops.toList[i]? = some o:=by simpa using hi
   simp only [this] at hw
   have hdo:∀ d,o.dst=some d→d<n∧d∈ws:=fun d e=>hd i o d hi e
   have yes:∀ f,St w0 G n f a w→wp P (swOp P Γ anys dr o f fun f'=>bif isEff P o then checks (behind loose i acc) (swOps P Γ anys dr ops.toList loose rest acc f' K)
      else swOps P Γ anys dr ops.toList loose rest (bif isLoad P o then entryOf P i o f f'::acc else acc) f' K) w.heap Qp →
     (if isEff P o then stepR P dr o a w fun a' w'=>Rechecks P w' (behindM loose i ms)∧wpR P dr ops loose R rest ms a' w'
     else if isLoad P o then ∃ v,(execOp a.eval o).run P w = .ok (.value v) w∧wpR P dr ops loose R rest ((i,execOp a.eval o,v)::ms) (a.put o.dst v) w
     else stepR P dr o a w fun a' w'=>wpR P dr ops loose R rest ms a' w'):=by
    intro f hs hw
    cases he:isEff P o
    ·simp only [he,cond_false] at hw
     simp only [Bool.false_eq_true,if_false]
     cases hl:isLoad P o
     ·simp only [hl,cond_false] at hw
      simp only [Bool.false_eq_true,if_false]
      exact swOp_sound hΓ hw hs hdo hG fun v w' hs' hw'=>ih _ _ _ _ _ ha hs' hw'
     ·simp only [hl,cond_true] at hw
      simp only [if_true]
      obtain ⟨v,hr,hw⟩:=swOp_load hl hs.fr hw
      exact ⟨v,hr,ih (entryOf P i o f (f.put o.dst v)::acc) ((i,execOp a.eval o,v)::ms) _ _ _ ⟨entry_sound hs.fr i o v,ha⟩ (hs.put hG hdo (Env.refl w) v) hw⟩
    ·simp only [he,cond_true] at hw
     simp only [if_true]
     refine swOp_sound hΓ hw hs hdo hG fun v w' hs' hw'=>?_
     obtain ⟨h1,h2⟩:=checks_sound ha hw'
     exact ⟨h1,ih _ _ _ _ _ ha hs' h2⟩
   have no:∀ f,St w0 G n f a w→wp P (swOps P Γ anys dr ops.toList loose rest acc (Fr.put f o.dst undef) K) w.heap Qp→wpR P dr ops loose R rest ms (a.put o.dst undef) w:=
    fun f hs hw=>ih _ _ _ _ _ ha (hs.put hG hdo (Env.refl w) undef) hw
   cases hg:o.guard with
   | none=>
    simp only [hg] at hw
    have hwant:Region.wanted o (yielded ops a.tmps)=true:=by simp [Region.wanted,hg]
    simp only [hwant,if_true]
    exact yes f hs hw
   | some gw=>
    obtain ⟨j,want⟩:=gw
    simp only [hg] at hw
    cases hj:(ops.toList[j]?).bind (·.dst) with
    | none=>
     simp only [hj] at hw
     have hj':(ops[j]?).bind (·.dst)=none:=by simpa using hj
     have hwant:Region.wanted o (yielded ops a.tmps)=false:=by simp [Region.wanted,hg,yielded,hj']
     simp only [hwant,Bool.false_eq_true,if_false]
     exact no f hs hw
    | some d=>
     simp only [hj] at hw
     have hj':(ops[j]?).bind (·.dst)=some d:=by simpa using hj
     split at hw
     ·rename_i b hb
      have hslot:a.tmps[d]? = some (.bool b):=hs.fr _ _ hb
      have hwant:Region.wanted o (yielded ops a.tmps)=(b == want):=by simp [Region.wanted,hg,yielded,hj',hslot]
      have hs':=hs.same hslot
      cases b
      ·simp only [ifB,cond_false] at hw
       cases want
       ·simp only [cond_false] at hw
        simp only [hwant,beq_self_eq_true,if_true]
        exact yes _ hs' hw
       ·simp only [cond_true] at hw
        have:(false == true)=false:=rfl
        simp only [hwant,this,Bool.false_eq_true,if_false]
        exact no _ hs' hw
      ·simp only [ifB,cond_true] at hw
       cases want
       ·simp only [cond_false] at hw
        have:(true == false)=false:=rfl
        simp only [hwant,this,Bool.false_eq_true,if_false]
        exact no _ hs' hw
       ·simp only [cond_true] at hw
        simp only [hwant,beq_self_eq_true,if_true]
        exact yes _ hs' hw
     ·rename_i v hnb hb
      cases hun:isUndef v
      ·simp only [hun,cond_false] at hw; exact hw.elim
      simp only [hun,cond_true] at hw
      have hslot:a.tmps[d]? = some v:=hs.fr _ _ hb
      have hvu:∃ vs,v = .tuple vs:=by cases v <;> simp [isUndef] at hun <;> exact ⟨_,rfl⟩
      obtain ⟨vs,rfl⟩:=hvu
      have hwant:Region.wanted o (yielded ops a.tmps)=false:=by simp [Region.wanted,hg,yielded,hj',hslot]
      simp only [hwant,Bool.false_eq_true,if_false]
      exact no f hs hw
     ·exact hw.elim
theorem stepR_toWp {ro:Option Nat} {o:Oper} {a:Act} {w:World} {next next':Act→World→Prop} {Q:Exit→Act→World→Prop} (hn:∀ a w,next a w→next' a w) (h:stepR P dr o a w next):o.wpIn (Fen ro) 0 P a w next' Q:=by
 unfold stepR at h
 split at h
 ·obtain ⟨v,h1,h2⟩:=h; exact wpI_in hn (by unfold Oper.wpI; rw [h1 w]; exact h2)
 ·obtain ⟨v,h1,h2⟩:=h; exact wpI_in hn (by unfold Oper.wpI; rw [h1]; exact h2)
 ·exact wpI_in hn h
theorem wpR_wpOpsA {ro:Option Nat} {ops:Array Oper} {loose:List (Nat×Nat)} {Q:Exit→Act→World→Prop} {R:Act→World→Prop} {m:List Nat} (hR:∀ a w,R a w→wpOpsIn (Fen ro) 0 P ops Q m a w) :
  ∀ (l:List Nat) (acc:List Made) (a:Act) (w:World),wpR P dr ops loose R l acc a w→wpOpsIn (Fen ro) 0 P ops Q (l++m) a w:=by
 intro l
 induction l with
 | nil=>intro acc a w h; exact hR _ _ h
 | cons i rest ih=>
  intro acc a w h
  simp only [wpR] at h
  simp only [List.cons_append,wpOpsIn]
  cases hi:ops[i]? with
  | none=>simp only [hi] at h
  | some o=>
   simp only [hi] at h
   cases hw:Region.wanted o (yielded ops a.tmps)
   ·simp only [hw,Bool.false_eq_true,if_false] at h ⊢
    exact ⟨fun _ _=>trivial,ih _ _ _ h⟩
   ·simp only [hw,if_true] at h ⊢
    cases he:isEff P o
    ·simp only [he,Bool.false_eq_true,if_false] at h
     cases hl:isLoad P o
     ·simp only [hl,Bool.false_eq_true,if_false] at h
      exact stepR_toWp (fun a' w' h'=>ih _ _ _ h') h
     ·simp only [hl,if_true] at h
      obtain ⟨v,hr,h'⟩:=h
      exact wpI_in (next:=fun a' w'=>wpOpsIn (Fen ro) 0 P ops Q (rest++m) a' w') (fun _ _ h=>h) (by unfold Oper.wpI; rw [hr]; exact ih _ _ _ h')
    ·simp only [he,if_true] at h
     exact stepR_toWp (fun a' w' h'=>ih _ _ _ h'.2) h
theorem wpR_wpOps {ro:Option Nat} {ops:Array Oper} {loose:List (Nat×Nat)} {Q:Exit→Act→World→Prop} :
  ∀ (l:List Nat) (acc:List Made) (a:Act) (w:World),wpR P dr ops loose (Q .normal) l acc a w→wpOpsIn (Fen ro) 0 P ops Q l a w:=by
 intro l
 induction l with
 | nil=>intro acc a w h; exact h
 | cons i rest ih=>
  intro acc a w h
  simp only [wpR] at h
  simp only [wpOpsIn]
  cases hi:ops[i]? with
  | none=>simp only [hi] at h
  | some o=>
   simp only [hi] at h
   cases hw:Region.wanted o (yielded ops a.tmps)
   ·simp only [hw,Bool.false_eq_true,if_false] at h ⊢
    exact ⟨fun _ _=>trivial,ih _ _ _ h⟩
   ·simp only [hw,if_true] at h ⊢
    cases he:isEff P o
    ·simp only [he,Bool.false_eq_true,if_false] at h
     cases hl:isLoad P o
     ·simp only [hl,Bool.false_eq_true,if_false] at h
      exact stepR_toWp (fun a' w' h'=>ih _ _ _ h') h
     ·simp only [hl,if_true] at h
      obtain ⟨v,hr,h'⟩:=h
      exact wpI_in (next:=fun a' w'=>wpOpsIn (Fen ro) 0 P ops Q rest a' w') (fun _ _ h=>h) (by unfold Oper.wpI; rw [hr]; exact ih _ _ _ h')
    ·simp only [he,if_true] at h
     exact stepR_toWp (fun a' w' h'=>ih _ _ _ h'.2) h
end
end Go.Sw
