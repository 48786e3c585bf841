import Derived.Test.YtncolficnfcdcaaGreatSwS7
set_option linter.unusedSimpArgs false
set_option linter.unusedVariables false
namespace Go.Sw
def predsOf (o:Oper):List Nat:=(o.after.toList.filter (Region.binds .any)).map (·.on)
def addAll (xs l:List Nat):List Nat:=xs.foldl (fun l x=>bif mem x l then l else x::l) l
def ancStep (done:List (List Nat)) (ps:List Nat):List Nat:=ps.foldl (fun acc p=>addAll (done.getD p []) (addAll [p] acc)) []
def ancAll (ops:List Oper):List (List Nat):=ops.foldl (fun done o=>done++[ancStep done (predsOf o)]) []
def swapB (P:Program) (ops:Array Oper) (loose:List (Nat×Nat)) (x s:Nat):Bool:=
 match ops[x]?,ops[s]? with
 | some ox,some os=>ox.apart ops os && (match kindOf P ox.op,kindOf P os.op with
  | .eff, .pure=>true
  | .eff,_=>false
  | .load, .eff=>isLoose loose x s
  | _,_=>true)
 | _,_=>false
def effAt (P:Program) (ops:Array Oper) (i:Nat):Bool:=
 match ops[i]? with
 | some o=>isEff P o
 | none=>false
def pairsAll (R:Nat→Nat→Bool):List Nat→Bool
 | []=>true
 | x::r=>r.all (R x) && pairsAll R r
def isSel (o:Oper):Bool:=
 match o.op with
 | .select _ _=>true
 | _=>false
def headIs (s:Nat):List Nat→Bool
 | []=>false
 | x::_=>Nat.beq x s
def covB (anc:List (List Nat)):Nat→List (List Nat)→Bool
 | 0,es=>es.any (·.isEmpty)
 | k+1,es=>match es with
  | []=>false
  | []::_=>true
  | (x::e0)::r=>(x::e0).all fun s=>(x::e0).any (fun y=>mem y (anc.getD s [])) || covB anc k ((((x::e0)::r).filter (headIs s)).map List.tail)
def orderOk (P:Program) (ops:Array Oper) (ls:List (List Nat)) (loose:List (Nat×Nat)):Bool:=
 let n:=ops.size
 let anc:=ancAll ops.toList
 ops.toList.all (fun o=>!isSel o && (predsOf o).all (fun p=>Nat.blt p n)) &&
 (List.range n).all (fun s=>match ops[s]? with
  | some o=>!mem s (predsOf o) && (anc.getD s []).all fun x=>(predsOf o).any fun p=>Nat.beq p x || mem x (anc.getD p [])
  | none=>false) &&
 ls.all (fun L=>L.all (fun i=>Nat.blt i n) && (List.range n).all (fun i=>mem i L) &&
  pairsAll (fun x s=>!Nat.beq x s && (match ops[x]? with
   | some o=>!mem s (predsOf o)
   | none=>false) && (mem x (anc.getD s []) || swapB P ops loose x s || (effAt P ops x && effAt P ops s))) L) &&
 covB anc n (ls.map fun L=>L.filter (effAt P ops))
theorem pairsAll_iff {R:Nat→Nat→Bool} {l:List Nat}:pairsAll R l=true↔l.Pairwise fun x s=>R x s=true:=by
 induction l with
 | nil=>simp [pairsAll]
 | cons x r ih=>simp [pairsAll,List.pairwise_cons,ih]
theorem mem_true {n:Nat} {l:List Nat}:mem n l=true↔n∈l:=by
 induction l with
 | nil=>simp [mem]
 | cons k r ih=>
  simp only [mem,List.mem_cons]
  cases hb:Nat.beq k n
  ·have:k≠n:=fun e=>by rw [nbeq_iff.2 e] at hb; cases hb
   simp only [cond_false,ih]
   exact ⟨fun h=>.inr h,fun h=>h.resolve_left (fun e=>this e.symm)⟩
  ·simp only [cond_true,true_iff]
   exact .inl (nbeq_iff.1 hb).symm
section
variable {P:Program} {ops:Array Oper} {loose:List (Nat×Nat)} {R:Act→World→Prop}
theorem Oper.wp_exists {o:Oper} {a:Act} {w:World} {K:Act→World→Prop} (h:o.wpI P a w K fun _ _ _=>False):∃ a' w',K a' w':=by
 unfold Oper.wpI at h
 generalize (execOp a.eval o).run P w=r at *
 cases r with
 | ok n w'=>
  cases n with
  | value v=>exact ⟨_,_,h⟩
  | skip=>exact ⟨_,_,h⟩
  | enter f args=>
   obtain ⟨e,w'',fr,hq, -⟩:=h []
   cases e with
   | returned v=>exact ⟨_,_,hq⟩
   | panicked ch=>exact hq.elim
   | outgrown=>obtain ⟨_,_,hq⟩:=hq; exact hq.elim
  | round l f tmps assign body=>
   obtain ⟨e,w'',hq, -⟩:=h.2 default [] (room_wide _)
   cases e with
   | returned v=>exact ⟨_,_,hq⟩
   | panicked ch=>exact hq.elim
   | outgrown=>obtain ⟨_,_,hq⟩:=hq; exact hq.elim
  | _=>exact h.elim
 | halt x w'=>cases x <;> exact h.elim
theorem wpR_less:∀ {l:List Nat} {acc acc':List Made} {a:Act} {w:World},(∀ x,x∈acc'→x∈acc)→wpR P true ops loose R l acc a w→wpR P true ops loose R l acc' a w:=by
 intro l
 induction l with
 | nil=>intro acc acc' a w hs h; exact h
 | cons i rest ih=>
  intro acc acc' a w hs h
  simp only [wpR] at h ⊢
  cases hi:ops[i]? with
  | none=>simp only [hi] at h
  | some o=>
   simp only [hi] at h ⊢
   cases hw:Region.wanted o (yielded ops a.tmps)
   ·simp only [hw,Bool.false_eq_true,if_false] at h ⊢
    exact ih hs h
   ·simp only [hw,if_true] at h ⊢
    cases he:isEff P o
    ·simp only [he,Bool.false_eq_true,if_false] at h ⊢
     cases hl:isLoad P o
     ·simp only [hl,Bool.false_eq_true,if_false] at h ⊢
      exact stepR_mono (fun a w h=>ih hs h) h
     ·simp only [hl,if_true] at h ⊢
      obtain ⟨v,h1,h2⟩:=h
      refine ⟨v,h1,ih (fun x hx=>?_) h2⟩
      rcases List.mem_cons.1 hx with rfl | hx
      ·exact List.mem_cons_self ..
      ·exact List.mem_cons_of_mem _ (hs x hx)
    ·simp only [he,if_true] at h ⊢
     refine stepR_mono (fun a w h=>⟨fun x hx=>h.1 x ?_,ih hs h.2⟩) h
     simp only [behindM,List.mem_filter] at hx ⊢
     exact ⟨hs x hx.1,hx.2⟩
theorem wpR_cons_mono {x:Nat} {l l':List Nat} (hl:∀ acc a w,wpR P true ops loose R l acc a w→wpR P true ops loose R l' acc a w) {acc:List Made} {a:Act} {w:World}
  (h:wpR P true ops loose R (x::l) acc a w):wpR P true ops loose R (x::l') acc a w:=by
 simp only [wpR] at h ⊢
 cases hi:ops[x]? with
 | none=>simp only [hi] at h
 | some o=>
  simp only [hi] at h ⊢
  cases hw:Region.wanted o (yielded ops a.tmps)
  ·simp only [hw,Bool.false_eq_true,if_false] at h ⊢
   exact hl _ _ _ h
  ·simp only [hw,if_true] at h ⊢
   cases he:isEff P o
   ·simp only [he,Bool.false_eq_true,if_false] at h ⊢
    cases hld:isLoad P o
    ·simp only [hld,Bool.false_eq_true,if_false] at h ⊢
     exact stepR_mono (fun a w h=>hl _ _ _ h) h
    ·simp only [hld,if_true] at h ⊢
     obtain ⟨v,h1,h2⟩:=h
     exact ⟨v,h1,hl _ _ _ h2⟩
   ·simp only [he,if_true] at h ⊢
    exact stepR_mono (fun a w h=>⟨h.1,hl _ _ _ h.2⟩) h
theorem kind_cases (o:Oper):(kindOf P o.op = .pure∧isEff P o=false∧isLoad P o=false)∨(kindOf P o.op = .load∧isEff P o=false∧isLoad P o=true)∨(kindOf P o.op = .eff∧isEff P o=true∧isLoad P o=false):=by
 unfold isEff isLoad
 cases kindOf P o.op <;> simp
def Quiet (P:Program) (ops:Array Oper) (o:Oper) (a:Act) (v:Value):Prop:=
 (Region.wanted o (yielded ops a.tmps)=true∧∀ w,(execOp a.eval o).run P w = .ok (.value v) w)∨(Region.wanted o (yielded ops a.tmps)=false∧v=undef)
theorem Quiet.fn {o:Oper} {a:Act} {v v':Value} (h:Quiet P ops o a v) (h':Quiet P ops o a v'):v=v':=by
 rcases h with ⟨h1,h2⟩ | ⟨h1,rfl⟩ <;> rcases h' with ⟨h1',h2'⟩ | ⟨h1',rfl⟩
 ·have:=(h2 default).symm.trans (h2' default)
  injection this with this
  injection this
 ·rw [h1] at h1'; cases h1'
 ·rw [h1] at h1'; cases h1'
 ·rfl
theorem wpR_quiet {x:Nat} {l:List Nat} {o:Oper} (ho:ops[x]? = some o) (hk:kindOf P o.op = .pure) {acc:List Made} {a:Act} {w:World} :
  wpR P true ops loose R (x::l) acc a w↔∃ v,Quiet P ops o a v∧wpR P true ops loose R l acc (a.put o.dst v) w:=by
 have he:isEff P o=false:=by simp [isEff,hk]
 have hl:isLoad P o=false:=by simp [isLoad,hk]
 simp only [wpR,ho,he,hl,Bool.false_eq_true,if_false]
 cases hw:Region.wanted o (yielded ops a.tmps)
 ·simp only [Bool.false_eq_true,if_false]
  constructor
  ·intro h; exact ⟨undef, .inr ⟨hw,rfl⟩,h⟩
  ·rintro ⟨v,hq,h⟩
   rcases hq with ⟨h1, -⟩ | ⟨-, rfl⟩
   ·rw [hw] at h1; cases h1
   ·exact h
 ·simp only [if_true,stepR,hk]
  constructor
  ·rintro ⟨v,h1,h2⟩; exact ⟨v, .inl ⟨hw,h1⟩,h2⟩
  ·rintro ⟨v,hq,h⟩
   rcases hq with ⟨-, h1⟩ | ⟨h1, -⟩
   ·exact ⟨v,h1,h⟩
   ·rw [hw] at h1; cases h1
theorem wpR_pass {x:Nat} {l:List Nat} {o:Oper} (ho:ops[x]? = some o) {acc:List Made} {a:Act} {w:World} (hw:Region.wanted o (yielded ops a.tmps)=false) :
  wpR P true ops loose R (x::l) acc a w↔wpR P true ops loose R l acc (a.put o.dst undef) w:=by
 simp only [wpR,ho,hw,Bool.false_eq_true,if_false]
theorem wpR_load {x:Nat} {l:List Nat} {o:Oper} (ho:ops[x]? = some o) (hk:kindOf P o.op = .load) {acc:List Made} {a:Act} {w:World} (hw:Region.wanted o (yielded ops a.tmps)=true) :
  wpR P true ops loose R (x::l) acc a w↔∃ v,(execOp a.eval o).run P w = .ok (.value v) w∧wpR P true ops loose R l ((x,execOp a.eval o,v)::acc) (a.put o.dst v) w:=by
 have he:isEff P o=false:=by simp [isEff,hk]
 have hl:isLoad P o=true:=by simp [isLoad,hk]
 simp only [wpR,ho,he,hl,hw,Bool.false_eq_true,if_false,if_true]
theorem wpR_eff {x:Nat} {l:List Nat} {o:Oper} (ho:ops[x]? = some o) (hk:kindOf P o.op = .eff) {acc:List Made} {a:Act} {w:World} (hw:Region.wanted o (yielded ops a.tmps)=true) :
  wpR P true ops loose R (x::l) acc a w↔o.wpI P a w (fun a' w'=>Rechecks P w' (behindM loose x acc)∧wpR P true ops loose R l acc a' w') fun _ _ _=>False:=by
 have he:isEff P o=true:=by simp [isEff,hk]
 simp only [wpR,ho,he,hw,if_true,stepR,hk]
theorem wp_puts {o:Oper} {a:Act} {w:World} {K:Act→World→Prop} (h:o.wpI P a w K fun _ _ _=>False) :
  o.wpI P a w (fun a' w'=>K a' w'∧(∃ v d,a'={ a with defers:=d }.put o.dst v)) fun _ _ _=>False:=by
 unfold Oper.wpI at *
 generalize (execOp a.eval o).run P w=r at *
 cases r with
 | ok n w'=>
  cases n with
  | value v=>exact ⟨h,_,a.defers,rfl⟩
  | skip=>exact ⟨h,_,a.defers,rfl⟩
  | enter f args=>
   refine Calls.mono h fun e w'' he=>?_
   cases e with
   | returned v=>exact ⟨he,v,a.defers,rfl⟩
   | panicked ch=>exact he
   | outgrown=>exact he
  | round l f tmps assign body=>
   refine RoundIn.mono h fun e w'' he=>?_
   cases e with
   | returned v=>exact ⟨he,v,a.defers,rfl⟩
   | panicked ch=>exact he
   | outgrown=>exact he
  | _=>exact h.elim
 | halt x w'=>cases x <;> exact h.elim
theorem wp_put {o:Oper} (hsel:isSel o=false) {a:Act} {w:World} {K:Act→World→Prop} {dx:Option Tmp} {v:Value} (h1:∀ d,dx=some d→d∉o.looksAt ops) (h2:∀ d,dx=some d→o.dst≠some d) :
  o.wpI P (a.put dx v) w K (fun _ _ _=>False)↔o.wpI P a w (fun a' w'=>K (a'.put dx v) w') fun _ _ _=>False:=by
 unfold Oper.wpI
 have hs:∀ cs b,o.op ≠ .select cs b:=by
  intro cs b e
  simp [isSel,e] at hsel
 rw [execOp_put (ops:=ops) o hs a dx v h1]
 generalize (execOp a.eval o).run P w=r
 have hc:∀ (b:Act) u,(b.put dx v).put o.dst u=(b.put o.dst u).put dx v:=fun b u=>Act.put_comm b v u h2
 cases r with
 | ok n w'=>cases n <;> simp only [uponI,hc]
 | halt x w'=>cases x <;> simp only [uponI]
theorem looks_same {o:Oper} (hsel:isSel o=false) {a:Act} {x:Option Tmp} {u:Value} (d:List Deferred) (h:∀ k,x=some k→k∉o.looksAt ops) :
  execOp (({ a with defers:=d }:Act).put x u).eval o=execOp a.eval o∧Region.wanted o (yielded ops (({ a with defers:=d }:Act).put x u).tmps)=Region.wanted o (yielded ops a.tmps):=by
 have hs:∀ cs b,o.op ≠ .select cs b:=by
  intro cs b e
  simp [isSel,e] at hsel
 rw [execOp_put (ops:=ops) o hs _ x u h,wanted_put o _ x u h]
 exact ⟨rfl,rfl⟩
theorem Quiet.same {o:Oper} (hsel:isSel o=false) {a:Act} {x:Option Tmp} {u v:Value} (d:List Deferred) (h:∀ k,x=some k→k∉o.looksAt ops) :
  Quiet P ops o (({ a with defers:=d }:Act).put x u) v↔Quiet P ops o a v:=by
 obtain ⟨h1,h2⟩:=looks_same (ops:=ops) (u:=u) (a:=a) hsel d h
 unfold Quiet
 rw [h1,h2]
theorem wpR_late {s:Nat} {os:Oper} (ho:ops[s]? = some os) (hsel:isSel os=false) {a:Act} {w:World} {dx:Option Tmp} {v:Value} (h1:∀ d,dx=some d→d∉os.looksAt ops) (h2:∀ d,dx=some d→os.dst≠some d)
  {l l':List Nat} {acc:List Made} (hl:∀ acc' u d w',wpR P true ops loose R l acc' ((({ a with defers:=d }:Act).put os.dst u).put dx v) w'→wpR P true ops loose R l' acc' (({ a with defers:=d }:Act).put os.dst u) w')
  (h:wpR P true ops loose R (s::l) acc (a.put dx v) w):wpR P true ops loose R (s::l') acc a w:=by
 have hx:execOp (a.put dx v).eval os=execOp a.eval os:=(looks_same (ops:=ops) (u:=v) (a:=a) hsel a.defers h1).1
 have hw:Region.wanted os (yielded ops (a.put dx v).tmps)=Region.wanted os (yielded ops a.tmps):=(looks_same (ops:=ops) (u:=v) (a:=a) hsel a.defers h1).2
 have hc:∀ (b:Act) u,(b.put dx v).put os.dst u=(b.put os.dst u).put dx v:=fun b u=>Act.put_comm b v u h2
 cases hwant:Region.wanted os (yielded ops a.tmps)
 ·rw [hwant] at hw
  rw [wpR_pass ho hw,hc] at h
  rw [wpR_pass ho hwant]
  exact hl _ undef a.defers _ h
 ·rw [hwant] at hw
  rcases kind_cases os with ⟨hk, -, -⟩ | ⟨hk, -, -⟩ | ⟨hk, -, -⟩
  ·rw [wpR_quiet ho hk] at h ⊢
   obtain ⟨u,hq,h⟩:=h
   have hq':Quiet P ops os a u:=(Quiet.same (a:=a) hsel a.defers h1).1 hq
   rw [hc] at h
   exact ⟨u,hq',hl _ u a.defers _ h⟩
  ·rw [wpR_load ho hk hw] at h
   rw [wpR_load ho hk hwant]
   obtain ⟨u,hr,h⟩:=h
   rw [hx] at hr h
   rw [hc] at h
   exact ⟨u,hr,hl _ u a.defers _ h⟩
  ·rw [wpR_eff ho hk hw] at h
   rw [wpR_eff ho hk hwant]
   refine Oper.wpI_mono (fun a' w' h'=>?_) (fun _ _ _ h=>h) (wp_puts ((wp_put hsel h1 h2).1 h))
   obtain ⟨⟨h3,h4⟩,u,d,rfl⟩:=h'
   exact ⟨h3,hl _ u d _ h4⟩
theorem wpR_swap {x s:Nat} {ox os:Oper} (hx:ops[x]? = some ox) (hs:ops[s]? = some os) (hselx:isSel ox=false) (hsels:isSel os=false) (hsw:swapB P ops loose x s=true)
  {l:List Nat} {acc:List Made} {a:Act} {w:World} (h:wpR P true ops loose R (x::s::l) acc a w):wpR P true ops loose R (s::x::l) acc a w:=by
 simp only [swapB,hx,hs,Bool.and_eq_true] at hsw
 obtain ⟨hap,hkinds⟩:=hsw
 obtain ⟨a1,a2,a3⟩:=Oper.apart_spec hap
 have a2':∀ d,os.dst=some d→ox.dst≠some d:=fun d e e'=>a2 d e' e
 have quietx:∀ v,Quiet P ops ox a v→wpR P true ops loose R (s::l) acc (a.put ox.dst v) w→(kindOf P ox.op = .pure∨Region.wanted ox (yielded ops a.tmps)=false)→wpR P true ops loose R (s::x::l) acc a w:=by
  intro v hq h hk
  refine wpR_late hs hsels a1 a2 (fun acc' u d w' h'=>?_) h
  have hq':=(Quiet.same (P:=P) (ops:=ops) (u:=u) hselx d a3).2 hq
  rcases hk with hk | hk
  ·exact (wpR_quiet hx hk).2 ⟨v,hq',h'⟩
  ·have hk':Region.wanted ox (yielded ops (({ a with defers:=d }:Act).put os.dst u).tmps)=false:=by rw [(looks_same hselx d a3).2]; exact hk
   rcases hq with ⟨e, -⟩ | ⟨-, rfl⟩
   ·rw [hk] at e; cases e
   ·exact (wpR_pass hx hk').2 h'
 cases hwx:Region.wanted ox (yielded ops a.tmps)
 ·exact quietx undef (.inr ⟨hwx,rfl⟩) ((wpR_pass hx hwx).1 h) (.inr hwx)
 ·rcases kind_cases ox with ⟨hk, -, -⟩ | ⟨hk, -, -⟩ | ⟨hk, -, -⟩
  ·obtain ⟨v,hq,h⟩:=(wpR_quiet hx hk).1 h
   exact quietx v hq h (.inl hk)
  ·obtain ⟨v,hr,h⟩:=(wpR_load hx hk hwx).1 h
   have hxs:∀ u d,execOp (({ a with defers:=d }:Act).put os.dst u).eval ox=execOp a.eval ox:=fun u d=>(looks_same (ops:=ops) hselx d a3).1
   have hws:∀ u d,Region.wanted ox (yielded ops (({ a with defers:=d }:Act).put os.dst u).tmps)=true:=fun u d=>by rw [(looks_same (ops:=ops) hselx d a3).2]; exact hwx
   have hes:execOp (a.put ox.dst v).eval os=execOp a.eval os:=(looks_same (ops:=ops) (u:=v) (a:=a) hsels a.defers a1).1
   have hwe:Region.wanted os (yielded ops (a.put ox.dst v).tmps)=Region.wanted os (yielded ops a.tmps):=(looks_same (ops:=ops) (u:=v) (a:=a) hsels a.defers a1).2
   have hc:∀ (b:Act) u,(b.put ox.dst v).put os.dst u=(b.put os.dst u).put ox.dst v:=fun b u=>Act.put_comm b v u a2
   have tail:∀ {acc0 acc1:List Made} {u:Value} {d:List Deferred} {w':World},(execOp a.eval ox).run P w' = .ok (.value v) w'→(∀ y,y∈(x,execOp a.eval ox,v)::acc1→y∈acc0) →
     wpR P true ops loose R l acc0 ((({ a with defers:=d }:Act).put os.dst u).put ox.dst v) w'→wpR P true ops loose R (x::l) acc1 (({ a with defers:=d }:Act).put os.dst u) w':=by
    intro acc0 acc1 u d w' hr hsub h'
    rw [wpR_load hx hk (hws u d),hxs]
    exact ⟨v,hr,wpR_less hsub h'⟩
   cases hwant:Region.wanted os (yielded ops a.tmps)
   ·rw [hwant] at hwe
    rw [wpR_pass hs hwe,hc] at h
    rw [wpR_pass hs hwant]
    exact tail (d:=a.defers) hr (fun y hy=>hy) h
   ·rw [hwant] at hwe
    rcases kind_cases os with ⟨hks, -, -⟩ | ⟨hks, -, -⟩ | ⟨hks, -, -⟩
    ·rw [wpR_quiet hs hks] at h ⊢
     obtain ⟨u,hq,h⟩:=h
     have hq':Quiet P ops os a u:=(Quiet.same (a:=a) hsels a.defers a1).1 hq
     rw [hc] at h
     exact ⟨u,hq',tail (d:=a.defers) hr (fun y hy=>hy) h⟩
    ·rw [wpR_load hs hks hwe] at h
     rw [wpR_load hs hks hwant]
     obtain ⟨u,hru,h⟩:=h
     rw [hes] at hru h
     rw [hc] at h
     refine ⟨u,hru,tail (d:=a.defers) hr (fun y hy=>?_) h⟩
     simp only [List.mem_cons] at hy ⊢
     rcases hy with h | h | h
     ·exact .inr (.inl h)
     ·exact .inl h
     ·exact .inr (.inr h)
    ·rw [wpR_eff hs hks hwe] at h
     rw [wpR_eff hs hks hwant]
     refine Oper.wpI_mono (fun a' w' h'=>?_) (fun _ _ _ h=>h) (wp_puts ((wp_put hsels a1 a2).1 h))
     obtain ⟨⟨h3,h4⟩,u,d,rfl⟩:=h'
     have hl:isLoose loose x s=true:=by simpa [hk,hks] using hkinds
     refine ⟨fun y hy=>h3 y ?_,tail (h3 (x,execOp a.eval ox,v) ?_) (fun y hy=>hy) h4⟩
     ·simp only [behindM,List.mem_filter,List.mem_cons] at hy ⊢
      exact ⟨.inr hy.1,hy.2⟩
     ·simp [behindM,hl]
  ·have hks:kindOf P os.op = .pure:=by
    rcases kind_cases os with ⟨hks, -, -⟩ | ⟨hks, -, -⟩ | ⟨hks, -, -⟩
    ·exact hks
    ·simp [hk,hks] at hkinds
    ·simp [hk,hks] at hkinds
   have h:=(wpR_eff hx hk hwx).1 h
   have h:=wp_puts h
   obtain ⟨a',w',⟨-, h'⟩,u0,d0,rfl⟩:=Oper.wp_exists h
   obtain ⟨u,hq, -⟩:=(wpR_quiet hs hks).1 h'
   have hq:Quiet P ops os a u:=(Quiet.same hsels d0 a1).1 hq
   refine (wpR_quiet hs hks).2 ⟨u,hq,?_⟩
   have hwx':Region.wanted ox (yielded ops (a.put os.dst u).tmps)=true:=by rw [(looks_same (ops:=ops) (a:=a) hselx a.defers a3).2]; exact hwx
   refine (wpR_eff hx hk hwx').2 ((wp_put hselx a3 a2').2 (Oper.wpI_mono (fun a' w' h'=>?_) (fun _ _ _ h=>h) h))
   obtain ⟨⟨h3,h4⟩,u1,d1,rfl⟩:=h'
   obtain ⟨u2,hq2,h4⟩:=(wpR_quiet hs hks).1 h4
   have hq2:Quiet P ops os a u2:=(Quiet.same hsels d1 a1).1 hq2
   obtain rfl:=hq2.fn hq
   exact ⟨h3,h4⟩
theorem wpR_bubble (hall:∀ (i:Nat) o,ops[i]? = some o→isSel o=false) {s:Nat} {os:Oper} (hs:ops[s]? = some os) :
  ∀ {A B:List Nat},(∀ x,x∈A→swapB P ops loose x s=true)→∀ {acc:List Made} {a:Act} {w:World},wpR P true ops loose R (A++s::B) acc a w→wpR P true ops loose R (s::(A++B)) acc a w:=by
 intro A
 induction A with
 | nil=>intro B hA acc a w h; exact h
 | cons x A ih=>
  intro B hA acc a w h
  have h1:wpR P true ops loose R (x::s::(A++B)) acc a w:=wpR_cons_mono (fun acc a w h=>ih (fun y hy=>hA y (List.mem_cons_of_mem _ hy)) h) h
  cases hx:ops[x]? with
  | none=>simp only [wpR,hx] at h1
  | some ox=>exact wpR_swap hx hs (hall x ox hx) (hall s os hs) (hA x (List.mem_cons_self ..)) h1
theorem wpR_order {ro:Option Nat} (hall:∀ (i:Nat) o,ops[i]? = some o→isSel o=false) {Q:Exit→Act→World→Prop} :
  ∀ {σ L:List Nat},(∀ i,i∈L→∃ o,ops[i]? = some o)→σ.Perm L→σ.Nodup→(∀ x s,[x,s].Sublist L→[s,x].Sublist σ→swapB P ops loose x s=true) →
   ∀ {a:Act} {w:World},wpR P true ops loose (Q .normal) L [] a w→wpOpsIn (Fen ro) 0 P ops Q σ a w:=by
 intro σ
 induction σ with
 | nil=>
  intro L _ hp _ _ a w h
  obtain rfl:=List.Perm.eq_nil hp.symm
  exact h
 | cons s σ ih=>
  intro L hex hp hnd hsw a w h
  have hsL:s∈L:=hp.subset (List.mem_cons_self ..)
  obtain ⟨A,B,rfl⟩:=List.append_of_mem hsL
  have hp':σ.Perm (A++B):=(List.perm_cons s).1 (hp.trans List.perm_middle)
  have hA:∀ x,x∈A→swapB P ops loose x s=true:=by
   intro x hx
   refine hsw x s ?_ ?_
   ·have h1:[x].Sublist A:=List.singleton_sublist.2 hx
    have h2:[s].Sublist (s::B):=List.singleton_sublist.2 (List.mem_cons_self ..)
    exact h1.append h2
   ·have:x∈σ:=hp'.symm.subset (List.mem_append_left _ hx)
    exact List.Sublist.cons_cons s (List.singleton_sublist.2 this)
  cases hos:ops[s]? with
  | none=>
   obtain ⟨o,ho⟩:=hex s hsL
   rw [ho] at hos
   cases hos
  | some os=>
   have hb:=wpR_bubble hall hos hA h
   have hnd':σ.Nodup:=(List.nodup_cons.1 hnd).2
   have hrest:∀ {a:Act} {w:World},wpR P true ops loose (Q .normal) (A++B) [] a w→wpOpsIn (Fen ro) 0 P ops Q σ a w:=by
    intro a w h
    refine ih (fun i hi=>hex i (by
     rcases List.mem_append.1 hi with h | h
     ·exact List.mem_append_left _ h
     ·exact List.mem_append_right _ (List.mem_cons_of_mem _ h))) hp' hnd' (fun x t hxt htx=>hsw x t ?_ ?_) h
    ·refine hxt.trans ?_
     exact List.Sublist.append (List.Sublist.refl A) (List.sublist_cons_self s B)
    ·exact htx.trans (List.sublist_cons_self s σ)
   simp only [wpOpsIn,hos]
   simp only [wpR,hos] at hb
   cases hw:Region.wanted os (yielded ops a.tmps)
   ·simp only [hw,Bool.false_eq_true,if_false] at hb ⊢
    exact ⟨fun _ _=>trivial,hrest hb⟩
   ·simp only [hw,if_true] at hb ⊢
    cases he:isEff P os
    ·simp only [he,Bool.false_eq_true,if_false] at hb
     cases hld:isLoad P os
     ·simp only [hld,Bool.false_eq_true,if_false] at hb
      exact stepR_toWp (fun a' w' h'=>hrest h') hb
     ·simp only [hld,if_true] at hb
      obtain ⟨v,hr,hb⟩:=hb
      exact wpI_in (next:=fun a' w'=>wpOpsIn (Fen ro) 0 P ops Q σ a' w') (fun _ _ h=>h) (by unfold Oper.wpI; rw [hr]; exact hrest (wpR_less (fun x hx=>(List.not_mem_nil hx).elim) hb))
    ·simp only [he,if_true] at hb
     exact stepR_toWp (fun a' w' h'=>hrest h'.2) hb
theorem two_idx {σ:List Nat} (hnd:σ.Nodup) {x s:Nat} (h:[x,s].Sublist σ):σ.idxOf x<σ.idxOf s:=by
 induction σ with
 | nil=>cases h
 | cons k σ ih=>
  obtain ⟨hk,hnd'⟩:=List.nodup_cons.1 hnd
  cases h with
  | cons _ h=>
   have hx:x∈σ:=h.subset (List.mem_cons_self ..)
   have hs:s∈σ:=h.subset (List.mem_cons_of_mem _ (List.mem_cons_self ..))
   have e1:k≠x:=fun e=>hk (e ▸ hx)
   have e2:k≠s:=fun e=>hk (e ▸ hs)
   have b1:(k == x)=false:=beq_eq_false_iff_ne.2 e1
   have b2:(k == s)=false:=beq_eq_false_iff_ne.2 e2
   rw [List.idxOf_cons,List.idxOf_cons,b1,b2]
   have:=ih hnd' h
   simp only [cond_false]
   omega
  | cons_cons _ h=>
   have hs:s∈σ:=h.subset (List.mem_cons_self ..)
   have e2:x≠s:=fun e=>hk (e ▸ hs)
   have b2:(x == s)=false:=beq_eq_false_iff_ne.2 e2
   rw [List.idxOf_cons_self,List.idxOf_cons,b2]
   simp only [cond_false]
   omega
theorem two_trans {σ:List Nat} (hnd:σ.Nodup) {x p s:Nat} (h:[x,p].Sublist σ) (h':[p,s].Sublist σ):[x,s].Sublist σ:=by
 induction σ with
 | nil=>cases h
 | cons k σ ih=>
  obtain ⟨hk,hnd'⟩:=List.nodup_cons.1 hnd
  cases h with
  | cons _ h=>
   cases h' with
   | cons _ h'=>exact (ih hnd' h h').trans (List.sublist_cons_self ..)
   | cons_cons _ h'=>exact absurd (h.subset (List.mem_cons_of_mem _ (List.mem_cons_self ..))) hk
  | cons_cons _ h=>
   cases h' with
   | cons _ h'=>exact List.Sublist.cons_cons x (List.singleton_sublist.2 (h'.subset (List.mem_cons_of_mem _ (List.mem_cons_self ..))))
   | cons_cons _ h'=>exact absurd (h.subset (List.mem_cons_self ..)) hk
theorem covB_sound {anc:List (List Nat)}:∀ {k:Nat} {es:List (List Nat)} {τ:List Nat},covB anc k es=true→(∀ e,e∈es→e.Perm τ)→τ.Nodup →
  (∀ s x,s∈τ→x∈τ→mem x (anc.getD s [])=true→[x,s].Sublist τ)→τ∈es:=by
 intro k
 induction k with
 | zero=>
  intro es τ h hp hnd hb
  simp only [covB,List.any_eq_true] at h
  obtain ⟨e,he,hemp⟩:=h
  obtain rfl:=List.isEmpty_iff.1 hemp
  obtain rfl:=List.Perm.eq_nil (hp _ he).symm
  exact he
 | succ k ih=>
  intro es τ h hp hnd hb
  match es,h,hp with
  | []::r,h,hp=>
   obtain rfl:=List.Perm.eq_nil (hp [] (List.mem_cons_self ..)).symm
   exact List.mem_cons_self ..
  | (y::e0)::r,h,hp=>
   have hp0:=hp (y::e0) (List.mem_cons_self ..)
   match τ,hp0,hnd,hb,hp with
   | [],hp0,_,_,_=>exact absurd hp0.eq_nil (by simp)
   | s::τ,hp0,hnd,hb,hp=>
    simp only [covB,List.all_eq_true,Bool.or_eq_true,List.any_eq_true] at h
    have hs:s∈y::e0:=hp0.symm.subset (List.mem_cons_self ..)
    obtain ⟨hk,hnd'⟩:=List.nodup_cons.1 hnd
    rcases h s hs with ⟨z,hz,hza⟩ | h
    ·exfalso
     have hzτ:z∈s::τ:=hp0.subset hz
     have:=two_idx hnd (hb s z (List.mem_cons_self ..) hzτ hza)
     rw [List.idxOf_cons_self] at this
     omega
    ·have:=ih (τ:=τ) h (fun e he=>by
      obtain ⟨e',he',rfl⟩:=List.mem_map.1 he
      obtain ⟨h1,h2⟩:=List.mem_filter.1 he'
      match e',h2 with
      | u::e'',h2=>
       simp only [headIs] at h2
       obtain rfl:=nbeq_iff.1 h2
       exact (List.perm_cons u).1 (hp _ h1)) hnd' (fun t x ht hx hm=>by
      have h1:=hb t x (List.mem_cons_of_mem _ ht) (List.mem_cons_of_mem _ hx) hm
      cases h1 with
      | cons _ h1=>exact h1
      | cons_cons _ h1=>exact absurd hx hk)
     obtain ⟨e',he',het⟩:=List.mem_map.1 this
     obtain ⟨h1,h2⟩:=List.mem_filter.1 he'
     match e',h2,het with
     | u::e'',h2,het=>
      simp only [headIs] at h2
      obtain rfl:=nbeq_iff.1 h2
      simp only [List.tail_cons] at het
      subst het
      exact h1
def predAt (ops:Array Oper) (s:Nat):List Nat:=
 match ops[s]? with
 | some o=>predsOf o
 | none=>[]
theorem ready_iff {listed:Array Bool} {i:Nat}:i∈Region.ready .any ops listed↔i<ops.size∧listed.getD i true=false∧∀ p,p∈predAt ops i→listed.getD p false=true:=by
 unfold Region.ready predAt
 simp only [List.mem_filter,List.mem_range,Bool.and_eq_true,Bool.not_eq_true']
 constructor
 ·rintro ⟨h1,h2,h3⟩
  refine ⟨h1,h2,fun p hp=>?_⟩
  cases ho:ops[i]? with
  | none=>simp [ho] at h3
  | some o=>
   simp only [ho] at hp
   simp only [ho,Option.map_some,Option.getD_some,Array.all_eq_true_iff_forall_mem,Bool.or_eq_true,Bool.not_eq_true'] at h3
   simp only [predsOf,List.mem_map,List.mem_filter] at hp
   obtain ⟨e,⟨he,hb⟩,rfl⟩:=hp
   have:=h3 e (by simpa using he)
   rcases this with h | h
   ·rw [hb] at h; cases h
   ·exact h
 ·rintro ⟨h1,h2,h3⟩
  refine ⟨h1,h2,?_⟩
  have ho:ops[i]? = some ops[i]:=Array.getElem?_eq_getElem h1
  simp only [ho] at h3
  simp only [ho,Option.map_some,Option.getD_some,Array.all_eq_true_iff_forall_mem,Bool.or_eq_true,Bool.not_eq_true']
  intro e he
  cases hb:Region.binds .any e
  ·exact .inl rfl
  ·refine .inr (h3 _ ?_)
   simp only [predsOf,List.mem_map,List.mem_filter]
   exact ⟨e,⟨by simpa using he,hb⟩,rfl⟩
theorem set_getD {listed:Array Bool} {i j:Nat} {d:Bool} (hi:i<listed.size):(listed.setIfInBounds i true).getD j d=if i=j then true else listed.getD j d:=by
 by_cases e:i=j
 ·subst e; simp [hi]
 ·simp [Array.getElem?_setIfInBounds_ne e,e]
theorem lin_spec {L:List Nat} (hL:∀ i,i<ops.size→i∈L) (hLn:∀ i,i∈L→i<ops.size) (hpre:∀ (i p:Nat),p∈predAt ops i→p<ops.size)
  (hpw:L.Pairwise fun x s=>x≠s∧s∉predAt ops x) (hself:∀ i,i∈L→i∉predAt ops i) :
  ∀ (fuel t:Nat) (listed:Array Bool),listed.size=ops.size→((List.range ops.size).filter fun i=>!listed.getD i true).length≤fuel →
   (Region.linearise.go .any ops fuel t listed []).Nodup∧(∀ i,i∈Region.linearise.go .any ops fuel t listed []↔i<ops.size∧listed.getD i true=false) ∧
   (∀ s p,s∈Region.linearise.go .any ops fuel t listed []→p∈predAt ops s→listed.getD p false=true∨[p,s].Sublist (Region.linearise.go .any ops fuel t listed [])):=by
 intro fuel
 induction fuel with
 | zero=>
  intro t listed hsz hlen
  have hnil:=List.length_eq_zero_iff.1 (Nat.le_zero.1 hlen)
  simp only [Region.linearise.go,List.reverse_nil]
  refine ⟨List.nodup_nil,fun i=>⟨fun h=>(List.not_mem_nil h).elim,fun ⟨h1,h2⟩=>?_⟩,fun s p h=>(List.not_mem_nil h).elim⟩
  have:i∈(List.range ops.size).filter fun i=>!listed.getD i true:=List.mem_filter.2 ⟨List.mem_range.2 h1,by rw [h2]; rfl⟩
  rw [hnil] at this
  cases this
 | succ fuel ih=>
  intro t listed hsz hlen
  simp only [Region.linearise.go]
  change (match (Region.ready .any ops listed)[t % (Region.ready .any ops listed).length]? with
   | some i=>Region.linearise.go .any ops fuel (t / (Region.ready .any ops listed).length) (listed.setIfInBounds i true) [i]
   | none=>[].reverse).Nodup∧(∀ i,i∈(match (Region.ready .any ops listed)[t % (Region.ready .any ops listed).length]? with
   | some i=>Region.linearise.go .any ops fuel (t / (Region.ready .any ops listed).length) (listed.setIfInBounds i true) [i]
   | none=>[].reverse)↔_)∧(∀ s p,s∈(match (Region.ready .any ops listed)[t % (Region.ready .any ops listed).length]? with
   | some i=>Region.linearise.go .any ops fuel (t / (Region.ready .any ops listed).length) (listed.setIfInBounds i true) [i]
   | none=>[].reverse)→_→_∨[p,s].Sublist (match (Region.ready .any ops listed)[t % (Region.ready .any ops listed).length]? with
   | some i=>Region.linearise.go .any ops fuel (t / (Region.ready .any ops listed).length) (listed.setIfInBounds i true) [i]
   | none=>[].reverse))
  cases hi:(Region.ready .any ops listed)[t % (Region.ready .any ops listed).length]? with
  | none=>
   simp only [List.reverse_nil]
   have hr:Region.ready .any ops listed=[]:=by
    cases hr:Region.ready .any ops listed with
    | nil=>rfl
    | cons x xs=>
     rw [hr] at hi
     have hlt:t % (x::xs).length<(x::xs).length:=Nat.mod_lt _ (by simp)
     rw [List.getElem?_eq_getElem hlt] at hi
     cases hi
   refine ⟨List.nodup_nil,fun i=>⟨fun h=>(List.not_mem_nil h).elim,fun ⟨h1,h2⟩=>?_⟩,fun s p h=>(List.not_mem_nil h).elim⟩
   exfalso
   have hne:L.filter (fun i=>!listed.getD i true)≠[]:=fun e=>by
    have:i∈L.filter (fun i=>!listed.getD i true):=List.mem_filter.2 ⟨hL i h1,by rw [h2]; rfl⟩
    rw [e] at this
    cases this
   obtain ⟨x,M,hM⟩:=List.exists_cons_of_ne_nil hne
   have hxm:x∈L.filter (fun i=>!listed.getD i true):=by rw [hM]; exact List.mem_cons_self ..
   obtain ⟨hxL,hxu⟩:=List.mem_filter.1 hxm
   have hpw':=hpw.filter (fun i=>!listed.getD i true)
   rw [hM] at hpw'
   have hx:x∈Region.ready .any ops listed:=by
    refine ready_iff.2 ⟨hLn x hxL,by simpa using hxu,fun p hp=>?_⟩
    have hpn:=hpre x p hp
    cases hl:listed.getD p false
    ·exfalso
     have hlt:listed.getD p true=false:=by
      have:p<listed.size:=by omega
      simp [this] at hl ⊢
      exact hl
     have hpm:p∈L.filter (fun i=>!listed.getD i true):=List.mem_filter.2 ⟨hL p hpn,by rw [hlt]; rfl⟩
     rw [hM] at hpm
     rcases List.mem_cons.1 hpm with rfl | hpm
     ·exact hself p hxL hp
     ·exact ((List.pairwise_cons.1 hpw').1 p hpm).2 hp
    ·rfl
   rw [hr] at hx
   cases hx
  | some i=>
   simp only []
   have hmem:=List.mem_of_getElem? hi
   obtain ⟨h1,h2,h3⟩:=ready_iff.1 hmem
   have hisz:i<listed.size:=by omega
   rw [linearise_go_acc,List.reverse_singleton,List.singleton_append]
   have hlen':((List.range ops.size).filter fun j=>!(listed.setIfInBounds i true).getD j true).length≤fuel:=by
    have hsub:((List.range ops.size).filter fun j=>!(listed.setIfInBounds i true).getD j true)=((List.range ops.size).filter fun j=>!listed.getD j true).erase i:=by
     rw [List.Nodup.erase_eq_filter (List.nodup_range.filter _),List.filter_filter]
     apply List.filter_congr
     intro j _
     rw [set_getD hisz]
     by_cases e:i=j
     ·subst e; simp
     ·have:(j != i)=true:=by simpa using fun h=>e h.symm
      simp [e,this]
    have him:i∈(List.range ops.size).filter fun j=>!listed.getD j true:=List.mem_filter.2 ⟨List.mem_range.2 h1,by rw [h2]; rfl⟩
    rw [hsub,List.length_erase_of_mem him]
    omega
   obtain ⟨g1,g2,g3⟩:=ih (t / (Region.ready .any ops listed).length) (listed.setIfInBounds i true) (by simpa using hsz) hlen'
   refine ⟨List.nodup_cons.2 ⟨fun h=>?_,g1⟩,fun j=>?_,fun s p hs hp=>?_⟩
   ·have:=(g2 i).1 h
    rw [set_getD hisz] at this
    simp at this
   ·rw [List.mem_cons,g2 j,set_getD hisz]
    by_cases e:i=j
    ·subst e; simp [h1,h2]
    ·have e':j≠i:=fun h=>e h.symm
     simp [e,e']
   ·rcases List.mem_cons.1 hs with rfl | hs
    ·exact .inl (h3 p hp)
    ·rcases g3 s p hs hp with h | h
     ·rw [set_getD hisz] at h
      by_cases e:i=p
      ·subst e
       exact .inr (List.Sublist.cons_cons i (List.singleton_sublist.2 hs))
      ·simp only [e,if_false] at h
       exact .inl h
     ·exact .inr (h.trans (List.sublist_cons_self ..))
theorem region_order {ro:Option Nat} (hm:P.follows .mixedOrders=true) {id:Nat} {ls:List (List Nat)} (hok:orderOk P ops ls loose=true)
  {Q:Exit→Act→World→Prop} {a:Act} {w:World} (h:∀ L,L∈ls→wpR P true ops loose (Q .normal) L [] a w.drew):(Code.region id ops true).wpIn (Fen ro) 0 P Q a w:=by
 refine wpIn_region_draw fun t=>?_
 simp only [Region.schedule,hm,Bool.true_or,if_true,Region.linearise]
 simp only [orderOk,Bool.and_eq_true,List.all_eq_true] at hok
 obtain ⟨⟨⟨c1,c2⟩,c3⟩,c4⟩:=hok
 have hsel:∀ (i:Nat) o,ops[i]? = some o→isSel o=false:=by
  intro i o ho
  have:=(c1 o (List.mem_of_getElem? (by simpa using ho:ops.toList[i]? = some o))).1
  simpa using this
 have hpre:∀ (i p:Nat),p∈predAt ops i→p<ops.size:=by
  intro i p hp
  unfold predAt at hp
  cases ho:ops[i]? with
  | none=>simp [ho] at hp
  | some o=>
   simp only [ho] at hp
   exact Nat.le_of_ble_eq_true ((c1 o (List.mem_of_getElem? (by simpa using ho:ops.toList[i]? = some o))).2 p hp)
 have hanc:∀ s,s<ops.size→s∉predAt ops s∧∀ x,x∈(ancAll ops.toList).getD s []→∃ p,p∈predAt ops s∧(p=x∨x∈(ancAll ops.toList).getD p []):=by
  intro s hs
  have:=c2 s (List.mem_range.2 hs)
  unfold predAt
  split at this
  ·rename_i o ho
   simp only [Bool.and_eq_true,Bool.not_eq_true',List.all_eq_true,List.any_eq_true,Bool.or_eq_true] at this
   refine ⟨fun hmem=>by rw [mem_true.2 hmem] at this; exact absurd this.1 (by simp),fun x hx=>?_⟩
   obtain ⟨p,hp,hpx⟩:=this.2 x hx
   refine ⟨p,hp,?_⟩
   rcases hpx with h | h
   ·exact .inl (nbeq_iff.1 h)
   ·exact .inr (mem_true.1 h)
  ·cases this
 have horder:∀ L,L∈ls→(∀ i,i∈L→i<ops.size)∧(∀ i,i<ops.size→i∈L)∧L.Pairwise fun x s=>(x≠s∧s∉predAt ops x)∧(mem x ((ancAll ops.toList).getD s [])=true∨swapB P ops loose x s=true∨(effAt P ops x=true∧effAt P ops s=true)):=by
  intro L hL
  obtain ⟨⟨e1,e2⟩,e3⟩:=c3 L hL
  refine ⟨fun i hi=>Nat.le_of_ble_eq_true (e1 i hi),fun i hi=>mem_true.1 (e2 i (List.mem_range.2 hi)),(pairsAll_iff.1 e3).imp fun {x s} hxs=>?_⟩
  simp only [Bool.and_eq_true,Bool.or_eq_true,Bool.not_eq_true'] at hxs
  obtain ⟨⟨f1,f2⟩,f3⟩:=hxs
  have hne:x≠s:=fun e=>by rw [nbeq_iff.2 e] at f1; cases f1
  refine ⟨⟨hne,?_⟩,?_⟩
  ·unfold predAt
   split at f2
   ·rename_i o ho
    simp only [Bool.not_eq_true'] at f2
    exact fun hmem=>by rw [mem_true.2 hmem] at f2; cases f2
   ·cases f2
  ·rcases f3 with (f3 | f3) | f3
   ·exact .inl f3
   ·exact .inr (.inl f3)
   ·exact .inr (.inr f3)
 obtain ⟨L0,hL0⟩:∃ L0,L0∈ls:=by
  cases ls with
  | nil=>cases hn:ops.size <;> simp [hn,covB] at c4
  | cons L ls=>exact ⟨L,List.mem_cons_self ..⟩
 obtain ⟨o1,o2,o3⟩:=horder L0 hL0
 obtain ⟨g1,g2,g3⟩:=lin_spec (ops:=ops) (L:=L0) o2 o1 hpre (o3.imp fun h=>h.1) (fun i hi=>(hanc i (o1 i hi)).1) ops.size t (Array.replicate ops.size false) (by simp) (by
  have:=List.length_filter_le (fun i=>!(Array.replicate ops.size false).getD i true) (List.range ops.size)
  simpa using this)
 generalize Region.linearise.go .any ops ops.size t (Array.replicate ops.size false) []=σ at g1 g2 g3 ⊢
 have hσ:∀ i,i∈σ↔i<ops.size:=fun i=>by
  rw [g2 i]
  constructor
  ·exact fun h=>h.1
  ·exact fun h=>⟨h,by simp [h]⟩
 have hpred:∀ s p,s∈σ→p∈predAt ops s→[p,s].Sublist σ:=by
  intro s p hs hp
  rcases g3 s p hs hp with h | h
  ·have:=hpre s p hp
   simp [this] at h
  ·exact h
 have hbefore:∀ (k s x:Nat),σ.idxOf s≤k→s∈σ→x∈(ancAll ops.toList).getD s []→[x,s].Sublist σ:=by
  intro k
  induction k with
  | zero=>
   intro s x hk hs hx
   obtain ⟨p,hp, -⟩:=(hanc s ((hσ s).1 hs)).2 x hx
   have:=two_idx g1 (hpred s p hs hp)
   omega
  | succ k ih=>
   intro s x hk hs hx
   obtain ⟨p,hp,hpx⟩:=(hanc s ((hσ s).1 hs)).2 x hx
   have hps:=hpred s p hs hp
   rcases hpx with rfl | hpx
   ·exact hps
   ·have hlt:=two_idx g1 hps
    have hpσ:p∈σ:=hps.subset (List.mem_cons_self ..)
    have hxp:=ih p x (by omega) hpσ hpx
    exact two_trans g1 hxp hps
 have hmemσ:∀ s x,s∈σ→mem x ((ancAll ops.toList).getD s [])=true→[x,s].Sublist σ:=fun s x hs hx=>hbefore _ s x (Nat.le_refl _) hs (mem_true.1 hx)
 have hperm:∀ L,L∈ls→L.Perm σ:=by
  intro L hL
  obtain ⟨p1,p2,p3⟩:=horder L hL
  refine (List.perm_ext_iff_of_nodup (p3.imp fun h=>h.1.1) g1).2 fun i=>?_
  rw [hσ i]
  exact ⟨p1 i,p2 i⟩
 have hcov:σ.filter (effAt P ops)∈ls.map fun L=>L.filter (effAt P ops):=by
  refine covB_sound c4 (fun e he=>?_) (g1.filter _) (fun s x hs hx hm=>?_)
  ·obtain ⟨L,hL,rfl⟩:=List.mem_map.1 he
   exact (hperm L hL).filter _
  ·obtain ⟨hs1,hs2⟩:=List.mem_filter.1 hs
   obtain ⟨hx1,hx2⟩:=List.mem_filter.1 hx
   have:=(hmemσ s x hs1 hm).filter (effAt P ops)
   simpa [List.filter_cons,hx2,hs2] using this
 obtain ⟨L,hL,hLe⟩:=List.mem_map.1 hcov
 obtain ⟨p1,p2,p3⟩:=horder L hL
 refine wpR_order hsel (fun i hi=>⟨ops[i]'(p1 i hi),Array.getElem?_eq_getElem (p1 i hi)⟩) (hperm L hL).symm g1 (fun x s hxs hsx=>?_) (h L hL)
 have hxs':=p3.sublist hxs
 have hrel:=(List.pairwise_cons.1 hxs').1 s (List.mem_cons_self ..)
 have hs:s∈σ:=hsx.subset (List.mem_cons_self ..)
 have hlt:=two_idx g1 hsx
 rcases hrel.2 with h | h | ⟨h1,h2⟩
 ·have:=two_idx g1 (hmemσ s x hs h)
  omega
 ·exact h
 ·exfalso
  have h3:[x,s].Sublist (L.filter (effAt P ops)):=by
   have:=hxs.filter (effAt P ops)
   simpa [List.filter_cons,h1,h2] using this
  rw [hLe] at h3
  have:=two_idx g1 (h3.trans List.filter_sublist)
  omega
end
end Go.Sw
