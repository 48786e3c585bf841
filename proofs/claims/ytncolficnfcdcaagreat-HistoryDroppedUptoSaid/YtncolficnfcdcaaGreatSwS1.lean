import Derived.Test.YtncolficnfcdcaaGreatSwSw
import Derived.WideLaws
set_option linter.unusedSimpArgs false
set_option linter.unusedVariables false
namespace Go.Sw
def FrOk (f:Fr) (a:Act):Prop:=∀ n v,f.get n=some v→a.tmps[n]? = some v
theorem nbeq_iff {k n:Nat}:Nat.beq k n=true↔k=n:=⟨Nat.eq_of_beq_eq_true,fun h=>h ▸ Nat.beq_refl k⟩
theorem nbeq_ne {k n:Nat} (h:k≠n):Nat.beq k n=false:=by
 cases hb:Nat.beq k n
 ·rfl
 ·exact absurd (nbeq_iff.1 hb) h
theorem Fr.get_cons (k:Nat) (v:Value) (r:Fr) (n:Nat):Fr.get ((k,v)::r) n=if k=n then some v else Fr.get r n:=by
 simp only [Fr.get]
 by_cases h:k=n
 ·subst h; simp
 ·have:Nat.beq k n=false:=nbeq_ne h
  simp [this,h]
theorem ev_sound {f:Fr} {a:Act} (hf:FrOk f a) {x:Operand} {v:Value} (h:ev f x=some v):a.eval x=v:=by
 cases x with
 | tmp t=>simp only [ev] at h; simp [Act.eval,hf t v h]
 | const c=>simpa [ev,Act.eval] using h
 | global g=>simpa [ev,Act.eval] using h
 | func i=>simpa [ev,Act.eval] using h
theorem evs_sound {f:Fr} {a:Act} (hf:FrOk f a):∀ {xs:List Operand} {vs:List Value},evs f xs=some vs→xs.map a.eval=vs:=by
 intro xs
 induction xs with
 | nil=>intro vs h; simp [evs] at h; simp [h]
 | cons x xs ih=>
  intro vs h
  simp only [evs] at h
  split at h
  ·rename_i v vs' h1 h2
   obtain rfl:=Option.some.inj h
   simp [ev_sound hf h1,ih h2]
  ·cases h
def PCHolds (P:Program):PC→Prop
 | .b c=>c=true
 | .nil x=>NilOk P x
theorem kindBeq_iff {k k':IntKind}:kindBeq k k'=true↔k=k':=by cases k <;> cases k' <;> simp [kindBeq]
theorem intOp_sound {P:Program} {op:BinOp} {k:IntKind} {a b:Int} {r:Bool×Value} (h:intOp op k a b=some r) (hc:r.1=true) (hs:isShift op=false) (t:TypeId) (w:World) :
  (binOp op t (.int k a) (.int k b)).run P w = .ok r.2 w:=by
 cases op <;> simp only [intOp,Option.some.injEq,reduceCtorEq] at h <;> subst h <;> simp_all [binOp,Op.intArith,Op.intDiv,Op.intBits,Op.intCmp,isShift,addI,subI,mulI,quoI,remI,andI,orI,xorI,andNotI,eqI,neI,ltI,leI,gtI,geI,notB]
theorem shiftOp_sound {P:Program} {op:BinOp} {k k':IntKind} {a b:Int} {r:Bool×Value} (h:shiftOp op k a b=some r) (hc:r.1=true) (t:TypeId) (w:World) :
  (binOp op t (.int k a) (.int k' b)).run P w = .ok r.2 w:=by
 cases op <;> simp only [shiftOp,Option.some.injEq,reduceCtorEq] at h <;> subst h <;> simp_all [binOp,Op.shift,shlI,shrI,notB,ltI] <;> intro hb <;> omega
theorem fkindBeq_iff {k k':FloatKind}:fkindBeq k k'=true↔k=k':=by cases k <;> cases k' <;> simp [fkindBeq]
section
variable {P:Program} {w:World}
theorem run_und {t:TypeId} {d:TypeDesc} (h:P.underlying t=some d):(underlying t).run P w = .ok d w:=by
 simp [underlying,h]
theorem run_info {t:TypeId} {i:TypeInfo} (h:P.info? t=some i):(typeInfo t).run P w = .ok i w:=by
 simp [typeInfo,h]
theorem run_size {t:TypeId} {i:TypeInfo} (h:P.info? t=some i):(sizeOf t).run P w = .ok i.size w:=by
 simp [sizeOf,run_info h]
theorem eqRes_sound {op:BinOp} {c:Bool} {v:Value} (h:eqRes op c=some v):(op = .eql∧v = .bool c)∨(op = .neq∧v = .bool !c):=by
 cases op <;> simp [eqRes,notB] at h <;> simp [← h]
theorem strOp_sound {op:BinOp} {a b:ByteArray} {r:Bool×Value} (h:strOp op a b=some r) (hc:r.1=true) (t:TypeId) :
  (binOp op t (.string a) (.string b)).run P w = .ok r.2 w:=by
 cases op <;> simp only [strOp,Option.some.injEq,reduceCtorEq] at h <;> subst h
 all_goals simp_all [binOp,Op.stringOp,eqS,notB,catS,catOk]
theorem fltOp_sound {op:BinOp} {k:FloatKind} {a b:Nat} {v:Value} (h:fltOp op k a b=some v) (t:TypeId) :
  (binOp op t (.float k a) (.float k b)).run P w = .ok v w:=by
 cases op <;> simp only [fltOp,Option.some.injEq,reduceCtorEq] at h <;> subst h <;> simp [binOp,Op.floatCmp,eqF,neF,ltF,leF,gtF,geF]
theorem eqIn_bool (d:Nat) {t:TypeId} (h:P.underlying t=some .bool) (a b:Bool):(Op.equalIn (d+1) t (.bool a) (.bool b)).run P w = .ok (a == b) w:=by
 simp [Op.equalIn,run_und h]
theorem eqIn_slice (d:Nat) {t e:TypeId} (h:P.underlying t=some (.slice e)) (p:Option Addr) (n c m k:Nat) :
  (Op.equalIn (d+1) t (.slice p n c) (.slice none m k)).run P w = .ok p.isNone w:=by
 cases p <;> simp [Op.equalIn,run_und h]
theorem eqIn_ptr (d:Nat) {t e:TypeId} (h:P.underlying t=some (.pointer e)) (p:Option Addr) :
  (Op.equalIn (d+1) t (.pointer p) (.pointer none)).run P w = .ok p.isNone w:=by
 cases p <;> simp [Op.equalIn,run_und h]
theorem eqIn_iface (d:Nat) {t:TypeId} {ms:Array (String×TypeId)} (h:P.underlying t=some (.interface ms)) {a:Value} (ha:isIface a=true) :
  (Op.equalIn (d+1) t a .nilIface).run P w = .ok (isNilIface a) w:=by
 cases a <;> simp [isIface] at ha <;> simp [Op.equalIn,run_und h,isNilIface]
theorem eqIn_func (d:Nat) {t:TypeId} {x y:Array TypeId} {z:Bool} (h:P.underlying t=some (.func x y z)) {a:Value} (ha:isFunc a=true) :
  (Op.equalIn (d+1) t a .nilFunc).run P w = .ok (isNilFunc a) w:=by
 cases a <;> simp [isFunc] at ha <;> simp [Op.equalIn,run_und h,isNilFunc]
def eqDo (op:BinOp) (s:Sem Bool):Sem Value:=
 match op with
 | .eql=>do pure (.bool (← s))
 | _=>do pure (.bool (!(← s)))
theorem bin_eql {t:TypeId} {a b:Value} {c:Bool} (hd:∀ d,(Op.equalIn (d+1) t a b).run P w = .ok c w)
  (hb:∀ op,op = .eql∨op = .neq→binOp op t a b=eqDo op (Op.equal t a b))
  {op:BinOp} {v:Value} (h:eqRes op c=some v):(binOp op t a b).run P w = .ok v w:=by
 have he:(Op.equal t a b).run P w = .ok c w:=hd 9999
 rcases eqRes_sound h with ⟨rfl,rfl⟩ | ⟨rfl,rfl⟩
 ·rw [hb _ (.inl rfl)]; simp [eqDo,he]
 ·rw [hb _ (.inr rfl)]; simp [eqDo,he]
theorem eqGuard_ok {op:BinOp} {t:TypeId} {x y:Operand} {a b:Value} (h1:a = .nilIface→b = .nilIface→∃ c,y = .const c) (h2:∀ cs ds,a = .agg cs→b ≠ .agg ds) :
  (eqGuard op t x y a b).run P w = .ok () w:=by
 unfold eqGuard
 split
 case h_3=>rw [if_pos (by simp)]; rfl
 all_goals
  rw [if_neg (by simp)]
  split
  ·obtain ⟨c,rfl⟩:=h1 rfl rfl
   simp
  ·exact absurd rfl (h2 _ _ rfl)
  ·rfl
theorem binEq_iface {t:TypeId} {a:Value} (ha:isIface a=true) (op:BinOp) (ho:op = .eql∨op = .neq) :
  binOp op t a .nilIface=eqDo op (Op.equal t a .nilIface):=by
 cases a <;> first | (exact absurd ha Bool.false_ne_true) | (rcases ho with rfl | rfl <;> rfl)
theorem binEq_func {t:TypeId} {a:Value} (ha:isFunc a=true) (op:BinOp) (ho:op = .eql∨op = .neq) :
  binOp op t a .nilFunc=eqDo op (Op.equal t a .nilFunc):=by
 cases a <;> first | (exact absurd ha Bool.false_ne_true) | (rcases ho with rfl | rfl <;> rfl)
theorem binV_sound {op:BinOp} {t:TypeId} {x y:Operand} {a b:Value} {r:Bool×Value} (h:binV P op t a b=some r) (hc:r.1=true) :
  (do eqGuard op t x y a b; binOp op t a b:Sem Value).run P w = .ok r.2 w:=by
 have hg:(eqGuard op t x y a b).run P w = .ok () w:=by
  refine eqGuard_ok (fun ha hb=>?_) (fun cs ds ha hb=>?_)
  ·subst ha hb
   simp [binV] at h
  ·subst ha hb
   simp [binV] at h
 simp only [Sem.run_bind,hg,Result.andThen_ok]
 unfold binV at h
 split at h
 ·rename_i k a k' b
  cases hs:isShift op
  ·simp only [hs,cond_false] at h
   cases hk:kindBeq k k'
   ·simp [hk] at h
   ·simp only [hk,cond_true] at h
    obtain rfl:=kindBeq_iff.1 hk
    exact intOp_sound h hc hs t w
  ·simp only [hs,cond_true] at h
   exact shiftOp_sound h hc t w
 ·exact strOp_sound h hc t
 ·rename_i k a k' b
  cases hk:fkindBeq k k'
  ·simp [hk] at h
  ·simp only [hk,cond_true] at h
   obtain rfl:=fkindBeq_iff.1 hk
   obtain ⟨v,hv,rfl⟩:=Option.map_eq_some_iff.1 h
   exact fltOp_sound hv t
 ·split at h
  ·rename_i hu
   obtain ⟨v,hv,rfl⟩:=Option.map_eq_some_iff.1 h
   exact bin_eql (fun d=>eqIn_bool d hu _ _) (fun op ho=>by rcases ho with rfl | rfl <;> rfl) hv
  ·cases h
 ·split at h
  ·rename_i hu
   obtain ⟨v,hv,rfl⟩:=Option.map_eq_some_iff.1 h
   exact bin_eql (fun d=>eqIn_slice d hu _ _ _ _ _) (fun op ho=>by rcases ho with rfl | rfl <;> rfl) hv
  ·cases h
 ·cases h
theorem nilV_sound {op:BinOp} {t:TypeId} {x y:Operand} {a:Value} {r:Bool×Value} (ρ:Operand→Value) (hρ:∀ v,ρ (.const v)=v) (h:nilV P op t y a=some r) (hc:r.1=true) :
  (do eqGuard op t x y a (ρ y); binOp op t a (ρ y):Sem Value).run P w = .ok r.2 w:=by
 unfold nilV at h
 split at h
 ·rename_i ms hu
  have hg:(eqGuard op t x (.const .nilIface) a (ρ (.const .nilIface))).run P w = .ok () w:=
   eqGuard_ok (fun _ _=>⟨_,rfl⟩) (fun cs ds ha hb=>by rw [hρ] at hb; cases hb)
  simp only [Sem.run_bind,hg,Result.andThen_ok]
  obtain ⟨v,hv,rfl⟩:=Option.map_eq_some_iff.1 h
  rw [hρ]
  exact bin_eql (fun d=>eqIn_iface d hu hc) (binEq_iface hc) hv
 ·rename_i p q z hu
  have hg:(eqGuard op t x (.const .nilFunc) a (ρ (.const .nilFunc))).run P w = .ok () w:=
   eqGuard_ok (fun _ hb=>by rw [hρ] at hb; cases hb) (fun cs ds ha hb=>by rw [hρ] at hb; cases hb)
  simp only [Sem.run_bind,hg,Result.andThen_ok]
  obtain ⟨v,hv,rfl⟩:=Option.map_eq_some_iff.1 h
  rw [hρ]
  exact bin_eql (fun d=>eqIn_func d hu hc) (binEq_func hc) hv
 ·rename_i e hu
  split at h
  ·rename_i p
   have hg:(eqGuard op t x (.const (.pointer none)) (.pointer p) (ρ (.const (.pointer none)))).run P w = .ok () w:=
    eqGuard_ok (fun ha hb=>by cases ha) (fun cs ds ha hb=>by cases ha)
   simp only [Sem.run_bind,hg,Result.andThen_ok]
   obtain ⟨v,hv,rfl⟩:=Option.map_eq_some_iff.1 h
   rw [hρ]
   exact bin_eql (fun d=>eqIn_ptr d hu _) (fun op ho=>by rcases ho with rfl | rfl <;> rfl) hv
  ·cases h
 ·cases h
theorem unV_sound {op:UnOp} {x v:Value} (h:unV op x=some v):(Op.unary op x).run P w = .ok v w:=by
 unfold unV at h
 split at h <;> first | (obtain rfl:=Option.some.inj h) | cases h
 ·rfl
 ·rfl
 ·rfl
theorem convV_sound {s d:TypeId} {x v:Value} (h:convV P s d x=some v):(convert s d x).run P w = .ok v w:=by
 unfold convV at h
 split at h
 ·rename_i sd k k' n h1 h2
  obtain rfl:=Option.some.inj h
  simp only [convert,Sem.run_bind,run_und h1,run_und h2,Result.andThen_ok]
  cases sd <;> rfl
 ·rename_i sd k k' n h1 h2
  obtain rfl:=Option.some.inj h
  simp only [convert,Sem.run_bind,run_und h1,run_und h2,Result.andThen_ok]
  cases sd <;> rfl
 ·rename_i sd s h1 h2
  obtain rfl:=Option.some.inj h
  simp only [convert,Sem.run_bind,run_und h1,run_und h2,Result.andThen_ok]
  cases sd <;> rfl
 ·cases h
theorem sureAddr_some (a:Addr):(Instr.sureAddr (.pointer (some a))).run P w = .ok a w:=rfl
theorem fieldOff_sound {t:TypeId} {n:Nat} {ft:TypeId} {off:Nat} (h:fieldOff P t n=some (ft,off)) :
  ∃ (fs:Array Field) (fd:Field) (i:TypeInfo),P.underlying t=some (.struct fs)∧fs[n]? = some fd∧P.info? fd.type=some i∧i.size≠0∧ft=fd.type∧off=fd.offset:=by
 unfold fieldOff at h
 split at h
 ·rename_i fs hu
  split at h
  ·rename_i fd hfd
   split at h
   ·rename_i i hi
    cases hz:Nat.beq i.size 0
    ·simp only [hz,cond_false,Option.some.injEq,Prod.mk.injEq] at h
     exact ⟨fs,fd,i,hu,hfd,hi,fun e=>by rw [e] at hz; simp at hz,h.1.symm,h.2.symm⟩
    ·simp [hz] at h
   ·cases h
  ·cases h
 ·cases h
theorem fieldAt_sound {t:TypeId} {n:Nat} {ft:TypeId} {off:Nat} (h:fieldOff P t n=some (ft,off)) (p:Option Addr) (hp:p.isSome=true) :
  (Instr.fieldAt t (.pointer p) n).run P w = .ok (.pointer (shiftTo p off)) w:=by
 obtain ⟨fs,fd,i,hu,hfd,hi,hz,rfl,rfl⟩:=fieldOff_sound h
 obtain ⟨a,rfl⟩:=Option.isSome_iff_exists.1 hp
 simp [Instr.fieldAt,run_und hu,hfd,sureAddr_some,fieldPlace,run_size hi,hz,shiftTo]
theorem inB_iff {j:Int} {n:Nat}:inB j n=true↔0≤j∧j<n:=by simp [inB]
theorem leB_iff {j:Int} {n:Nat}:leB j n=true↔0≤j∧j≤n:=by simp [leB]
theorem indexAt_slice {t e:TypeId} {ei:TypeInfo} (hu:P.underlying t=some (.slice e)) (hi:P.info? e=some ei) (p:Option Addr) (n c:Nat) (k:IntKind) (j:Int)
  (hc:(p.isSome && inB j n)=true):(Instr.indexAt t (.slice p n c) (.int k j)).run P w = .ok (.pointer (shiftTo p (j.toNat*ei.size))) w:=by
 simp only [Bool.and_eq_true,inB_iff] at hc
 obtain ⟨hp,h0,h1⟩:=hc
 obtain ⟨a,rfl⟩:=Option.isSome_iff_exists.1 hp
 simp [Instr.indexAt,asIntOf,run_und hu,h0,h1,run_size hi,shiftTo]
theorem indexAt_array {t e:TypeId} {ei:TypeInfo} {n:Nat} (hu:P.underlying t=some (.array n e)) (hi:P.info? e=some ei) (p:Option Addr) (k:IntKind) (j:Int)
  (hc:(p.isSome && inB j n)=true):(Instr.indexAt t (.pointer p) (.int k j)).run P w = .ok (.pointer (shiftTo p (j.toNat*ei.size))) w:=by
 simp only [Bool.and_eq_true,inB_iff] at hc
 obtain ⟨hp,h0,h1⟩:=hc
 obtain ⟨a,rfl⟩:=Option.isSome_iff_exists.1 hp
 simp [Instr.indexAt,asIntOf,run_und hu,h0,h1,run_size hi,shiftTo,sureAddr_some]
theorem index_string {t:TypeId} (hu:P.underlying t=some .string) (s:ByteArray) (k:IntKind) (j:Int) (hc:inB j s.size=true) :
  (Instr.index t (.string s) (.int k j)).run P w = .ok (.int .u8 (byteAt s j)) w:=by
 obtain ⟨h0,h1⟩:=inB_iff.1 hc
 have hlt:j.toNat<s.size:=by omega
 have e:s[j.toNat]? = some (s.data.toList.getD j.toNat 0):=by
  rw [getElem?_pos s j.toNat hlt]
  have:j.toNat<s.data.toList.length:=by simpa using hlt
  simp [List.getD,List.getElem?_eq_getElem this]
  rfl
 simp [Instr.index,asIntOf,run_und hu,h0,e,byteAt]
end
end Go.Sw
