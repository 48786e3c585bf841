import Derived.Test.YtncolficnfcdcaaGreatSwSw
import Derived.WideLaws
set_option linter.unusedVariables false
set_option linter.unusedSimpArgs false
namespace Go.Sw
section
variable{a:Act}{k':IntKind}{P:Program}
def sE(f:Fr)(a:Act):Prop:=∀n v,f.get n=some v->a.tmps[n]?=some v
theorem fN{k n:Nat}:Nat.beq k n=true↔k=n:=⟨Ec,λh=>h ▸ Nat.beq_refl k⟩
theorem Wo{k n:Nat}(h:k≠n):Nat.beq k n=false:=by
 cases hb:Nat.beq k n
 .rfl
 .exact absurd (fN.1 hb) h
theorem Fr.tQ(k:Nat)(v:Value)(r:Fr)(n:Nat):Fr.get ((k,v)::r) n=if k=n then some v else Fr.get r n:=by
 simp only[Fr.get];by_cases h:k=n
 .subst h;simp
 .have:Nat.beq k n=false:=Wo h
  simp[this,h]
theorem bV{f:Fr}(b:sE f a){x:Operand}{v:Value}(h:ev f x=some v):a.eval x=v:=by
 cases x with
 |tmp t=>simp only[ev]at h;simp[Act.eval,b t v h]
 |const c=>simpa[ev,Act.eval] using h
 |global g=>simpa[ev,Act.eval] using h
 |func i=>simpa[ev,Act.eval] using h
theorem Xu{f:Fr}(d:sE f a):∀{xs:List Operand} {vs:List Value},Sj f xs=some vs->xs.map a.eval=vs:=by
 intro xs
 induction xs with
 |nil=>intro vs h;simp[Sj]at h;simp[h]
 |cons x xs g=>
  intro vs h;simp only[Sj]at h;split at h
  .rename_i v j b c
   obtain rfl:=dU h;simp[bV d b,g c]
  .cases h
def LV(P:Program):PC->Prop
 |.b c=>c=true
 |.nil x=>VJ P x
theorem Cc{k:IntKind}:yV k k'=true↔k=k':=by cases k<;>cases k'<;>simp[yV]
theorem Te{op:BinOp}{k:IntKind}{a b:Int}{r:Bool×Value}(h:ZD op k a b=some r)(c:r.1=true)(d:LZ op=false)(t:TypeId)(w:World) :
  (binOp op t (.int k a) (.int k b)).run P w = .ok r.2 w:=by
 cases op<;>simp only[ZD,gO,reduceCtorEq]at h<;>subst h<;>simp_all [binOp,Op.intArith,Op.intDiv,Op.intBits,Op.intCmp,LZ,aT,bJ,qV,kP,HL,uU,NX,dv,Ga,gM,HD,fH,xY,sP,qG,cU]
theorem Pg{op:BinOp}{k:IntKind}{a b:Int}{r:Bool×Value}(h:Rt op k a b=some r)(c:r.1=true)(t:TypeId)(w:World) :
  (binOp op t (.int k a) (.int k' b)).run P w = .ok r.2 w:=by
 cases op<;>simp only[Rt,gO,reduceCtorEq]at h<;>subst h<;>simp_all [binOp,Op.shift,GO,wQ,cU,fH]<;>intro hb<;>omega
theorem DM{k k':FloatKind}:zM k k'=true↔k=k':=by cases k<;>cases k'<;>simp[zM]
section
variable{P:Program}{w:World}
variable{i ei:TypeInfo}{v a:Value}{e ft:TypeId}{x y:Operand}{off:Nat}
theorem cG{t:TypeId}{d:TypeDesc}(h:P.underlying t=some d):(underlying t).run P w = .ok d w:=by
 simp[underlying,h]
theorem zV{t:TypeId}(h:P.info? t=some i):(typeInfo t).run P w = .ok i w:=by
 simp[typeInfo,h]
theorem gT{t:TypeId}(h:P.info? t=some i):(sizeOf t).run P w = .ok i.size w:=by
 simp[sizeOf,zV h]
theorem Fw{op:BinOp}{c:Bool}(h:G5 op c=some v):(op = .eql/\v = .bool c)\/(op = .neq/\v = .bool !c):=by
 cases op<;>simp[G5,cU]at h<;>simp[<-h]
theorem Uc{op:BinOp}{a b:ByteArray}{r:Bool×Value}(h:c_ op a b=some r)(c:r.1=true)(t:TypeId) :
  (binOp op t (.string a) (.string b)).run P w = .ok r.2 w:=by
 cases op<;>simp only[c_,gO,reduceCtorEq]at h<;>subst h
 all_goals simp_all [binOp,Op.stringOp,Xt,cU,v8,kh]
theorem S9{op:BinOp}{k:FloatKind}{a b:Nat}(h:Zq op k a b=some v)(t:TypeId) :
  (binOp op t (.float k a) (.float k b)).run P w = .ok v w:=by
 cases op<;>simp only[Zq,gO,reduceCtorEq]at h<;>subst h<;>simp[binOp,Op.floatCmp,eqF,neF,ltF,leF,gtF,geF]
theorem Xr(d:Nat){t:TypeId}(h:P.underlying t=some .bool)(a b:Bool):(Op.equalIn (d+1) t (.bool a) (.bool b)).run P w = .ok (a == b) w:=by
 simp[Op.equalIn,cG h]
theorem UW(d:Nat){t:TypeId}(h:P.underlying t=some (.slice e))(p:Option Addr)(n c m k:Nat) :
  (Op.equalIn (d+1) t (.slice p n c) (.slice none m k)).run P w = .ok p.isNone w:=by
 cases p<;>simp[Op.equalIn,cG h]
theorem Zi(d:Nat){t:TypeId}(h:P.underlying t=some (.pointer e))(p:Option Addr) :
  (Op.equalIn (d+1) t (.pointer p) (.pointer none)).run P w = .ok p.isNone w:=by
 cases p<;>simp[Op.equalIn,cG h]
theorem UU(d:Nat){t:TypeId}{ms:Array (String×TypeId)}(h:P.underlying t=some (.interface ms))(ha:isIface a=true) :
  (Op.equalIn (d+1) t a .nilIface).run P w = .ok (lF a) w:=by
 cases a<;>simp[isIface]at ha<;>simp[Op.equalIn,cG h,lF]
theorem Xs(d:Nat){t:TypeId}{x y:Array TypeId}{z:Bool}(h:P.underlying t=some (.func x y z))(ha:QI a=true) :
  (Op.equalIn (d+1) t a .nilFunc).run P w = .ok (Ka a) w:=by
 cases a<;>simp[QI]at ha<;>simp[Op.equalIn,cG h,Ka]
def Zh(op:BinOp)(s:Sem Bool):Sem Value:=
 match op with
 |.eql=>do pure (.bool (<-s))
 |_=>do pure (.bool (!(<-s)))
theorem Ih{t:TypeId}{b:Value}{c:Bool}(f:∀d,(Op.equalIn (d+1) t a b).run P w = .ok c w)
  (hb:∀op,op = .eql\/op = .neq->binOp op t a b=Zh op (Op.equal t a b))
  {op:BinOp} (h:G5 op c=some v):(binOp op t a b).run P w = .ok v w:=by
 have he:(Op.equal t a b).run P w = .ok c w:=f 9999;rcases Fw h with⟨rfl,rfl⟩|⟨rfl,rfl⟩
 .rw[hb _ (.inl rfl)];simp[Zh,he]
 .rw[hb _ (.inr rfl)];simp[Zh,he]
theorem xU{op:BinOp}{t:TypeId}{b:Value}(h1:a = .nilIface->b = .nilIface->∃c,y = .const c)(f:∀cs d,a = .agg cs->b ≠ .agg d) :
  (eqGuard op t x y a b).run P w = .ok () w:=by
 unfold eqGuard;split
 case h_3=>rw[if_pos (by simp)];rfl
 all_goals
  rw[if_neg (by simp)];split
  .obtain⟨c,rfl⟩:=h1 rfl rfl
   simp
  .exact absurd rfl (f _ _ rfl)
  .rfl
theorem SC{t:TypeId}(ha:isIface a=true)(op:BinOp)(b:op = .eql\/op = .neq) :
  binOp op t a .nilIface=Zh op (Op.equal t a .nilIface):=by
 cases a<;>first|(exact absurd ha Bool.false_ne_true)|(rcases b with rfl|rfl<;>rfl)
theorem Uw{t:TypeId}(ha:QI a=true)(op:BinOp)(b:op = .eql\/op = .neq) :
  binOp op t a .nilFunc=Zh op (Op.equal t a .nilFunc):=by
 cases a<;>first|(exact absurd ha Bool.false_ne_true)|(rcases b with rfl|rfl<;>rfl)
theorem Ux{op:BinOp}{t:TypeId}{b:Value}{r:Bool×Value}(h:YB P op t a b=some r)(g:r.1=true) :
  (do eqGuard op t x y a b;binOp op t a b:Sem Value).run P w = .ok r.2 w:=by
 have m:(eqGuard op t x y a b).run P w = .ok () w:=by
  refine xU (λha hb=>?_) (λcs n ha hb=>?_)
  .subst ha hb
   simp[YB]at h
  .subst ha hb
   simp[YB]at h
 simp only[Sem.run_bind,m,Result.andThen_ok];unfold YB at h;split at h
 .rename_i k a k' b
  cases l:LZ op
  .simp only[l,cond_false]at h
   cases c:yV k k'
   .simp[c]at h
   .simp only[c,cond_true]at h
    obtain rfl:=Cc.1 c;exact Te h g l t w
  .simp only[l,cond_true]at h
   exact Pg h g t w
 .exact Uc h g t
 .rename_i k a k' b
  cases c:zM k k'
  .simp[c]at h
  .simp only[c,cond_true]at h
   obtain rfl:=DM.1 c;obtain⟨v,f,rfl⟩:=mY.1 h;exact S9 f t
 .split at h
  .rename_i hu
   obtain⟨v,f,rfl⟩:=mY.1 h;exact Ih (λd=>Xr d hu _ _) (λop j=>by rcases j with rfl|rfl<;>rfl) f
  .cases h
 .split at h
  .rename_i hu
   obtain⟨v,f,rfl⟩:=mY.1 h;exact Ih (λd=>UW d hu _ _ _ _ _) (λop j=>by rcases j with rfl|rfl<;>rfl) f
  .cases h
 .cases h
theorem Ve{op:BinOp}{t:TypeId}{r:Bool×Value}(ρ:Operand->Value)(b:∀v,ρ (.const v)=v)(h:sx P op t y a=some r)(g:r.1=true) :
  (do eqGuard op t x y a (ρ y);binOp op t a (ρ y):Sem Value).run P w = .ok r.2 w:=by
 unfold sx at h;split at h
 .rename_i ms hu
  have c:(eqGuard op t x (.const .nilIface) a (ρ (.const .nilIface))).run P w = .ok () w:=
   xU (λ_ _=>⟨_,rfl⟩) (λcs j ha hb=>by rw[b]at hb;cases hb)
  simp only[Sem.run_bind,c,Result.andThen_ok];obtain⟨v,f,rfl⟩:=mY.1 h;rw[b];exact Ih (λd=>UU d hu g) (SC g) f
 .rename_i p q z hu
  have c:(eqGuard op t x (.const .nilFunc) a (ρ (.const .nilFunc))).run P w = .ok () w:=
   xU (λ_ hb=>by rw[b]at hb;cases hb) (λcs j ha hb=>by rw[b]at hb;cases hb)
  simp only[Sem.run_bind,c,Result.andThen_ok];obtain⟨v,f,rfl⟩:=mY.1 h;rw[b];exact Ih (λd=>Xs d hu g) (Uw g) f
 .rename_i e hu
  split at h
  .rename_i p
   have c:(eqGuard op t x (.const (.pointer none)) (.pointer p) (ρ (.const (.pointer none)))).run P w = .ok () w:=
    xU (λha hb=>by cases ha) (λcs j ha hb=>by cases ha)
   simp only[Sem.run_bind,c,Result.andThen_ok];obtain⟨v,f,rfl⟩:=mY.1 h;rw[b];exact Ih (λd=>Zi d hu _) (λop k=>by rcases k with rfl|rfl<;>rfl) f
  .cases h
 .cases h
theorem Yd{op:UnOp}{x:Value}(h:zt op x=some v):(Op.unary op x).run P w = .ok v w:=by
 unfold zt at h;split at h<;>first|(obtain rfl:=dU h)|cases h
 .rfl
 .rfl
 .rfl
theorem SO{s d:TypeId}{x:Value}(h:Y7 P s d x=some v):(convert s d x).run P w = .ok v w:=by
 unfold Y7 at h;split at h
 .rename_i sd k k' n b c
  obtain rfl:=dU h;simp only[convert,Sem.run_bind,cG b,cG c,Result.andThen_ok];cases sd<;>rfl
 .rename_i sd k k' n b c
  obtain rfl:=dU h;simp only[convert,Sem.run_bind,cG b,cG c,Result.andThen_ok];cases sd<;>rfl
 .rename_i sd s b c
  obtain rfl:=dU h;simp only[convert,Sem.run_bind,cG b,cG c,Result.andThen_ok];cases sd<;>rfl
 .cases h
theorem nQ(a:Addr):(Instr.sureAddr (.pointer (some a))).run P w = .ok a w:=rfl
theorem Fy{t:TypeId}{n:Nat}(h:Fx P t n=some (ft,off)) :
  ∃(fs:Array Field) (fd:Field) (i:TypeInfo),P.underlying t=some (.struct fs)/\fs[n]?=some fd/\P.info? fd.type=some i/\i.size≠0/\ft=fd.type/\off=fd.offset:=by
 unfold Fx at h;split at h
 .rename_i fs hu
  split at h
  .rename_i fd c
   split at h
   .rename_i i hi
    cases b:Nat.beq i.size 0
    .simp only[b,cond_false,gO,oU]at h
     exact⟨fs,fd,i,hu,c,hi,λe=>by rw[e]at b;simp at b,h.1.symm,h.2.symm⟩
    .simp[b]at h
   .cases h
  .cases h
 .cases h
theorem OV{t:TypeId}{n:Nat}(h:Fx P t n=some (ft,off))(p:Option Addr)(c:p.isSome=true) :
  (Instr.fieldAt t (.pointer p) n).run P w = .ok (.pointer (aB p off)) w:=by
 obtain⟨fs,fd,i,hu,b,hi,d,rfl,rfl⟩:=Fy h;obtain⟨a,rfl⟩:=BB.1 c;simp[Instr.fieldAt,cG hu,b,nQ,fieldPlace,gT hi,d,aB]
theorem QE{j:Int}{n:Nat}:eV j n=true↔0<=j/\j<n:=by simp[eV]
theorem ik{j:Int}{n:Nat}:wY j n=true↔0<=j/\j<=n:=by simp[wY]
theorem OY{t:TypeId}(hu:P.underlying t=some (.slice e))(hi:P.info? e=some ei)(p:Option Addr)(n c:Nat)(k:IntKind)(j:Int)
  (b:(p.isSome && eV j n)=true):(Instr.indexAt t (.slice p n c) (.int k j)).run P w = .ok (.pointer (aB p (j.toNat*ei.size))) w:=by
 simp only[iL,QE]at b;obtain⟨f,h0,d⟩:=b;obtain⟨a,rfl⟩:=BB.1 f;simp[Instr.indexAt,asIntOf,cG hu,h0,d,gT hi,aB]
theorem OX{t:TypeId}{n:Nat}(hu:P.underlying t=some (.array n e))(hi:P.info? e=some ei)(p:Option Addr)(k:IntKind)(j:Int)
  (b:(p.isSome && eV j n)=true):(Instr.indexAt t (.pointer p) (.int k j)).run P w = .ok (.pointer (aB p (j.toNat*ei.size))) w:=by
 simp only[iL,QE]at b;obtain⟨d,h0,c⟩:=b;obtain⟨a,rfl⟩:=BB.1 d;simp[Instr.indexAt,asIntOf,cG hu,h0,c,gT hi,aB,nQ]
theorem QF{t:TypeId}(hu:P.underlying t=some .string)(s:ByteArray)(k:IntKind)(j:Int)(c:eV j s.size=true) :
  (Instr.index t (.string s) (.int k j)).run P w = .ok (.int .u8 (DC s j)) w:=by
 obtain⟨h0,d⟩:=QE.1 c;have b:j.toNat<s.size:=by omega
 have e:s[j.toNat]?=some (s.data.toList.getD j.toNat 0):=by
  rw[getElem?_pos s j.toNat b];have:j.toNat<s.data.toList.length:=by simpa using b
  simp[List.getD,cL this];rfl
 simp[Instr.index,asIntOf,cG hu,h0,e,DC]
end
end
end Go.Sw
