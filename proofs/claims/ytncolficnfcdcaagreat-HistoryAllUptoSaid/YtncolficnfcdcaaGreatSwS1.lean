import Derived.Test.YtncolficnfcdcaaGreatSwSw
import Derived.WideLaws
set_option linter.unusedVariables false
set_option linter.unusedSimpArgs false
namespace Go.Sw
section
variable{a:Act}{k':IntKind}{P:Program}
def sH(f:Fr)(a:Act):Prop:=∀n v,f.get n=some v->a.tmps[n]?=some v
theorem fP{k n:Nat}:Nat.beq k n=true↔k=n:=⟨Ed,λh=>h ▸ Nat.beq_refl k⟩
theorem Wq{k n:Nat}(h:k≠n):Nat.beq k n=false:=by
 cases hb:Nat.beq k n
 .rfl
 .exact absurd (fP.1 hb) h
theorem Fr.tR(k:Nat)(v:Value)(r:Fr)(n:Nat):Fr.get ((k,v)::r) n=if k=n then some v else Fr.get r n:=by
 simp only[Fr.get];by_cases h:k=n
 .subst h;simp
 .have:Nat.beq k n=false:=Wq h
  simp[this,h]
theorem bW{f:Fr}(b:sH f a){x:Operand}{v:Value}(h:ev f x=some v):a.eval x=v:=by
 cases x with
 |tmp t=>simp only[ev]at h;simp[Act.eval,b t v h]
 |const c=>simpa[ev,Act.eval] using h
 |global g=>simpa[ev,Act.eval] using h
 |func i=>simpa[ev,Act.eval] using h
theorem Xw{f:Fr}(d:sH f a):∀{xs:List Operand} {vs:List Value},Sn f xs=some vs->xs.map a.eval=vs:=by
 intro xs
 induction xs with
 |nil=>intro vs h;simp[Sn]at h;simp[h]
 |cons x xs g=>
  intro vs h;simp only[Sn]at h;split at h
  .rename_i v j b c
   obtain rfl:=dU h;simp[bW d b,g c]
  .cases h
def LV(P:Program):PC->Prop
 |.b c=>c=true
 |.nil x=>VL P x
theorem Cc{k:IntKind}:yX k k'=true↔k=k':=by cases k<;>cases k'<;>simp[yX]
theorem Te{op:BinOp}{k:IntKind}{a b:Int}{r:Bool×Value}(h:ZG op k a b=some r)(c:r.1=true)(d:L2 op=false)(t:TypeId)(w:World) :
  (binOp op t (.int k a) (.int k b)).run P w = .ok r.2 w:=by
 cases op<;>simp only[ZG,gP,reduceCtorEq]at h<;>subst h<;>simp_all [binOp,Op.intArith,Op.intDiv,Op.intBits,Op.intCmp,L2,aT,bK,qY,kP,FN,uW,NY,dy,Gb,gN,G8,fG,yA,sN,qK,cL]
theorem Ph{op:BinOp}{k:IntKind}{a b:Int}{r:Bool×Value}(h:Rw op k a b=some r)(c:r.1=true)(t:TypeId)(w:World) :
  (binOp op t (.int k a) (.int k' b)).run P w = .ok r.2 w:=by
 cases op<;>simp only[Rw,gP,reduceCtorEq]at h<;>subst h<;>simp_all [binOp,Op.shift,GN,wT,cL,fG]<;>intro hb<;>omega
theorem DN{k k':FloatKind}:zO k k'=true↔k=k':=by cases k<;>cases k'<;>simp[zO]
section
variable{P:Program}{w:World}
variable{i ei:TypeInfo}{v a:Value}{e ft:TypeId}{x y:Operand}{off:Nat}
theorem cG{t:TypeId}{d:TypeDesc}(h:P.underlying t=some d):(underlying t).run P w = .ok d w:=by
 simp[underlying,h]
theorem zX{t:TypeId}(h:P.info? t=some i):(typeInfo t).run P w = .ok i w:=by
 simp[typeInfo,h]
theorem gT{t:TypeId}(h:P.info? t=some i):(sizeOf t).run P w = .ok i.size w:=by
 simp[sizeOf,zX h]
theorem Fw{op:BinOp}{c:Bool}(h:G3 op c=some v):(op = .eql/\v = .bool c)\/(op = .neq/\v = .bool !c):=by
 cases op<;>simp[G3,cL]at h<;>simp[<-h]
theorem Ud{op:BinOp}{a b:ByteArray}{r:Bool×Value}(h:cp op a b=some r)(c:r.1=true)(t:TypeId) :
  (binOp op t (.string a) (.string b)).run P w = .ok r.2 w:=by
 cases op<;>simp only[cp,gP,reduceCtorEq]at h<;>subst h
 all_goals simp_all [binOp,Op.stringOp,Xv,cL,w_,kh]
theorem S9{op:BinOp}{k:FloatKind}{a b:Nat}(h:Zt op k a b=some v)(t:TypeId) :
  (binOp op t (.float k a) (.float k b)).run P w = .ok v w:=by
 cases op<;>simp only[Zt,gP,reduceCtorEq]at h<;>subst h<;>simp[binOp,Op.floatCmp,eqF,neF,ltF,leF,gtF,geF]
theorem Xt(d:Nat){t:TypeId}(h:P.underlying t=some .bool)(a b:Bool):(Op.equalIn (d+1) t (.bool a) (.bool b)).run P w = .ok (a == b) w:=by
 simp[Op.equalIn,cG h]
theorem UZ(d:Nat){t:TypeId}(h:P.underlying t=some (.slice e))(p:Option Addr)(n c m k:Nat) :
  (Op.equalIn (d+1) t (.slice p n c) (.slice none m k)).run P w = .ok p.isNone w:=by
 cases p<;>simp[Op.equalIn,cG h]
theorem Zl(d:Nat){t:TypeId}(h:P.underlying t=some (.pointer e))(p:Option Addr) :
  (Op.equalIn (d+1) t (.pointer p) (.pointer none)).run P w = .ok p.isNone w:=by
 cases p<;>simp[Op.equalIn,cG h]
theorem UY(d:Nat){t:TypeId}{ms:Array (String×TypeId)}(h:P.underlying t=some (.interface ms))(ha:isIface a=true) :
  (Op.equalIn (d+1) t a .nilIface).run P w = .ok (lF a) w:=by
 cases a<;>simp[isIface]at ha<;>simp[Op.equalIn,cG h,lF]
theorem Xu(d:Nat){t:TypeId}{x y:Array TypeId}{z:Bool}(h:P.underlying t=some (.func x y z))(ha:QM a=true) :
  (Op.equalIn (d+1) t a .nilFunc).run P w = .ok (J7 a) w:=by
 cases a<;>simp[QM]at ha<;>simp[Op.equalIn,cG h,J7]
def Zk(op:BinOp)(s:Sem Bool):Sem Value:=
 match op with
 |.eql=>do pure (.bool (<-s))
 |_=>do pure (.bool (!(<-s)))
theorem Ic{t:TypeId}{b:Value}{c:Bool}(f:∀d,(Op.equalIn (d+1) t a b).run P w = .ok c w)
  (hb:∀op,op = .eql\/op = .neq->binOp op t a b=Zk op (Op.equal t a b))
  {op:BinOp} (h:G3 op c=some v):(binOp op t a b).run P w = .ok v w:=by
 have he:(Op.equal t a b).run P w = .ok c w:=f 9999;rcases Fw h with⟨rfl,rfl⟩|⟨rfl,rfl⟩
 .rw[hb _ (.inl rfl)];simp[Zk,he]
 .rw[hb _ (.inr rfl)];simp[Zk,he]
theorem xW{op:BinOp}{t:TypeId}{b:Value}(h1:a = .nilIface->b = .nilIface->∃c,y = .const c)(f:∀cs d,a = .agg cs->b ≠ .agg d) :
  (eqGuard op t x y a b).run P w = .ok () w:=by
 unfold eqGuard;split
 case h_3=>rw[if_pos (by simp)];rfl
 all_goals
  rw[if_neg (by simp)];split
  .obtain⟨c,rfl⟩:=h1 rfl rfl
   simp
  .exact absurd rfl (f _ _ rfl)
  .rfl
theorem SD{t:TypeId}(ha:isIface a=true)(op:BinOp)(b:op = .eql\/op = .neq) :
  binOp op t a .nilIface=Zk op (Op.equal t a .nilIface):=by
 cases a<;>first|(exact absurd ha Bool.false_ne_true)|(rcases b with rfl|rfl<;>rfl)
theorem Uz{t:TypeId}(ha:QM a=true)(op:BinOp)(b:op = .eql\/op = .neq) :
  binOp op t a .nilFunc=Zk op (Op.equal t a .nilFunc):=by
 cases a<;>first|(exact absurd ha Bool.false_ne_true)|(rcases b with rfl|rfl<;>rfl)
theorem UA{op:BinOp}{t:TypeId}{b:Value}{r:Bool×Value}(h:YE P op t a b=some r)(g:r.1=true) :
  (do eqGuard op t x y a b;binOp op t a b:Sem Value).run P w = .ok r.2 w:=by
 have m:(eqGuard op t x y a b).run P w = .ok () w:=by
  refine xW (λha hb=>?_) (λcs n ha hb=>?_)
  .subst ha hb
   simp[YE]at h
  .subst ha hb
   simp[YE]at h
 simp only[Sem.run_bind,m,Result.andThen_ok];unfold YE at h;split at h
 .rename_i k a k' b
  cases l:L2 op
  .simp only[l,cond_false]at h
   cases c:yX k k'
   .simp[c]at h
   .simp only[c,cond_true]at h
    obtain rfl:=Cc.1 c;exact Te h g l t w
  .simp only[l,cond_true]at h
   exact Ph h g t w
 .exact Ud h g t
 .rename_i k a k' b
  cases c:zO k k'
  .simp[c]at h
  .simp only[c,cond_true]at h
   obtain rfl:=DN.1 c;obtain⟨v,f,rfl⟩:=mZ.1 h;exact S9 f t
 .split at h
  .rename_i hu
   obtain⟨v,f,rfl⟩:=mZ.1 h;exact Ic (λd=>Xt d hu _ _) (λop j=>by rcases j with rfl|rfl<;>rfl) f
  .cases h
 .split at h
  .rename_i hu
   obtain⟨v,f,rfl⟩:=mZ.1 h;exact Ic (λd=>UZ d hu _ _ _ _ _) (λop j=>by rcases j with rfl|rfl<;>rfl) f
  .cases h
 .cases h
theorem Vh{op:BinOp}{t:TypeId}{r:Bool×Value}(ρ:Operand->Value)(b:∀v,ρ (.const v)=v)(h:tj P op t y a=some r)(g:r.1=true) :
  (do eqGuard op t x y a (ρ y);binOp op t a (ρ y):Sem Value).run P w = .ok r.2 w:=by
 unfold tj at h;split at h
 .rename_i ms hu
  have c:(eqGuard op t x (.const .nilIface) a (ρ (.const .nilIface))).run P w = .ok () w:=
   xW (λ_ _=>⟨_,rfl⟩) (λcs j ha hb=>by rw[b]at hb;cases hb)
  simp only[Sem.run_bind,c,Result.andThen_ok];obtain⟨v,f,rfl⟩:=mZ.1 h;rw[b];exact Ic (λd=>UY d hu g) (SD g) f
 .rename_i p q z hu
  have c:(eqGuard op t x (.const .nilFunc) a (ρ (.const .nilFunc))).run P w = .ok () w:=
   xW (λ_ hb=>by rw[b]at hb;cases hb) (λcs j ha hb=>by rw[b]at hb;cases hb)
  simp only[Sem.run_bind,c,Result.andThen_ok];obtain⟨v,f,rfl⟩:=mZ.1 h;rw[b];exact Ic (λd=>Xu d hu g) (Uz g) f
 .rename_i e hu
  split at h
  .rename_i p
   have c:(eqGuard op t x (.const (.pointer none)) (.pointer p) (ρ (.const (.pointer none)))).run P w = .ok () w:=
    xW (λha hb=>by cases ha) (λcs j ha hb=>by cases ha)
   simp only[Sem.run_bind,c,Result.andThen_ok];obtain⟨v,f,rfl⟩:=mZ.1 h;rw[b];exact Ic (λd=>Zl d hu _) (λop k=>by rcases k with rfl|rfl<;>rfl) f
  .cases h
 .cases h
theorem Yf{op:UnOp}{x:Value}(h:zx op x=some v):(Op.unary op x).run P w = .ok v w:=by
 unfold zx at h;split at h<;>first|(obtain rfl:=dU h)|cases h
 .rfl
 .rfl
 .rfl
theorem SO{s d:TypeId}{x:Value}(h:Za P s d x=some v):(convert s d x).run P w = .ok v w:=by
 unfold Za at h;split at h
 .rename_i sd k k' n b c
  obtain rfl:=dU h;simp only[convert,Sem.run_bind,cG b,cG c,Result.andThen_ok];cases sd<;>rfl
 .rename_i sd k k' n b c
  obtain rfl:=dU h;simp only[convert,Sem.run_bind,cG b,cG c,Result.andThen_ok];cases sd<;>rfl
 .rename_i sd s b c
  obtain rfl:=dU h;simp only[convert,Sem.run_bind,cG b,cG c,Result.andThen_ok];cases sd<;>rfl
 .cases h
theorem nQ(a:Addr):(Instr.sureAddr (.pointer (some a))).run P w = .ok a w:=rfl
theorem Fy{t:TypeId}{n:Nat}(h:Fx P t n=some (ft,off)) :
  ∃(fs:Array Field) (fd:Field) (i:TypeInfo),P.underlying t=some (.struct fs)/\fs[n]?=some fd/\P.info? fd.type=some i/\i.size≠0/\ft=fd.type/\off=fd.offset:=by
 unfold Fx at h;split at h
 .rename_i fs hu
  split at h
  .rename_i fd c
   split at h
   .rename_i i hi
    cases b:Nat.beq i.size 0
    .simp only[b,cond_false,gP,oV]at h
     exact⟨fs,fd,i,hu,c,hi,λe=>by rw[e]at b;simp at b,h.1.symm,h.2.symm⟩
    .simp[b]at h
   .cases h
  .cases h
 .cases h
theorem OV{t:TypeId}{n:Nat}(h:Fx P t n=some (ft,off))(p:Option Addr)(c:p.isSome=true) :
  (Instr.fieldAt t (.pointer p) n).run P w = .ok (.pointer (aB p off)) w:=by
 obtain⟨fs,fd,i,hu,b,hi,d,rfl,rfl⟩:=Fy h;obtain⟨a,rfl⟩:=BC.1 c;simp[Instr.fieldAt,cG hu,b,nQ,fieldPlace,gT hi,d,aB]
theorem QI{j:Int}{n:Nat}:eU j n=true↔0<=j/\j<n:=by simp[eU]
theorem ik{j:Int}{n:Nat}:wO j n=true↔0<=j/\j<=n:=by simp[wO]
theorem OY{t:TypeId}(hu:P.underlying t=some (.slice e))(hi:P.info? e=some ei)(p:Option Addr)(n c:Nat)(k:IntKind)(j:Int)
  (b:(p.isSome && eU j n)=true):(Instr.indexAt t (.slice p n c) (.int k j)).run P w = .ok (.pointer (aB p (j.toNat*ei.size))) w:=by
 simp only[iL,QI]at b;obtain⟨f,h0,d⟩:=b;obtain⟨a,rfl⟩:=BC.1 f;simp[Instr.indexAt,asIntOf,cG hu,h0,d,gT hi,aB]
theorem OX{t:TypeId}{n:Nat}(hu:P.underlying t=some (.array n e))(hi:P.info? e=some ei)(p:Option Addr)(k:IntKind)(j:Int)
  (b:(p.isSome && eU j n)=true):(Instr.indexAt t (.pointer p) (.int k j)).run P w = .ok (.pointer (aB p (j.toNat*ei.size))) w:=by
 simp only[iL,QI]at b;obtain⟨d,h0,c⟩:=b;obtain⟨a,rfl⟩:=BC.1 d;simp[Instr.indexAt,asIntOf,cG hu,h0,c,gT hi,aB,nQ]
theorem QJ{t:TypeId}(hu:P.underlying t=some .string)(s:ByteArray)(k:IntKind)(j:Int)(c:eU j s.size=true) :
  (Instr.index t (.string s) (.int k j)).run P w = .ok (.int .u8 (DD s j)) w:=by
 obtain⟨h0,d⟩:=QI.1 c;have b:j.toNat<s.size:=by omega
 have e:s[j.toNat]?=some (s.data.toList.getD j.toNat 0):=by
  rw[getElem?_pos s j.toNat b];have:j.toNat<s.data.toList.length:=by simpa using b
  simp[List.getD,cK this];rfl
 simp[Instr.index,asIntOf,cG hu,h0,e,DD]
end
end
end Go.Sw
