import Derived.Test.YtncolficnfcdcaaGreatSwSw
import Derived.WideLaws
set_option linter.unusedVariables false
set_option linter.unusedSimpArgs false
namespace Go.Sw
section
variable{a:Act}{k':IntKind}{P:Program}
def rQ(f:Fr)(a:Act):Prop:=∀n v,f.get n=some v->a.tmps[n]?=some v
theorem fH{k n:Nat}:Nat.beq k n=true↔k=n:=⟨DM,λh=>h ▸ Nat.beq_refl k⟩
theorem VG{k n:Nat}(h:k≠n):Nat.beq k n=false:=by
 cases hb:Nat.beq k n
 .rfl
 .exact absurd (fH.1 hb) h
theorem Fr.sY(k:Nat)(v:Value)(r:Fr)(n:Nat):Fr.get ((k,v)::r) n=if k=n then some v else Fr.get r n:=by
 simp only[Fr.get];by_cases h:k=n
 .subst h;simp
 .have:Nat.beq k n=false:=VG h
  simp[this,h]
theorem bS{f:Fr}(b:rQ f a){x:Operand}{v:Value}(h:ev f x=some v):a.eval x=v:=by
 cases x with
 |tmp t=>simp only[ev]at h;simp[Act.eval,b t v h]
 |const c=>simpa[ev,Act.eval] using h
 |global g=>simpa[ev,Act.eval] using h
 |func i=>simpa[ev,Act.eval] using h
theorem WH{f:Fr}(d:rQ f a):∀{xs:List Operand} {vs:List Value},RC f xs=some vs->xs.map a.eval=vs:=by
 intro xs
 induction xs with
 |nil=>intro vs h;simp[RC]at h;simp[h]
 |cons x xs g=>
  intro vs h;simp only[RC]at h;split at h
  .rename_i v j b c
   obtain rfl:=dW h;simp[bS d b,g c]
  .cases h
def Ls(P:Program):PC->Prop
 |.b c=>c=true
 |.nil x=>U4 P x
theorem BV{k:IntKind}:yF k k'=true↔k=k':=by cases k<;>cases k'<;>simp[yF]
theorem Sy{op:BinOp}{k:IntKind}{a b:Int}{r:Bool×Value}(h:YL op k a b=some r)(c:r.1=true)(d:Lw op=false)(t:TypeId)(w:World) :
  (binOp op t (.int k a) (.int k b)).run P w = .ok r.2 w:=by
 cases op<;>simp only[YL,fW,reduceCtorEq]at h<;>subst h<;>simp_all [binOp,Op.intArith,Op.intDiv,Op.intBits,Op.intCmp,Lw,aT,bJ,sK,kV,Hn,yU,Nq,ZX,FT,fU,HF,fE,zV,rY,pV,cO]
theorem OG{op:BinOp}{k:IntKind}{a b:Int}{r:Bool×Value}(h:QU op k a b=some r)(c:r.1=true)(t:TypeId)(w:World) :
  (binOp op t (.int k a) (.int k' b)).run P w = .ok r.2 w:=by
 cases op<;>simp only[QU,fW,reduceCtorEq]at h<;>subst h<;>simp_all [binOp,Op.shift,Hu,wD,cO,fE]<;>intro hb<;>omega
theorem Dt{k k':FloatKind}:yX k k'=true↔k=k':=by cases k<;>cases k'<;>simp[yX]
section
variable{P:Program}{w:World}
variable{i ei:TypeInfo}{v a:Value}{e ft:TypeId}{x y:Operand}{off:Nat}
theorem cE{t:TypeId}{d:TypeDesc}(h:P.underlying t=some d):(underlying t).run P w = .ok d w:=by
 simp[underlying,h]
theorem zD{t:TypeId}(h:P.info? t=some i):(typeInfo t).run P w = .ok i w:=by
 simp[typeInfo,h]
theorem gA{t:TypeId}(h:P.info? t=some i):(sizeOf t).run P w = .ok i.size w:=by
 simp[sizeOf,zD h]
theorem E8{op:BinOp}{c:Bool}(h:GH op c=some v):(op = .eql/\v = .bool c)\/(op = .neq/\v = .bool !c):=by
 cases op<;>simp[GH,cO]at h<;>simp[<-h]
theorem To{op:BinOp}{a b:ByteArray}{r:Bool×Value}(h:ZI op a b=some r)(c:r.1=true)(t:TypeId) :
  (binOp op t (.string a) (.string b)).run P w = .ok r.2 w:=by
 cases op<;>simp only[ZI,fW,reduceCtorEq]at h<;>subst h
 all_goals simp_all [binOp,Op.stringOp,WG,cO,qn,gh]
theorem Sq{op:BinOp}{k:FloatKind}{a b:Nat}(h:Yy op k a b=some v)(t:TypeId) :
  (binOp op t (.float k a) (.float k b)).run P w = .ok v w:=by
 cases op<;>simp only[Yy,fW,reduceCtorEq]at h<;>subst h<;>simp[binOp,Op.floatCmp,wx,xc,x',x_,wz,wy]
theorem WD(d:Nat){t:TypeId}(h:P.underlying t=some .bool)(a b:Bool):(Op.equalIn (d+1) t (.bool a) (.bool b)).run P w = .ok (a == b) w:=by
 simp[Op.equalIn,cE h]
theorem Ug(d:Nat){t:TypeId}(h:P.underlying t=some (.slice e))(p:Option Addr)(n c m k:Nat) :
  (Op.equalIn (d+1) t (.slice p n c) (.slice none m k)).run P w = .ok p.isNone w:=by
 cases p<;>simp[Op.equalIn,cE h]
theorem Yr(d:Nat){t:TypeId}(h:P.underlying t=some (.pointer e))(p:Option Addr) :
  (Op.equalIn (d+1) t (.pointer p) (.pointer none)).run P w = .ok p.isNone w:=by
 cases p<;>simp[Op.equalIn,cE h]
theorem Uf(d:Nat){t:TypeId}{ms:Array (String×TypeId)}(h:P.underlying t=some (.interface ms))(ha:isIface a=true) :
  (Op.equalIn (d+1) t a .nilIface).run P w = .ok (kK a) w:=by
 cases a<;>simp[isIface]at ha<;>simp[Op.equalIn,cE h,kK]
theorem WE(d:Nat){t:TypeId}{x y:Array TypeId}{z:Bool}(h:P.underlying t=some (.func x y z))(ha:P9 a=true) :
  (Op.equalIn (d+1) t a .nilFunc).run P w = .ok (JG a) w:=by
 cases a<;>simp[P9]at ha<;>simp[Op.equalIn,cE h,JG]
def Yq(op:BinOp)(s:Sem Bool):Sem Value:=
 match op with
 |.eql=>do pure (.bool (<-s))
 |_=>do pure (.bool (!(<-s)))
theorem HR{t:TypeId}{b:Value}{c:Bool}(f:∀d,(Op.equalIn (d+1) t a b).run P w = .ok c w)
  (hb:∀op,op = .eql\/op = .neq->binOp op t a b=Yq op (Op.equal t a b))
  {op:BinOp} (h:GH op c=some v):(binOp op t a b).run P w = .ok v w:=by
 have he:(Op.equal t a b).run P w = .ok c w:=f 9999;rcases E8 h with⟨rfl,rfl⟩|⟨rfl,rfl⟩
 .rw[hb _ (.inl rfl)];simp[Yq,he]
 .rw[hb _ (.inr rfl)];simp[Yq,he]
theorem xG{op:BinOp}{t:TypeId}{b:Value}(h1:a = .nilIface->b = .nilIface->∃c,y = .const c)(f:∀cs d,a = .agg cs->b ≠ .agg d) :
  (eqGuard op t x y a b).run P w = .ok () w:=by
 unfold eqGuard;split
 case h_3=>rw[if_pos (by simp)];rfl
 all_goals
  rw[if_neg (by simp)];split
  .obtain⟨c,rfl⟩:=h1 rfl rfl
   simp
  .exact absurd rfl (f _ _ rfl)
  .rfl
theorem RQ{t:TypeId}(ha:isIface a=true)(op:BinOp)(b:op = .eql\/op = .neq) :
  binOp op t a .nilIface=Yq op (Op.equal t a .nilIface):=by
 cases a<;>first|(exact absurd ha Bool.false_ne_true)|(rcases b with rfl|rfl<;>rfl)
theorem TL{t:TypeId}(ha:P9 a=true)(op:BinOp)(b:op = .eql\/op = .neq) :
  binOp op t a .nilFunc=Yq op (Op.equal t a .nilFunc):=by
 cases a<;>first|(exact absurd ha Bool.false_ne_true)|(rcases b with rfl|rfl<;>rfl)
theorem TM{op:BinOp}{t:TypeId}{b:Value}{r:Bool×Value}(h:XK P op t a b=some r)(g:r.1=true) :
  (do eqGuard op t x y a b;binOp op t a b:Sem Value).run P w = .ok r.2 w:=by
 have m:(eqGuard op t x y a b).run P w = .ok () w:=by
  refine xG (λha hb=>?_) (λcs n ha hb=>?_)
  .subst ha hb
   simp[XK]at h
  .subst ha hb
   simp[XK]at h
 simp only[Sem.run_bind,m,Result.andThen_ok];unfold XK at h;split at h
 .rename_i k a k' b
  cases l:Lw op
  .simp only[l,cond_false]at h
   cases c:yF k k'
   .simp[c]at h
   .simp only[c,cond_true]at h
    obtain rfl:=BV.1 c;exact Sy h g l t w
  .simp only[l,cond_true]at h
   exact OG h g t w
 .exact To h g t
 .rename_i k a k' b
  cases c:yX k k'
  .simp[c]at h
  .simp only[c,cond_true]at h
   obtain rfl:=Dt.1 c;obtain⟨v,f,rfl⟩:=mK.1 h;exact Sq f t
 .split at h
  .rename_i hu
   obtain⟨v,f,rfl⟩:=mK.1 h;exact HR (λd=>WD d hu _ _) (λop j=>by rcases j with rfl|rfl<;>rfl) f
  .cases h
 .split at h
  .rename_i hu
   obtain⟨v,f,rfl⟩:=mK.1 h;exact HR (λd=>Ug d hu _ _ _ _ _) (λop j=>by rcases j with rfl|rfl<;>rfl) f
  .cases h
 .cases h
theorem Uy{op:BinOp}{t:TypeId}{r:Bool×Value}(ρ:Operand->Value)(b:∀v,ρ (.const v)=v)(h:me P op t y a=some r)(g:r.1=true) :
  (do eqGuard op t x y a (ρ y);binOp op t a (ρ y):Sem Value).run P w = .ok r.2 w:=by
 unfold me at h;split at h
 .rename_i ms hu
  have c:(eqGuard op t x (.const .nilIface) a (ρ (.const .nilIface))).run P w = .ok () w:=
   xG (λ_ _=>⟨_,rfl⟩) (λcs j ha hb=>by rw[b]at hb;cases hb)
  simp only[Sem.run_bind,c,Result.andThen_ok];obtain⟨v,f,rfl⟩:=mK.1 h;rw[b];exact HR (λd=>Uf d hu g) (RQ g) f
 .rename_i p q z hu
  have c:(eqGuard op t x (.const .nilFunc) a (ρ (.const .nilFunc))).run P w = .ok () w:=
   xG (λ_ hb=>by rw[b]at hb;cases hb) (λcs j ha hb=>by rw[b]at hb;cases hb)
  simp only[Sem.run_bind,c,Result.andThen_ok];obtain⟨v,f,rfl⟩:=mK.1 h;rw[b];exact HR (λd=>WE d hu g) (TL g) f
 .rename_i e hu
  split at h
  .rename_i p
   have c:(eqGuard op t x (.const (.pointer none)) (.pointer p) (ρ (.const (.pointer none)))).run P w = .ok () w:=
    xG (λha hb=>by cases ha) (λcs j ha hb=>by cases ha)
   simp only[Sem.run_bind,c,Result.andThen_ok];obtain⟨v,f,rfl⟩:=mK.1 h;rw[b];exact HR (λd=>Yr d hu _) (λop k=>by rcases k with rfl|rfl<;>rfl) f
  .cases h
 .cases h
theorem Xm{op:UnOp}{x:Value}(h:wb op x=some v):(Op.unary op x).run P w = .ok v w:=by
 unfold wb at h;split at h<;>first|(obtain rfl:=dW h)|cases h
 .rfl
 .rfl
 .rfl
theorem R2{s d:TypeId}{x:Value}(h:Yh P s d x=some v):(convert s d x).run P w = .ok v w:=by
 unfold Yh at h;split at h
 .rename_i sd k k' n b c
  obtain rfl:=dW h;simp only[convert,Sem.run_bind,cE b,cE c,Result.andThen_ok];cases sd<;>rfl
 .rename_i sd k k' n b c
  obtain rfl:=dW h;simp only[convert,Sem.run_bind,cE b,cE c,Result.andThen_ok];cases sd<;>rfl
 .rename_i sd s b c
  obtain rfl:=dW h;simp only[convert,Sem.run_bind,cE b,cE c,Result.andThen_ok];cases sd<;>rfl
 .cases h
theorem nF(a:Addr):(Instr.sureAddr (.pointer (some a))).run P w = .ok a w:=rfl
theorem Fa{t:TypeId}{n:Nat}(h:E9 P t n=some (ft,off)) :
  ∃(fs:Array Field) (fd:Field) (i:TypeInfo),P.underlying t=some (.struct fs)/\fs[n]?=some fd/\P.info? fd.type=some i/\i.size≠0/\ft=fd.type/\off=fd.offset:=by
 unfold E9 at h;split at h
 .rename_i fs hu
  split at h
  .rename_i fd c
   split at h
   .rename_i i hi
    cases b:Nat.beq i.size 0
    .simp only[b,cond_false,fW,oL]at h
     exact⟨fs,fd,i,hu,c,hi,λe=>by rw[e]at b;simp at b,h.1.symm,h.2.symm⟩
    .simp[b]at h
   .cases h
  .cases h
 .cases h
theorem Oh{t:TypeId}{n:Nat}(h:E9 P t n=some (ft,off))(p:Option Addr)(c:p.isSome=true) :
  (Instr.fieldAt t (.pointer p) n).run P w = .ok (.pointer (aB p off)) w:=by
 obtain⟨fs,fd,i,hu,b,hi,d,rfl,rfl⟩:=Fa h;obtain⟨a,rfl⟩:=Ci.1 c;simp[Instr.fieldAt,cE hu,b,nF,fieldPlace,gA hi,d,aB]
theorem P5{j:Int}{n:Nat}:eV j n=true↔0<=j/\j<n:=by simp[eV]
theorem da{j:Int}{n:Nat}:wK j n=true↔0<=j/\j<=n:=by simp[wK]
theorem Ol{t:TypeId}(hu:P.underlying t=some (.slice e))(hi:P.info? e=some ei)(p:Option Addr)(n c:Nat)(k:IntKind)(j:Int)
  (b:(p.isSome && eV j n)=true):(Instr.indexAt t (.slice p n c) (.int k j)).run P w = .ok (.pointer (aB p (j.toNat*ei.size))) w:=by
 simp only[hP,P5]at b;obtain⟨f,h0,d⟩:=b;obtain⟨a,rfl⟩:=Ci.1 f;simp[Instr.indexAt,asIntOf,cE hu,h0,d,gA hi,aB]
theorem Oj{t:TypeId}{n:Nat}(hu:P.underlying t=some (.array n e))(hi:P.info? e=some ei)(p:Option Addr)(k:IntKind)(j:Int)
  (b:(p.isSome && eV j n)=true):(Instr.indexAt t (.pointer p) (.int k j)).run P w = .ok (.pointer (aB p (j.toNat*ei.size))) w:=by
 simp only[hP,P5]at b;obtain⟨d,h0,c⟩:=b;obtain⟨a,rfl⟩:=Ci.1 d;simp[Instr.indexAt,asIntOf,cE hu,h0,c,gA hi,aB,nF]
theorem P6{t:TypeId}(hu:P.underlying t=some .string)(s:ByteArray)(k:IntKind)(j:Int)(c:eV j s.size=true) :
  (Instr.index t (.string s) (.int k j)).run P w = .ok (.int .u8 (Mm s j)) w:=by
 obtain⟨h0,d⟩:=P5.1 c;have b:j.toNat<s.size:=by omega
 have e:s[j.toNat]?=some (s.data.toList.getD j.toNat 0):=by
  rw[getElem?_pos s j.toNat b];have:j.toNat<s.data.toList.length:=by simpa using b
  simp[List.getD,cM this];rfl
 simp[Instr.index,asIntOf,cE hu,h0,e,Mm]
end
end
end Go.Sw
