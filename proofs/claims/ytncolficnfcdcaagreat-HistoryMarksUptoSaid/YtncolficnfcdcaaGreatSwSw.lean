
/- Steps. -/
import Derived.Test.YtncolficnfcdcaaGreatSwCore
set_option linter.unusedVariables false
set_option linter.unusedSimpArgs false
namespace Go.Sw
section
def aR(b:Bool)(X Y:aK):aK:=bif b then X else Y
def bF(c:Bool)(K:aK):aK:=bif c then K else .fail
def eV(j:Int)(n:Nat):Bool:=decide (0<=j) && decide (j<(n:Int))
def wY(j:Int)(n:Nat):Bool:=decide (0<=j) && decide (j<=(n:Int))
def bN(a b:Bool):Bool:=a && b
def cU(a:Bool):Bool:=!a
def Zg(a b:Bool):Bool:=a == b
def jL(a b:Nat):Bool:=Nat.beq a b
def aJ(p:Option Addr):Bool:=p.isSome
def fO(p:Option Addr):Bool:=p.isNone
def aB(p:Option Addr)(n:Nat):Option Addr:=p.map (·.add n)
def bK(p:Option Addr)(m l size:Nat):Option Addr:=if m=l then p else p.map (·.add (l*size))
def DC(s:ByteArray)(j:Int):Int:=((s.data.toList.getD j.toNat 0).toNat:Int)
def aT(k:IntKind)(a b:Int):Int:=k.wrap (a+b)
def bJ(k:IntKind)(a b:Int):Int:=k.wrap (a-b)
def qV(k:IntKind)(a b:Int):Int:=k.wrap (a*b)
def kP(k:IntKind)(a b:Int):Int:=k.wrap (a.tdiv b)
def HL(_k:IntKind)(a b:Int):Int:=a.tmod b
def uU(k:IntKind)(a b:Int):Int:=k.wrap (BitVec.ofInt k.bits a &&& BitVec.ofInt k.bits b).toNat
def NX(k:IntKind)(a b:Int):Int:=k.wrap (BitVec.ofInt k.bits a ||| BitVec.ofInt k.bits b).toNat
def dv(k:IntKind)(a b:Int):Int:=k.wrap (BitVec.ofInt k.bits a ^^^ BitVec.ofInt k.bits b).toNat
def Ga(k:IntKind)(a b:Int):Int:=k.wrap (BitVec.ofInt k.bits a &&& ~~~BitVec.ofInt k.bits b).toNat
def yv(k:IntKind)(a:Int):Int:=k.wrap (BitVec.ofInt k.bits (if k.signed then -1 else k.max) ^^^ BitVec.ofInt k.bits a).toNat
def GO(k:IntKind)(a b:Int):Int:=k.wrap (a*2^min b.toNat k.bits)
def wQ(k:IntKind)(a b:Int):Int:=a.fdiv (2^min b.toNat k.bits)
def dC(k:IntKind)(a:Int):Int:=k.wrap a
def gM(a b:Int):Bool:=a == b
def HD(a b:Int):Bool:=a != b
def fH(a b:Int):Bool:=a<b
def xY(a b:Int):Bool:=a<=b
def sP(a b:Int):Bool:=a > b
def qG(a b:Int):Bool:=a≥b
def aQ(n:Nat):Int:=(n:Int)
def bQ(a:Int):Nat:=a.toNat
def cY(a b:Nat):Nat:=a-b
def aZ(a b:Nat):Nat:=a*b
def NQ(a b:Int):Int:=if b<a then b else a
def Df(a b:Int):Int:=if b > a then b else a
def Xt(a b:ByteArray):Bool:=a.toList == b.toList
def v8(a b:ByteArray):ByteArray:=a++b
def kh(a b:ByteArray):Bool:=decide (((a.size+b.size:Nat):Int)<=IntKind.i64.max)
def Ln(a:ByteArray):Nat:=a.size
def wc(a:ByteArray)(l h:Nat):ByteArray:=a.extract l h
def lF(v:Value):Bool:=match v with|.nilIface=>true|_=>false
def isIface(v:Value):Bool:=match v with|.nilIface=>true|.iface _ _=>true|_=>false
def Ka(v:Value):Bool:=match v with|.nilFunc=>true|_=>false
def QI(v:Value):Bool:=match v with|.nilFunc=>true|.func _ _ _=>true|_=>false
def S8(v:Value):Bool:=flat v
def eqF(k:FloatKind)(a b:Nat):Bool:=k.format.order a b == some .eq
def neF(k:FloatKind)(a b:Nat):Bool:=k.format.order a b != some .eq
def ltF(k:FloatKind)(a b:Nat):Bool:=k.format.order a b == some .lt
def leF(k:FloatKind)(a b:Nat):Bool:=k.format.order a b == some .lt || k.format.order a b == some .eq
def gtF(k:FloatKind)(a b:Nat):Bool:=k.format.order a b == some .gt
def geF(k:FloatKind)(a b:Nat):Bool:=k.format.order a b == some .gt || k.format.order a b == some .eq
def vh(k:FloatKind)(a b:Nat):Option Nat:=k.format.add a b
def y_(k:FloatKind)(a b:Nat):Option Nat:=k.format.sub a b
def xe(k:FloatKind)(a b:Nat):Option Nat:=k.format.mul a b
def xl(k:FloatKind)(a b:Nat):Option Nat:=k.format.div a b
def y5(k:FloatKind)(a:Int):Nat:=k.nearest a
abbrev Fr:=List (Nat×Value)
def Fr.get:Fr->Nat->Option Value
 |[],_=>none
 | (k,v)::r,n=>bif Nat.beq k n then some v else Fr.get r n
def Fr.put(f:Fr)(d:Option Nat)(v:Value):Fr:=
 match d with
 |some d=>(d,v)::f
 |none=>f
def Fr.only(f:Fr):List Nat->Fr
 |[]=>[]
 | k::ks=>match f.get k with
  |some v=>(k,v)::Fr.only f ks
  |none=>Fr.only f ks
def Fr.NV(f:Fr):List Nat->(Fr->aK)->aK
 |[],K=>K []
 | k::ks,K=>match f.get k with
  |some v=>Fr.NV f ks λr=>K ((k,v)::r)
  |none=>Fr.NV f ks K
def mem(n:Nat):List Nat->Bool
 |[]=>false
 |k::r=>bif Nat.beq k n then true else mem n r
def ev(f:Fr):Operand->Option Value
 |.tmp t=>f.get t
 |.const v=>some v
 |.global g=>some (.pointer (some ⟨g,0,none⟩))
 |.func i=>some (.func (.func i) #[] #[])
def Sj(f:Fr):List Operand->Option (List Value)
 |[]=>some []
 | x::xs=>match ev f x,Sj f xs with
  |some v,some vs=>some (v::vs)
  |_,_=>none
def bx:Value->B
 |.int k _=>.int k
 |.bool _=>.bool
 |.string _=>.str
 |.slice _ _ _=>.sl
 |.pointer _=>.ptr
 |.map _=>.map
 |.float k _=>.Yp k
 |_=>.any
def Lw:Option TypeDesc->Option Bool
 |some (.struct _)=>some true
 |some (.array _ _)=>some true
 |some _=>some false
 |none=>none
def Yc(P:Program)(t:TypeId):Option Ty:=
 match P.info? t with
 | some i=>match Lw (P.underlying t),i.zero with
  |some true,some (.agg cs)=>bif Nat.beq cs.toList.length i.size then some (.agg (cs.toList.map bx)) else none
  |some false,some v=>bif Nat.beq i.size 1 then some (.one (bx v)) else none
  |_,_=>none
 |none=>none
def cz(P:Program):List TypeId->Option (List Ty)
 |[]=>some []
 | t::ts=>match Yc P t,cz P ts with
  |some x,some xs=>some (x::xs)
  |_,_=>none
def ai(P:Program)(t:TypeId):Option (List Ty):=
 match P.underlying t with
 |some (.tuple ts)=>cz P ts.toList
 |_=>cz P [t]
def cellsOf(P:Program)(t:TypeId)(v:Value):Option (Bool×List Value):=
 match P.info? t with
 | some i=>match Lw (P.underlying t) with
  | some true=>match v with
   |.agg cs=>bif Nat.beq cs.toList.length i.size then some (true,cs.toList) else none
   |_=>none
  |some false=>bif Nat.beq i.size 1 then some (S8 v,[v]) else none
  |none=>none
 |none=>none
def zeroOf(P:Program)(t:TypeId):Option (List Value):=
 match P.info? t with
 | some i=>match i.zero with
  |some (.agg cs)=>some cs.toList
  |some v=>some [v]
  |none=>none
 |none=>none
inductive PC where
 |b (c:Bool)
 |nil (x:Value)
def rk(c:PC)(K:aK):aK:=
 match c with
 |.b c=>bF c K
 |.nil x=>.TH x K
def ZD(op:BinOp)(k:IntKind)(a b:Int):Option (Bool×Value):=
 match op with
 |.add=>some (true, .int k (aT k a b))
 |.sub=>some (true, .int k (bJ k a b))
 |.mul=>some (true, .int k (qV k a b))
 |.quo=>some (cU (gM b 0), .int k (kP k a b))
 |.rem=>some (cU (gM b 0), .int k (HL k a b))
 |.and=>some (true, .int k (uU k a b))
 |.or=>some (true, .int k (NX k a b))
 |.xor=>some (true, .int k (dv k a b))
 |.andNot=>some (true, .int k (Ga k a b))
 |.eql=>some (true, .bool (gM a b))
 |.neq=>some (true, .bool (HD a b))
 |.lss=>some (true, .bool (fH a b))
 |.leq=>some (true, .bool (xY a b))
 |.gtr=>some (true, .bool (sP a b))
 |.geq=>some (true, .bool (qG a b))
 |_=>none
def Rt(op:BinOp)(k:IntKind)(a b:Int):Option (Bool×Value):=
 match op with
 |.shl=>some (cU (fH b 0), .int k (GO k a b))
 |.shr=>some (cU (fH b 0), .int k (wQ k a b))
 |_=>none
def LZ:BinOp->Bool
 |.shl=>true
 |.shr=>true
 |_=>false
def yV:IntKind->IntKind->Bool
 |.i8, .i8|.i16, .i16|.i32, .i32|.i64, .i64|.u8, .u8|.u16, .u16|.u32, .u32|.u64, .u64=>true
 |_,_=>false
def G5(op:BinOp)(c:Bool):Option Value:=
 match op with
 |.eql=>some (.bool c)
 |.neq=>some (.bool (cU c))
 |_=>none
def c_(op:BinOp)(a b:ByteArray):Option (Bool×Value):=
 match op with
 |.eql=>some (true, .bool (Xt a b))
 |.neq=>some (true, .bool (cU (Xt a b)))
 |.add=>some (kh a b, .string (v8 a b))
 |_=>none
def Zq(op:BinOp)(k:FloatKind)(a b:Nat):Option Value:=
 match op with
 |.eql=>some (.bool (eqF k a b))
 |.neq=>some (.bool (neF k a b))
 |.lss=>some (.bool (ltF k a b))
 |.leq=>some (.bool (leF k a b))
 |.gtr=>some (.bool (gtF k a b))
 |.geq=>some (.bool (geF k a b))
 |_=>none
def zM:FloatKind->FloatKind->Bool
 |.f32, .f32|.f64, .f64=>true
 |_,_=>false
def YB(P:Program)(op:BinOp)(t:TypeId)(a b:Value):Option (Bool×Value):=
 match a,b with
 |.int k a, .int k' b=>bif LZ op then Rt op k a b else bif yV k k' then ZD op k a b else none
 |.string a, .string b=>c_ op a b
 |.float k a, .float k' b=>bif zM k k' then (Zq op k a b).map (true, ·) else none
 | .bool a, .bool b=>match P.underlying t with
  |some .bool=>(G5 op (Zg a b)).map (true, ·)
  |_=>none
 | .slice p _ _, .slice none _ _=>match P.underlying t with
  |some (.slice _)=>(G5 op (fO p)).map (true, ·)
  |_=>none
 |_,_=>none
def sx(P:Program)(op:BinOp)(t:TypeId)(y:Operand)(a:Value):Option (Bool×Value):=
 match y,P.underlying t with
 |.const .nilIface,some (.interface _)=>(G5 op (lF a)).map (isIface a, ·)
 |.const .nilFunc,some (.func _ _ _)=>(G5 op (Ka a)).map (QI a, ·)
 | .const (.pointer none),some (.pointer _)=>match a with
  |.pointer p=>(G5 op (fO p)).map (true, ·)
  |_=>none
 |_,_=>none
def Wg(y:Operand):Bool:=
 match y with
 |.const .nilIface=>true
 |.const .nilFunc=>true
 |.const (.pointer none)=>true
 |_=>false
def zt(op:UnOp)(x:Value):Option Value:=
 match op,x with
 |.not, .bool b=>some (.bool (cU b))
 |.neg, .int k n=>some (.int k (bJ k 0 n))
 |.xor, .int k n=>some (.int k (yv k n))
 |_,_=>none
def Y7(P:Program)(s d:TypeId)(x:Value):Option Value:=
 match P.underlying s,P.underlying d,x with
 |some _,some (.int k), .int _ n=>some (.int k (dC k n))
 |some _,some (.float k), .int _ n=>some (.float k (y5 k n))
 |some _,some .string, .string s=>some (.string s)
 |_,_,_=>none
def Fx(P:Program)(t:TypeId)(n:Nat):Option (TypeId×Nat):=
 match P.underlying t with
 | some (.struct fs)=>match fs[n]? with
  | some f=>match P.info? f.type with
   |some i=>bif Nat.beq i.size 0 then none else some (f.type,f.offset)
   |none=>none
  |none=>none
 |_=>none
def Jk(P:Program)(t:TypeId)(cs:Array Value)(off:Nat):Option Value:=
 match P.info? t with
 | some i=>match Lw (P.underlying t) with
  |some true=>some (.agg (cs.extract off (off+i.size)))
  |some false=>cs[off]?
  |none=>none
 |none=>none
def HI(f:Fr):Option Operand->Option (Option Int)
 |none=>some none
 | some x=>match ev f x with
  |some (.int _ n)=>some (some n)
  |_=>none
def bounds(len cap:Nat)(lo hi mx:Option Int):Option (Bool×Nat×Nat×Nat):=
 match mx,hi with
 | none,none=>match lo with
  |none=>some (true,0,len,cap)
  |some l=>some (wY l len,bQ l,len,cap)
 | none,some h=>match lo with
  |none=>some (wY h cap,0,bQ h,cap)
  |some l=>some (bN (wY h cap) (wY l (bQ h)),bQ l,bQ h,cap)
 | some m,some h=>match lo with
  |none=>some (bN (wY m cap) (wY h (bQ m)),0,bQ h,bQ m)
  |some l=>some (bN (wY m cap) (bN (wY h (bQ m)) (wY l (bQ h))),bQ l,bQ h,bQ m)
 |some _,none=>none
def MX(P:Program)(t:TypeId)(a b:Value):Option Bool:=
 match P.underlying t,a,b with
 |some (.int _), .int k a, .int k' b=>bif yV k k' then some (gM a b) else none
 |some .string, .string a, .string b=>some (Xt a b)
 |some .bool, .bool a, .bool b=>some (Zg a b)
 |_,_,_=>none
def IU(P:Program)(xs ys:Array Value):List Field->Option Bool
 |[]=>some true
 |f::fs=>bif f.name == "_" then none else
  match Jk P f.type xs f.offset,Jk P f.type ys f.offset with
  | some a,some b=>match MX P f.type a b,IU P xs ys fs with
   | some c,some r=>match fs with
    |[]=>some c
    |_::_=>some (bN c r)
   |_,_=>none
  |_,_=>none
def Vf(P:Program)(e:TypeId)(xs ys:Array Value):Option Bool:=
 match P.info? e with
 | some i=>match Jk P e xs (Nat.mul 0 i.size),Jk P e ys (Nat.mul 0 i.size),Jk P e xs (Nat.mul 1 i.size),Jk P e ys (Nat.mul 1 i.size) with
  | some a,some b,some c,some d=>match MX P e a b,MX P e c d with
   |some x,some y=>some (bN x y)
   |_,_=>none
  |_,_,_,_=>none
 |none=>none
def structEq(P:Program)(op:BinOp)(t:TypeId)(xs ys:Array Value):Option Value:=
 match P.underlying t with
 | some (.array n e)=>bif !Nat.beq n 2 || P.eqGuardType P.depth t then none else
  match Vf P e xs ys with
  |some c=>G5 op c
  |none=>none
 | some (.struct fs)=>bif P.stoodInHeld t || P.eqGuardType P.depth t then none else
  match IU P xs ys fs.toList with
  |some c=>G5 op c
  |none=>none
 |_=>none
def Nh(P:Program)(place:Nat->Option (Nat×TypeId)):List (Nat×Value)->Bool->List Value->Option (Bool×List Value)
 |[],c,cells=>some (c,cells)
 | (i,v)::rest,c,cells=>match place i with
  |none=>none
  | some (off,t)=>match cellsOf P t v with
   |none=>none
   | some (c',vs)=>bif Nat.ble (off+vs.length) cells.length then
     Nh P place rest (bN c c') (cells.take off++vs++cells.drop (off+vs.length)) else none
def KC(f:Fr):List (Nat×Operand)->Option (List (Nat×Value))
 |[]=>some []
 | (i,x)::r=>match ev f x,KC f r with
  |some v,some vs=>some ((i,v)::vs)
  |_,_=>none
def K7(fs:Array Field)(i:Nat):Option (Nat×TypeId):=(fs[i]?).map λf=>(f.offset,f.type)
def XI(mx:Bool):Value->List Value->Option Value
 |v,[]=>some v
 |.int k x, .int k' y::r=>bif yV k k' then XI mx (.int k (bif mx then Df x y else NQ x y)) r else none
 |_,_=>none
def Tf(P:Program)(t:TypeId):Bool:=
 match P.underlying t with
 |some (.func _ _ _)=>true
 |some (.interface _)=>true
 |_=>false
def Rk(P:Program)(f:Fr)(ty:TypeId):Op->Option (PC×Value)
 |.move x=>(ev f x).map λv=>(.b true,v)
 |.assign x=>(ev f x).map λv=>(.b true,v)
 | .nilCheck x=>bif Tf P ty then (ev f x).map λv=>(.nil v,v) else
  match ev f x with
  |some (.pointer p)=>some (.b (aJ p), .pointer p)
  |_=>none
 | .binOp op t x y _=>bif Wg y then
   match ev f x with
   |some a=>(sx P op t y a).map λr=>(.b r.1,r.2)
   |none=>none
  else match ev f x,ev f y with
  | some a,some b=>match a,b with
   |.agg xs, .agg ys=>(structEq P op t xs ys).map λv=>(.b true,v)
   |a,b=>(YB P op t a b).map λr=>(.b r.1,r.2)
  |_,_=>none
 | .unOp op _ x=>match ev f x with
  |some v=>(zt op v).map λr=>(.b true,r)
  |none=>none
 | .convert s d x=>match ev f x with
  |some v=>(Y7 P s d v).map λr=>(.b true,r)
  |none=>none
 | .fieldAddr t x n=>match ev f x,Fx P t n with
  |some (.pointer p),some (_,off)=>some (.b (aJ p), .pointer (aB p off))
  |_,_=>none
 | .field t x n=>match ev f x,Fx P t n with
  |some (.agg cs),some (ft,off)=>(Jk P ft cs off).map λv=>(.b true,v)
  |_,_=>none
 | .indexAddr t x i=>match P.underlying t,ev f x,ev f i with
  | some (.slice e),some (.slice p n _),some (.int _ j)=>match P.info? e with
   |some ei=>some (.b (bN (aJ p) (eV j n)), .pointer (aB p (aZ (bQ j) ei.size)))
   |none=>none
  | some (.array n e),some (.pointer p),some (.int _ j)=>match P.info? e with
   |some ei=>some (.b (bN (aJ p) (eV j n)), .pointer (aB p (aZ (bQ j) ei.size)))
   |none=>none
  |_,_,_=>none
 | .index t x i=>match P.underlying t,ev f x,ev f i with
  |some .string,some (.string s),some (.int _ j)=>some (.b (eV j (Ln s)), .int .u8 (DC s j))
  |_,_,_=>none
 | .extract x n=>match ev f x with
  |some (.tuple vs)=>(vs.toList[n]?).map λv=>(.b true,v)
  |_=>none
 | .slice t x lo hi mx=>match P.underlying t,ev f x,HI f lo,HI f hi,HI f mx with
  | some (.slice e),some (.slice p len cap),some lo,some hi,some mx=>match P.info? e,bounds len cap lo hi mx with
   |some ei,some (c,l,h,m)=>some (.b c, .slice (bK p m l ei.size) (cY h l) (cY m l))
   |_,_=>none
  | some (.array n e),some (.pointer p),some lo,some hi,some mx=>match P.info? e,bounds n n lo hi mx with
   |some ei,some (c,l,h,m)=>some (.b (bN (aJ p) c), .slice (bK p m l ei.size) (cY h l) (cY m l))
   |_,_=>none
  | some .string,some (.string s),some lo,some hi,some none=>match bounds (Ln s) (Ln s) lo hi none with
   |some (c,l,h,_)=>some (.b c, .string (wc s l h))
   |none=>none
  |_,_,_,_,_=>none
 | .build t parts=>match KC f parts.toList,zeroOf P t,P.underlying t with
  | some vs,some z,some (.struct fs)=>bif fs.toList.all (λfd=>(P.info? fd.type).isSome) then
    (Nh P (K7 fs) vs true z).map λr=>(.b r.1, .agg r.2.toArray) else none
  | some vs,some z,some (.array _ e)=>match P.info? e with
   |some ei=>(Nh P (λi=>some (i*ei.size,e)) vs true z).map λr=>(.b r.1, .agg r.2.toArray)
   |none=>none
  |_,_,_=>none
 | .makeInterface t x=>match ev f x,P.underlying t with
  |some _,some (.interface _)=>none
  |some v,some _=>some (.b true, .iface t v)
  |_,_=>none
 | .makeFunc fn first captured=>match Sj f first.toList,Sj f captured.toList with
  |some a,some b=>some (.b true, .func fn a.toArray b.toArray)
  |_,_=>none
 | .call c=>match c.callee,Sj f c.args.toList,c.argTypes[0]? with
  | .builtin .len,some [.slice _ n _],some t=>match P.underlying t with
   |some (.slice _)=>some (.b true, .int .i64 (aQ n))
   |_=>none
  | .builtin .len,some [.string s],some t=>match P.underlying t with
   |some .string=>some (.b true, .int .i64 (aQ (Ln s)))
   |_=>none
  | .builtin .cap,some [.slice _ _ n],some t=>match P.underlying t with
   |some (.slice _)=>some (.b true, .int .i64 (aQ n))
   |_=>none
  |.builtin .min,some (v::vs),_=>(XI false v vs).map λr=>(.b true,r)
  |.builtin .max,some (v::vs),_=>(XI true v vs).map λr=>(.b true,r)
  |_,_,_=>none
 |_=>none
inductive Kind where
 |pure|load|SX
def PQ(P:Program)(s d:TypeId):Bool:=
 match P.underlying s,P.underlying d with
 |some (.slice _),some .string=>true
 |_,_=>false
def mapArg(P:Program):List TypeId->Bool
 | t::_=>match P.underlying t with
  |some (.map _ _)=>true
  |_=>false
 |[]=>false
def rM(P:Program)(t:TypeId):Bool:=
 match P.underlying t with
 | some (.map k e)=>match P.underlying k,P.info? e with
  | some (.int .i64),some i=>match i.zero with
   |some (.int .i64 z)=>Nat.beq z.natAbs 0
   |_=>false
  |_,_=>false
 |_=>false
def lN(P:Program):Op->Kind
 |.load _ _=>.load
 |.convert s d _=>bif PQ P s d then .load else .pure
 |.move _|.assign _|.pick _ _ _|.nilCheck _|.binOp _ _ _ _ _|.unOp _ _ _|.fieldAddr _ _ _|.field _ _ _
 |.indexAddr _ _ _|.index _ _ _|.extract _ _|.slice _ _ _ _ _|.build _ _|.makeInterface _ _|.makeFunc _ _ _=>.pure
 | .call c=>match c.callee with
  |.builtin .len=>bif mapArg P c.argTypes.toList then .SX else .pure
  |.builtin .cap|.builtin .min|.builtin .max=>.pure
  |_=>.SX
 |_=>.SX
abbrev Ctx:=FuncId->List Value->Option (aK×List Ty)
def elemOf(P:Program)(t:TypeId):Option (TypeId×Nat×Nat×List Value):=
 match P.underlying t with
 | some (.slice e)=>match P.info? e,zeroOf P e with
  |some i,some z=>bif Nat.beq z.length i.size then some (e,i.size,i.bytes,z) else none
  |_,_=>none
 |_=>none
def Vc(P:Program)(t:TypeId)(name:String):Option FuncId:=
 match P.info? t with
 | some i=>match i.methods.toList.find? (λm=>m.name == name) with
  | some m=>match m.path.toList,m.func,P.underlying t with
   |[],some (f,true),some (.pointer _)=>some f
   |[],some (_,false),some (.pointer _)=>none
   |[],some (f,false),some _=>some f
   |_,_,_=>none
  |none=>none
 |none=>none
def isAny(pX:List Nat):Operand->Bool
 |.tmp t=>mem t pX
 |_=>false
def SY(P:Program)(Γ:Ctx)(pX:List Nat)(dr:Bool)(o:Oper)(f:Fr)(K:Fr->aK):aK:=
 match o.op with
 | .pick c x y=>match ev f c with
  | some (.bool b)=>aR b (match ev f x with|some v=>K (f.put o.dst v)|none=>.fail)
    (match ev f y with|some v=>K (f.put o.dst v)|none=>.fail)
  |_=>.fail
 | .load t a=>match ev f a,Yc P t with
  |some (.pointer p),some ty=>.load ty p λx=>K (f.put o.dst (ty.inj x))
  |_,_=>.fail
 | .store t a v=>match ev f a,ev f v with
  | some (.pointer p),some v=>match cellsOf P t v with
   |some (c,vs)=>bF c (.store p vs (K (f.put o.dst undef)))
   |none=>.fail
  |_,_=>.fail
 | .alloc t=>match zeroOf P t with
  |some z=>.alloc z λa=>K (f.put o.dst (.pointer (some a)))
  |none=>.fail
 | .box t x=>match ev f x with
  | some v=>match cellsOf P t v with
   |some (c,vs)=>bF c (.alloc vs λa=>K (f.put o.dst (.pointer (some a))))
   |none=>.fail
  |none=>.fail
 | .buildSlice t n parts=>match elemOf P t,KC f parts.toList with
  | some (e,size,_,z),some vs=>bif Nat.ble (n*size) 1000000 then
    (match Nh P (λi=>some (i*size,e)) vs true (jP z n) with
    |some (c,cells)=>bF c (.alloc cells λa=>K (f.put o.dst (.slice (some a) n n)))
    |none=>.fail) else .fail
  |_,_=>.fail
 | .makeSlice t l c=>match elemOf P t,ev f l,ev f c with
  |some (_,_,bytes,z),some (.int .i64 l),some (.int .i64 c)=>.mk bytes z l c λr=>K (f.put o.dst (.slice r.aD r.len r.cap))
  |_,_,_=>.fail
 | .convert s d x=>match P.underlying s,P.underlying d,ev f x with
  | some (.slice e),some .string,some (.slice p n c)=>match P.underlying e with
   |some (.int .u8)=>.bytes ⟨p,n,c⟩ λr=>K (f.put o.dst (.string r))
   |_=>.fail
  |_,_,_=>.fail
 | .binOp op s x y _=>match ev f x,ev f y with
  | some (.float k a),some (.float k' b)=>bif zM k k' then
    (match op with
    |.add=>.Yp (vh k a b) λr=>K (f.put o.dst (.float k r))
    |.sub=>.Yp (y_ k a b) λr=>K (f.put o.dst (.float k r))
    |.mul=>.Yp (xe k a b) λr=>K (f.put o.dst (.float k r))
    |.quo=>.Yp (xl k a b) λr=>K (f.put o.dst (.float k r))
    |_=>.fail) else .fail
  | some (.pointer p),some (.pointer q)=>bif dr then .fail else
    match P.underlying s with
    | some (.pointer e)=>match P.info? e with
     | some i=>bif Nat.beq i.size 0 then .fail else
       (match op with
       |.eql=>.v_ p q λb=>K (f.put o.dst (.bool b))
       |.neq=>.v_ p q λb=>K (f.put o.dst (.bool (cU b)))
       |_=>.fail)
     |none=>.fail
    |_=>.fail
  |_,_=>.fail
 | .call c=>match c.callee with
  | .builtin .append=>match Sj f c.args.toList,c.argTypes.toList with
   | some [.slice p n m, .slice p' n' m'],[t,t']=>match elemOf P t,elemOf P t' with
    |some (_,size,bytes,z),some _=>.append size bytes z ⟨p,n,m⟩ ⟨p',n',m'⟩ λr=>K (f.put o.dst (.slice r.aD r.len r.cap))
    |_,_=>.fail
   |_,_=>.fail
  | .builtin .copy=>match Sj f c.args.toList,c.argTypes.toList with
   | some [.slice p n m, .slice p' n' m'],t::_=>match elemOf P t with
    |some (_,size,_,_)=>.copy size ⟨p,n,m⟩ ⟨p',n',m'⟩ λr=>K (f.put o.dst (.int .i64 (aQ r)))
    |none=>.fail
   |_,_=>.fail
  | .builtin .len=>match Sj f c.args.toList,mapArg P c.argTypes.toList with
   |some [.map r],true=>.ZU r λn=>K (f.put o.dst (.int .i64 (aQ n)))
   |_,_=>.fail
  | .builtin .clear=>match Sj f c.args.toList,c.argTypes.toList with
   | some [.slice p n m],t::_=>match elemOf P t with
    |some (_,_,_,z)=>.clear z ⟨p,n,m⟩ (K (f.put o.dst (.tuple #[])))
    |none=>.fail
   |_,_=>.fail
  |.builtin _=>.fail
  | .value g=>bif isAny pX g then
    match ev f g,Sj f c.args.toList,ai P o.type with
    |some v,some args,some tys=>.kC v args tys λx=>K (f.put o.dst (Bv (Ts.inj tys x)))
    |_,_,_=>.fail
   else match ev f g,Sj f c.args.toList with
   | some (.func (.func i) first cap),some args=>match Γ i (first.toList++args++cap.toList) with
    |some (m,tys)=>.call m tys λx=>K (f.put o.dst (Bv (Ts.inj tys x)))
    |none=>.fail
   |_,_=>.fail
  | .invoke r name=>bif isAny pX r then
    match ev f r,Sj f c.args.toList,ai P o.type with
    |some v,some args,some tys=>.invoke v name args tys λx=>K (f.put o.dst (Bv (Ts.inj tys x)))
    |_,_,_=>.fail
   else match ev f r,Sj f c.args.toList with
   | some (.iface t v),some args=>match Vc P t name with
    | some i=>match Γ i (v::args) with
     |some (m,tys)=>.call m tys λx=>K (f.put o.dst (Bv (Ts.inj tys x)))
     |none=>.fail
    |none=>.fail
   |_,_=>.fail
 | .makeMap _ r=>match r with
  |none=>.PG λr=>K (f.put o.dst (.map (some r)))
  |some _=>.fail
 | .lookup t x i ok=>match ev f x,ev f i with
  | some (.map r),some (.int .i64 k)=>bif rM P t then
    .ZO r k λv b=>K (f.put o.dst (bif ok then .tuple #[.int .i64 v, .bool b] else .int .i64 v)) else .fail
  |_,_=>.fail
 | .mapUpdate t m k x=>match ev f m,ev f k,ev f x with
  |some (.map r),some (.int .i64 k),some (.int .i64 v)=>bif rM P t then .Re r k v (K (f.put o.dst undef)) else .fail
  |_,_,_=>.fail
 | .range t x=>match ev f x with
  |some (.map r)=>bif rM P t then .Ja r λa=>K (f.put o.dst (.pointer (some a))) else .fail
  |_=>.fail
 | .entry it=>match ev f it with
  |some (.pointer p)=>.DT p λk v=>K (f.put o.dst (.tuple #[.int .i64 k, .int .i64 v]))
  |_=>.fail
 | .next it st=>bif st then .fail else match ev f it with
  |some (.pointer p)=>.Jc p (λk v=>K (f.put o.dst (.tuple #[.bool true, .int .i64 k, .int .i64 v]))) (K (f.put o.dst (.tuple #[.bool false])))
  |_=>.fail
 |_=>.fail
def Vt(P:Program)(Γ:Ctx)(pX:List Nat)(dr:Bool)(o:Oper)(f:Fr)(K:Fr->aK):aK:=
 match Rk P f o.type o.op with
 |some (c,v)=>rk c (K (f.put o.dst v))
 |none=>SY P Γ pX dr o f K
inductive yj where
 |mem (p:Option Addr) (vs:List Value)
 |bytes (x:Sl) (s:ByteArray)
abbrev Entry:=Nat×yj
def DF:List Entry->aK->aK
 |[],K=>K
 | (_, .mem p vs)::js,K=>.check p vs (DF js K)
 | (_, .bytes x s)::js,K=>.bytes x λr=>bF (Xt r s) (DF js K)
def Gg(P:Program)(i:Nat)(o:Oper)(f f':Fr):Entry:=
 match o.dst,o.op with
 | some d, .load t a=>match ev f a,f'.get d with
  | some (.pointer p),some v=>match cellsOf P t v with
   |some (_,vs)=>(i, .mem p vs)
   |none=>(i, .mem none [])
  |_,_=>(i, .mem none [])
 | some d, .convert s t x=>match P.underlying s,P.underlying t,ev f x,f'.get d with
  | some (.slice e),some .string,some (.slice p n c),some (.string b)=>match P.underlying e with
   |some (.int .u8)=>(i, .bytes ⟨p,n,c⟩ b)
   |_=>(i, .mem none [])
  |_,_,_,_=>(i, .mem none [])
 |_,_=>(i, .mem none [])
def tR(P:Program)(o:Oper):Bool:=
 match lN P o.op with
 |.SX=>true
 |_=>false
def oM(P:Program)(o:Oper):Bool:=
 match lN P o.op with
 |.load=>true
 |_=>false
def IY(loose:List (Nat×Nat))(j e:Nat):Bool:=loose.any λp=>Nat.beq p.1 j && Nat.beq p.2 e
def behind(loose:List (Nat×Nat))(e:Nat):List Entry->List Entry
 |[]=>[]
 |x::js=>bif IY loose x.1 e then x::behind loose e js else behind loose e js
def QJ:Value->Bool
 | .tuple vs=>match vs.toList with
  |[]=>true
  |_=>false
 |_=>false
def Dt(P:Program)(Γ:Ctx)(pX:List Nat)(dr:Bool)(ops:List Oper)(loose:List (Nat×Nat)):List Nat->List Entry->Fr->(Fr->aK)->aK
 |[],_,f,K=>K f
 | i::rest,acc,f,K=>match ops[i]? with
  |none=>.fail
  |some o=>
   let yes:=λf=>Vt P Γ pX dr o f λf'=>
    bif tR P o then DF (behind loose i acc) (Dt P Γ pX dr ops loose rest acc f' K)
    else Dt P Γ pX dr ops loose rest (bif oM P o then Gg P i o f f'::acc else acc) f' K
   let no:=λf=>Dt P Γ pX dr ops loose rest acc (Fr.put f o.dst undef) K
   match o.guard with
   |none=>yes f
   | some (j,want)=>match (ops[j]?).bind (·.dst) with
    |none=>no f
    | some d=>match Fr.get f d with
     | some (.bool b)=>aR b (bif want then yes (Fr.put f (some d) (.bool true)) else no (Fr.put f (some d) (.bool true)))
       (bif want then no (Fr.put f (some d) (.bool false)) else yes (Fr.put f (some d) (.bool false)))
     |some v=>bif QJ v then no f else .fail
     |none=>.fail
def B.OC:(b:B)->Value->Option b.den
 |.int k, .int k' n=>bif yV k k' then some n else none
 |.bool, .bool x=>some x
 |.str, .string s=>some s
 |.sl, .slice p n c=>some ⟨p,n,c⟩
 |.ptr, .pointer p=>some p
 |.map, .map r=>some r
 |.Yp k, .float k' n=>bif zM k k' then some n else none
 |.any,v=>some v
 |_,_=>none
def Bs.OC:(bs:List B)->List Value->Option (Bs.den bs)
 |[],[]=>some ()
 | b::bs,v::vs=>match b.OC v,Bs.OC bs vs with
  |some x,some xs=>some (x,xs)
  |_,_=>none
 |_,_=>none
def Ty.OC:(t:Ty)->Value->Option t.den
 |.one b,v=>b.OC v
 |.agg bs, .agg cs=>Bs.OC bs cs.toList
 |_,_=>none
def Ts.OC:(ts:List Ty)->List Value->Option (Ts.den ts)
 |[],[]=>some ()
 | t::ts,v::vs=>match t.OC v,Ts.OC ts vs with
  |some x,some xs=>some (x,xs)
  |_,_=>none
 |_,_=>none
inductive Ex where
 |Dh
 |ex (id:Nat)
 |ret
abbrev Ad:=List (Nat×Ty)
structure Um where
 order:Nat->Option (List (List Nat)×List (Nat×Nat))
 yh:Nat->Option (Ad×List Nat)
 join:Nat->Option (Ad×List Nat)
 loop:Nat->Option (Ad×List Nat)
 MN:Nat->Ad
 res:Ad
 pX:List Nat
 zg:Nat->Option (Ad×Ad):=λ_=>none
def look{α:Type}:List (Nat×α)->Nat->Option α
 |[],_=>none
 | (k,v)::r,n=>bif Nat.beq k n then some v else look r n
def ko(l:List (Nat×Ad))(n:Nat):Ad:=
 match look l n with
 |some o=>o
 |none=>[]
def wI:Code->Option Nat
 |.region id _ _=>some id
 | .seq a b=>match wI a with
  |some r=>some r
  |none=>wI b
 |.block _ b=>wI b
 |.loop b=>wI b
 |_=>none
def C5:Code->Nat
 | .seq a b=>match wI a with
  |some _=>C5 a
  |none=>C5 b
 |.block _ b=>C5 b
 |.loop b=>C5 b+1
 |_=>0
def Wk(c:Code):Option Nat:=match wI c with
 |some r=>some (Nat.add r (Nat.mul 1000000 (C5 c)))
 |none=>none
def MZ(ops:List Oper):List Nat:=ops.filterMap (·.dst)
def writes:Code->List Nat
 |.region _ ops _=>MZ ops.toList
 |.seq a b=>writes a++writes b
 |.cond _ a b=>writes a++writes b
 |.block _ b=>writes b
 |.loop b=>writes b
 |_=>[]
def Yz(n:Nat)(l:List Nat):List Nat:=bif mem n l then l else l++[n]
def G6:Code->List Nat
 |.seq a b=>(G6 b).foldl (λl n=>Yz n l) (G6 a)
 |.cond _ a b=>(G6 b).foldl (λl n=>Yz n l) (G6 a)
 |.block id b=>(G6 b).filter λn=>!Nat.beq n (id+1)
 |.loop b=>G6 b
 |.exit id=>[id+1]
 |.ret=>[0]
 |.rangeFunc _ _ _ b=>G6 b
 |_=>[]
def NN:List Oper->Option Oper
 |[]=>none
 | o::r=>match r with
  |[]=>some o
  |_::_=>NN r
def Is(ops:List Oper)(draw:Bool):Option (Oper×Call):=
 bif draw then none else match NN ops with
  | some o=>match o.op with
   |.defer c=>some (o,c)
   |_=>none
  |none=>none
def eU:Code->Bool
 | .region _ ops draw=>match Is ops.toList draw with
  |some _=>true
  |none=>false
 |.seq a b=>eU a || eU b
 |.cond _ a b=>eU a || eU b
 |.block _ b=>eU b
 |.loop b=>eU b
 |.rangeFunc .. => true
 |_=>false
def Fr.AW:Fr->List Nat->Fr
 |[],_=>[]
 | (k,v)::f,ws=>bif mem k ws then Fr.AW f ws else (k,v)::Fr.AW f ws
def xH:Ex->Nat
 |.Dh=>0
 |.ret=>1
 |.ex id=>id+2
def leaves(K:Ex->aK):List Nat->Nat->aK
 |[],j=>aR (jL j 0) (K .Dh) .fail
 |0::es,j=>aR (jL j 1) (K .ret) (leaves K es j)
 | (id+1)::es,j=>aR (jL j (id+2)) (K (.ex id)) (leaves K es j)
def QC(f:Fr):Ad->Option (List Value)
 |[]=>some []
 | (k,_)::r=>match f.get k,QC f r with
  |some v,some vs=>some (v::vs)
  |_,_=>none
def AV(o:Ad):List Ty:=o.map (·.2)
def GN(f:Fr):(o:Ad)->Ts.den (AV o)->Fr
 |[],_=>f
 | (k,t)::r,x=>(k,t.inj x.1)::GN f r x.2
def encode(An:Um)(outs:Ad)(e:Ex)(f:Fr):aK:=
 match e with
 | .Dh=>match QC f outs with
  |some vs=>.ret 0 vs
  |none=>.fail
 | .ret=>match QC f An.res with
  |some vs=>.ret 1 vs
  |none=>.fail
 | .ex id=>match QC f (An.MN id) with
  |some vs=>.ret (id+2) vs
  |none=>.fail
def decode(An:Um)(Dh:Option Ad)(aD:Fr)(K:Ex->Fr->aK)(es:List Nat)(tag:Nat)(vs:List Value):aK:=
 match es with
 | []=>match Dh with
  |some outs=>aR (jL tag 0) (.cast (AV outs) vs λx=>K .Dh (GN aD outs x)) .fail
  |none=>.fail
 |0::es=>aR (jL tag 1) (.cast (AV An.res) vs λx=>K .ret (GN aD An.res x)) (decode An Dh aD K es tag vs)
 | (id+1)::es=>aR (jL tag (id+2)) (.cast (AV (An.MN id)) vs λx=>K (.ex id) (GN aD (An.MN id) x)) (decode An Dh aD K es tag vs)
def Vr(P:Program)(Γ:Ctx)(pX:List Nat)(ops:List Oper)(loose:List (Nat×Nat))(f:Fr)(K:Fr->aK):List (List Nat)->aK
 |[]=>.fail
 | l::ls=>match ls with
  |[]=>Dt P Γ pX true ops loose l [] f K
  |_::_=>.both (Dt P Γ pX true ops loose l [] f K) (Vr P Γ pX ops loose f K ls)
def FU(P:Program)(Γ:Ctx)(An:Um)(id:Nat)(ops:List Oper)(draw:Bool)(f:Fr)(K:Fr->aK):aK:=
 bif draw then
  match An.order id with
  |some (ls,loose)=>Vr P Γ An.pX ops loose f K ls
  |none=>.fail
 else Dt P Γ An.pX false ops [] (List.range ops.length) [] f K
def Sn(P:Program)(Γ:Ctx)(An:Um):Code->Fr->(Ex->Fr->aK)->aK
 |.skip,f,K=>K .Dh f
 | .region id ops draw,f,K=>match Is ops.toList draw with
  | some (o,c)=>Dt P Γ An.pX false ops.toList [] (List.range (ops.toList.length-1)) [] f λf'=>match o.guard,c.callee with
   | none, .value g=>match ev f' g,Sj f' c.args.toList with
    | some (.func (.func i) first cap),some args=>match Γ i (first.toList++args++cap.toList) with
     |some _=>.J4 i (first.toList++args++cap.toList) (K .Dh (f'.put o.dst undef))
     |none=>.fail
    |_,_=>.fail
   |_,_=>.fail
  |none=>match An.yh id with
  |none=>FU P Γ An id ops.toList draw f λf'=>K .Dh f'
  | some (outs,aP)=>Fr.NV f aP λaD=>.bind (FU P Γ An id ops.toList draw f λf'=>encode An outs .Dh f')
    λtag vs=>decode An (some outs) aD K [] tag vs
 |.seq a b,f,K=>
  match (wI b).bind An.join with
  | none=>Sn P Γ An a f λe f'=>match e with
   |.Dh=>Sn P Γ An b f' K
   |e=>K e f'
  | some (outs,aP)=>Fr.NV f aP λaD=>.bind (Sn P Γ An a f λe f'=>encode An outs e f')
    λtag vs=>decode An (some outs) aD (λe f'=>match e with
     |.Dh=>Sn P Γ An b f' K
     |e=>K e f') (G6 a) tag vs
 | .cond c a b,f,K=>match ev f c with
  |some (.bool t)=>aR t (Sn P Γ An a f K) (Sn P Γ An b f K)
  |_=>.fail
 | .block id c,f,K=>Sn P Γ An c f λe f'=>match e with
  |.ex j=>bif Nat.beq j id then K .Dh f' else K (.ex j) f'
  |e=>K e f'
 | .loop c,f,K=>match (Wk c).bind An.loop with
  |none=>.fail
  | some (outs,aP)=>match QC f outs with
   |none=>.fail
   | some vs=>match Ts.OC (AV outs) vs with
    |none=>.fail
    | some s=>Fr.NV f aP λaD=>.bind
     (.loop (AV outs) s λs=>Sn P Γ An c (GN aD outs s) λe f'=>encode An outs e f')
     λtag vs=>decode An none aD K (G6 c) tag vs
 |.exit id,f,K=>K (.ex id) f
 |.ret,f,K=>K .ret f
 | .rangeFunc g ps asg b,f,K=>match ps.toList with
  |[]=>.fail
  | p::_=>match ev f g,An.zg p with
   | some fv,some (po,outs)=>.range fv (AV po) (AV outs)
     (λx=>Sn P Γ An asg (GN f po x) λe f'=>match e with
      | .Dh=>match QC f' outs with
       |some vs=>.ret 0 vs
       |none=>.fail
      |_=>.fail)
     (λy=>Sn P Γ An b (GN (Fr.AW f (ps.toList++writes asg)) outs y) λe _=>.ret (xH e) [])
     (λj=>leaves (λe=>K e f) (G6 b) j)
   |_,_=>.fail
 |_,_,_=>.fail
def No:Nat->List Value->Fr
 |_,[]=>[]
 |n,v::vs=>(n,v)::No (n+1) vs
def yZ(P:Program)(f:Fr):List ResultVar->(List Value->aK)->aK
 |[],K=>K []
 | .tmp t::r,K=>match f.get t with
  |some v=>yZ P f r λvs=>K (v::vs)
  |none=>.fail
 | .cell a t::r,K=>match f.get a,Yc P t with
  |some (.pointer p),some ty=>.load ty p λx=>yZ P f r λvs=>K (ty.inj x::vs)
  |_,_=>.fail
def Om(P:Program)(Γ:Ctx)(An:Um)(fn:Func)(args:List Value):aK:=
 match fn.body with
 | some c=>Sn P Γ An c (No 0 args) λe f=>match e with
  |.ex _=>.fail
  |_=>yZ P f fn.results.toList λvs=>.ret 0 vs
 |none=>.fail
structure aO where
 tys:List Ty
 res:List Ty
 prog:Ts.den tys->aK
def SQ(l:List (Nat×aO)):Ctx:=λi args=>
 match look l i with
 | some e=>match Ts.OC e.tys args with
  |some x=>some (e.prog x,e.res)
  |none=>none
 |none=>none
end
end Go.Sw
