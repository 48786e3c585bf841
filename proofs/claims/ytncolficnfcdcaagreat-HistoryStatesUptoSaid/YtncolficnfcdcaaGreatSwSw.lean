
/- Steps. -/
import Derived.Test.YtncolficnfcdcaaGreatSwCore
set_option linter.unusedVariables false
set_option linter.unusedSimpArgs false
namespace Go.Sw
section
def aR(b:Bool)(X Y:aK):aK:=bif b then X else Y
def bD(c:Bool)(K:aK):aK:=bif c then K else .fail
def eV(j:Int)(n:Nat):Bool:=decide (0<=j) && decide (j<(n:Int))
def wK(j:Int)(n:Nat):Bool:=decide (0<=j) && decide (j<=(n:Int))
def bN(a b:Bool):Bool:=a && b
def cO(a:Bool):Bool:=!a
def Yp(a b:Bool):Bool:=a == b
def jC(a b:Nat):Bool:=Nat.beq a b
def aJ(p:Option Addr):Bool:=p.isSome
def fI(p:Option Addr):Bool:=p.isNone
def aB(p:Option Addr)(n:Nat):Option Addr:=p.map (·.add n)
def bF(p:Option Addr)(m l size:Nat):Option Addr:=if m=l then p else p.map (·.add (l*size))
def Mm(s:ByteArray)(j:Int):Int:=((s.data.toList.getD j.toNat 0).toNat:Int)
def aT(k:IntKind)(a b:Int):Int:=k.wrap (a+b)
def bJ(k:IntKind)(a b:Int):Int:=k.wrap (a-b)
def sK(k:IntKind)(a b:Int):Int:=k.wrap (a*b)
def kV(k:IntKind)(a b:Int):Int:=k.wrap (a.tdiv b)
def Hn(_k:IntKind)(a b:Int):Int:=a.tmod b
def yU(k:IntKind)(a b:Int):Int:=k.wrap (BitVec.ofInt k.bits a &&& BitVec.ofInt k.bits b).toNat
def Nq(k:IntKind)(a b:Int):Int:=k.wrap (BitVec.ofInt k.bits a ||| BitVec.ofInt k.bits b).toNat
def ZX(k:IntKind)(a b:Int):Int:=k.wrap (BitVec.ofInt k.bits a ^^^ BitVec.ofInt k.bits b).toNat
def FT(k:IntKind)(a b:Int):Int:=k.wrap (BitVec.ofInt k.bits a &&& ~~~BitVec.ofInt k.bits b).toNat
def ve(k:IntKind)(a:Int):Int:=k.wrap (BitVec.ofInt k.bits (if k.signed then -1 else k.max) ^^^ BitVec.ofInt k.bits a).toNat
def Hu(k:IntKind)(a b:Int):Int:=k.wrap (a*2^min b.toNat k.bits)
def wD(k:IntKind)(a b:Int):Int:=a.fdiv (2^min b.toNat k.bits)
def dA(k:IntKind)(a:Int):Int:=k.wrap a
def fU(a b:Int):Bool:=a == b
def HF(a b:Int):Bool:=a != b
def fE(a b:Int):Bool:=a<b
def zV(a b:Int):Bool:=a<=b
def rY(a b:Int):Bool:=a > b
def pV(a b:Int):Bool:=a≥b
def aQ(n:Nat):Int:=(n:Int)
def bP(a:Int):Nat:=a.toNat
def cV(a b:Nat):Nat:=a-b
def bB(a b:Nat):Nat:=a*b
def Nk(a b:Int):Int:=if b<a then b else a
def CU(a b:Int):Int:=if b > a then b else a
def WG(a b:ByteArray):Bool:=a.toList == b.toList
def qn(a b:ByteArray):ByteArray:=a++b
def gh(a b:ByteArray):Bool:=decide (((a.size+b.size:Nat):Int)<=IntKind.i64.max)
def KT(a:ByteArray):Nat:=a.size
def qt(a:ByteArray)(l h:Nat):ByteArray:=a.extract l h
def kK(v:Value):Bool:=match v with|.nilIface=>true|_=>false
def isIface(v:Value):Bool:=match v with|.nilIface=>true|.iface _ _=>true|_=>false
def JG(v:Value):Bool:=match v with|.nilFunc=>true|_=>false
def P9(v:Value):Bool:=match v with|.nilFunc=>true|.func _ _ _=>true|_=>false
def Sp(v:Value):Bool:=flat v
def wx(k:FloatKind)(a b:Nat):Bool:=k.format.order a b == some .eq
def xc(k:FloatKind)(a b:Nat):Bool:=k.format.order a b != some .eq
def x'(k:FloatKind)(a b:Nat):Bool:=k.format.order a b == some .lt
def x_(k:FloatKind)(a b:Nat):Bool:=k.format.order a b == some .lt || k.format.order a b == some .eq
def wz(k:FloatKind)(a b:Nat):Bool:=k.format.order a b == some .gt
def wy(k:FloatKind)(a b:Nat):Bool:=k.format.order a b == some .gt || k.format.order a b == some .eq
def qc(k:FloatKind)(a b:Nat):Option Nat:=k.format.add a b
def uc(k:FloatKind)(a b:Nat):Option Nat:=k.format.sub a b
def s_(k:FloatKind)(a b:Nat):Option Nat:=k.format.mul a b
def sr(k:FloatKind)(a b:Nat):Option Nat:=k.format.div a b
def vi(k:FloatKind)(a:Int):Nat:=k.nearest a
abbrev Fr:=List (Nat×Value)
def Fr.get:Fr->Nat->Option Value
 |[],_=>none
 | (k,v)::r,n=>bif Nat.beq k n then some v else Fr.get r n
def Fr.put(f:Fr)(d:Option Nat)(v:Value):Fr:=
 match d with
 |some d=>(d,v)::f
 |none=>f
def Fr.only(f:Fr):List Nat->Fr
 |[]=>[]
 | k::ks=>match f.get k with
  |some v=>(k,v)::Fr.only f ks
  |none=>Fr.only f ks
def Fr.No(f:Fr):List Nat->(Fr->aK)->aK
 |[],K=>K []
 | k::ks,K=>match f.get k with
  |some v=>Fr.No f ks λr=>K ((k,v)::r)
  |none=>Fr.No f ks K
def mem(n:Nat):List Nat->Bool
 |[]=>false
 |k::r=>bif Nat.beq k n then true else mem n r
def ev(f:Fr):Operand->Option Value
 |.tmp t=>f.get t
 |.const v=>some v
 |.global g=>some (.pointer (some ⟨g,0,none⟩))
 |.func i=>some (.func (.func i) #[] #[])
def RC(f:Fr):List Operand->Option (List Value)
 |[]=>some []
 | x::xs=>match ev f x,RC f xs with
  |some v,some vs=>some (v::vs)
  |_,_=>none
def ZH:Value->B
 |.int k _=>.int k
 |.bool _=>.bool
 |.string _=>.str
 |.slice _ _ _=>.sl
 |.pointer _=>.ptr
 |.map _=>.map
 |.float k _=>.Xy k
 |_=>.any
def K2:Option TypeDesc->Option Bool
 |some (.struct _)=>some true
 |some (.array _ _)=>some true
 |some _=>some false
 |none=>none
def Xl(P:Program)(t:TypeId):Option Ty:=
 match P.info? t with
 | some i=>match K2 (P.underlying t),i.zero with
  |some true,some (.agg cs)=>bif Nat.beq cs.toList.length i.size then some (.agg (cs.toList.map ZH)) else none
  |some false,some v=>bif Nat.beq i.size 1 then some (.one (ZH v)) else none
  |_,_=>none
 |none=>none
def ZN(P:Program):List TypeId->Option (List Ty)
 |[]=>some []
 | t::ts=>match Xl P t,ZN P ts with
  |some x,some xs=>some (x::xs)
  |_,_=>none
def Zm(P:Program)(t:TypeId):Option (List Ty):=
 match P.underlying t with
 |some (.tuple ts)=>ZN P ts.toList
 |_=>ZN P [t]
def cellsOf(P:Program)(t:TypeId)(v:Value):Option (Bool×List Value):=
 match P.info? t with
 | some i=>match K2 (P.underlying t) with
  | some true=>match v with
   |.agg cs=>bif Nat.beq cs.toList.length i.size then some (true,cs.toList) else none
   |_=>none
  |some false=>bif Nat.beq i.size 1 then some (Sp v,[v]) else none
  |none=>none
 |none=>none
def zeroOf(P:Program)(t:TypeId):Option (List Value):=
 match P.info? t with
 | some i=>match i.zero with
  |some (.agg cs)=>some cs.toList
  |some v=>some [v]
  |none=>none
 |none=>none
inductive PC where
 |b (c:Bool)
 |nil (x:Value)
def ko(c:PC)(K:aK):aK:=
 match c with
 |.b c=>bD c K
 |.nil x=>.S0 x K
def YL(op:BinOp)(k:IntKind)(a b:Int):Option (Bool×Value):=
 match op with
 |.add=>some (true, .int k (aT k a b))
 |.sub=>some (true, .int k (bJ k a b))
 |.mul=>some (true, .int k (sK k a b))
 |.quo=>some (cO (fU b 0), .int k (kV k a b))
 |.rem=>some (cO (fU b 0), .int k (Hn k a b))
 |.and=>some (true, .int k (yU k a b))
 |.or=>some (true, .int k (Nq k a b))
 |.xor=>some (true, .int k (ZX k a b))
 |.andNot=>some (true, .int k (FT k a b))
 |.eql=>some (true, .bool (fU a b))
 |.neq=>some (true, .bool (HF a b))
 |.lss=>some (true, .bool (fE a b))
 |.leq=>some (true, .bool (zV a b))
 |.gtr=>some (true, .bool (rY a b))
 |.geq=>some (true, .bool (pV a b))
 |_=>none
def QU(op:BinOp)(k:IntKind)(a b:Int):Option (Bool×Value):=
 match op with
 |.shl=>some (cO (fE b 0), .int k (Hu k a b))
 |.shr=>some (cO (fE b 0), .int k (wD k a b))
 |_=>none
def Lw:BinOp->Bool
 |.shl=>true
 |.shr=>true
 |_=>false
def yF:IntKind->IntKind->Bool
 |.i8, .i8|.i16, .i16|.i32, .i32|.i64, .i64|.u8, .u8|.u16, .u16|.u32, .u32|.u64, .u64=>true
 |_,_=>false
def GH(op:BinOp)(c:Bool):Option Value:=
 match op with
 |.eql=>some (.bool c)
 |.neq=>some (.bool (cO c))
 |_=>none
def ZI(op:BinOp)(a b:ByteArray):Option (Bool×Value):=
 match op with
 |.eql=>some (true, .bool (WG a b))
 |.neq=>some (true, .bool (cO (WG a b)))
 |.add=>some (gh a b, .string (qn a b))
 |_=>none
def Yy(op:BinOp)(k:FloatKind)(a b:Nat):Option Value:=
 match op with
 |.eql=>some (.bool (wx k a b))
 |.neq=>some (.bool (xc k a b))
 |.lss=>some (.bool (x' k a b))
 |.leq=>some (.bool (x_ k a b))
 |.gtr=>some (.bool (wz k a b))
 |.geq=>some (.bool (wy k a b))
 |_=>none
def yX:FloatKind->FloatKind->Bool
 |.f32, .f32|.f64, .f64=>true
 |_,_=>false
def XK(P:Program)(op:BinOp)(t:TypeId)(a b:Value):Option (Bool×Value):=
 match a,b with
 |.int k a, .int k' b=>bif Lw op then QU op k a b else bif yF k k' then YL op k a b else none
 |.string a, .string b=>ZI op a b
 |.float k a, .float k' b=>bif yX k k' then (Yy op k a b).map (true, ·) else none
 | .bool a, .bool b=>match P.underlying t with
  |some .bool=>(GH op (Yp a b)).map (true, ·)
  |_=>none
 | .slice p _ _, .slice none _ _=>match P.underlying t with
  |some (.slice _)=>(GH op (fI p)).map (true, ·)
  |_=>none
 |_,_=>none
def me(P:Program)(op:BinOp)(t:TypeId)(y:Operand)(a:Value):Option (Bool×Value):=
 match y,P.underlying t with
 |.const .nilIface,some (.interface _)=>(GH op (kK a)).map (isIface a, ·)
 |.const .nilFunc,some (.func _ _ _)=>(GH op (JG a)).map (P9 a, ·)
 | .const (.pointer none),some (.pointer _)=>match a with
  |.pointer p=>(GH op (fI p)).map (true, ·)
  |_=>none
 |_,_=>none
def Vy(y:Operand):Bool:=
 match y with
 |.const .nilIface=>true
 |.const .nilFunc=>true
 |.const (.pointer none)=>true
 |_=>false
def wb(op:UnOp)(x:Value):Option Value:=
 match op,x with
 |.not, .bool b=>some (.bool (cO b))
 |.neg, .int k n=>some (.int k (bJ k 0 n))
 |.xor, .int k n=>some (.int k (ve k n))
 |_,_=>none
def Yh(P:Program)(s d:TypeId)(x:Value):Option Value:=
 match P.underlying s,P.underlying d,x with
 |some _,some (.int k), .int _ n=>some (.int k (dA k n))
 |some _,some (.float k), .int _ n=>some (.float k (vi k n))
 |some _,some .string, .string s=>some (.string s)
 |_,_,_=>none
def E9(P:Program)(t:TypeId)(n:Nat):Option (TypeId×Nat):=
 match P.underlying t with
 | some (.struct fs)=>match fs[n]? with
  | some f=>match P.info? f.type with
   |some i=>bif Nat.beq i.size 0 then none else some (f.type,f.offset)
   |none=>none
  |none=>none
 |_=>none
def IU(P:Program)(t:TypeId)(cs:Array Value)(off:Nat):Option Value:=
 match P.info? t with
 | some i=>match K2 (P.underlying t) with
  |some true=>some (.agg (cs.extract off (off+i.size)))
  |some false=>cs[off]?
  |none=>none
 |none=>none
def Hk(f:Fr):Option Operand->Option (Option Int)
 |none=>some none
 | some x=>match ev f x with
  |some (.int _ n)=>some (some n)
  |_=>none
def bounds(len cap:Nat)(lo hi mx:Option Int):Option (Bool×Nat×Nat×Nat):=
 match mx,hi with
 | none,none=>match lo with
  |none=>some (true,0,len,cap)
  |some l=>some (wK l len,bP l,len,cap)
 | none,some h=>match lo with
  |none=>some (wK h cap,0,bP h,cap)
  |some l=>some (bN (wK h cap) (wK l (bP h)),bP l,bP h,cap)
 | some m,some h=>match lo with
  |none=>some (bN (wK m cap) (wK h (bP m)),0,bP h,bP m)
  |some l=>some (bN (wK m cap) (bN (wK h (bP m)) (wK l (bP h))),bP l,bP h,bP m)
 |some _,none=>none
def Mu(P:Program)(t:TypeId)(a b:Value):Option Bool:=
 match P.underlying t,a,b with
 |some (.int _), .int k a, .int k' b=>bif yF k k' then some (fU a b) else none
 |some .string, .string a, .string b=>some (WG a b)
 |some .bool, .bool a, .bool b=>some (Yp a b)
 |_,_,_=>none
def Iu(P:Program)(xs ys:Array Value):List Field->Option Bool
 |[]=>some true
 |f::fs=>bif f.name == "_" then none else
  match IU P f.type xs f.offset,IU P f.type ys f.offset with
  | some a,some b=>match Mu P f.type a b,Iu P xs ys fs with
   | some c,some r=>match fs with
    |[]=>some c
    |_::_=>some (bN c r)
   |_,_=>none
  |_,_=>none
def Uz(P:Program)(e:TypeId)(xs ys:Array Value):Option Bool:=
 match P.info? e with
 | some i=>match IU P e xs (Nat.mul 0 i.size),IU P e ys (Nat.mul 0 i.size),IU P e xs (Nat.mul 1 i.size),IU P e ys (Nat.mul 1 i.size) with
  | some a,some b,some c,some d=>match Mu P e a b,Mu P e c d with
   |some x,some y=>some (bN x y)
   |_,_=>none
  |_,_,_,_=>none
 |none=>none
def structEq(P:Program)(op:BinOp)(t:TypeId)(xs ys:Array Value):Option Value:=
 match P.underlying t with
 | some (.array n e)=>bif !Nat.beq n 2 || P.eqGuardType P.depth t then none else
  match Uz P e xs ys with
  |some c=>GH op c
  |none=>none
 | some (.struct fs)=>bif P.stoodInHeld t || P.eqGuardType P.depth t then none else
  match Iu P xs ys fs.toList with
  |some c=>GH op c
  |none=>none
 |_=>none
def MF(P:Program)(place:Nat->Option (Nat×TypeId)):List (Nat×Value)->Bool->List Value->Option (Bool×List Value)
 |[],c,cells=>some (c,cells)
 | (i,v)::rest,c,cells=>match place i with
  |none=>none
  | some (off,t)=>match cellsOf P t v with
   |none=>none
   | some (c',vs)=>bif Nat.ble (off+vs.length) cells.length then
     MF P place rest (bN c c') (cells.take off++vs++cells.drop (off+vs.length)) else none
def J6(f:Fr):List (Nat×Operand)->Option (List (Nat×Value))
 |[]=>some []
 | (i,x)::r=>match ev f x,J6 f r with
  |some v,some vs=>some ((i,v)::vs)
  |_,_=>none
def KD(fs:Array Field)(i:Nat):Option (Nat×TypeId):=(fs[i]?).map λf=>(f.offset,f.type)
def WX(mx:Bool):Value->List Value->Option Value
 |v,[]=>some v
 |.int k x, .int k' y::r=>bif yF k k' then WX mx (.int k (bif mx then CU x y else Nk x y)) r else none
 |_,_=>none
def Sz(P:Program)(t:TypeId):Bool:=
 match P.underlying t with
 |some (.func _ _ _)=>true
 |some (.interface _)=>true
 |_=>false
def QN(P:Program)(f:Fr)(ty:TypeId):Op->Option (PC×Value)
 |.move x=>(ev f x).map λv=>(.b true,v)
 |.assign x=>(ev f x).map λv=>(.b true,v)
 | .nilCheck x=>bif Sz P ty then (ev f x).map λv=>(.nil v,v) else
  match ev f x with
  |some (.pointer p)=>some (.b (aJ p), .pointer p)
  |_=>none
 | .binOp op t x y _=>bif Vy y then
   match ev f x with
   |some a=>(me P op t y a).map λr=>(.b r.1,r.2)
   |none=>none
  else match ev f x,ev f y with
  | some a,some b=>match a,b with
   |.agg xs, .agg ys=>(structEq P op t xs ys).map λv=>(.b true,v)
   |a,b=>(XK P op t a b).map λr=>(.b r.1,r.2)
  |_,_=>none
 | .unOp op _ x=>match ev f x with
  |some v=>(wb op v).map λr=>(.b true,r)
  |none=>none
 | .convert s d x=>match ev f x with
  |some v=>(Yh P s d v).map λr=>(.b true,r)
  |none=>none
 | .fieldAddr t x n=>match ev f x,E9 P t n with
  |some (.pointer p),some (_,off)=>some (.b (aJ p), .pointer (aB p off))
  |_,_=>none
 | .field t x n=>match ev f x,E9 P t n with
  |some (.agg cs),some (ft,off)=>(IU P ft cs off).map λv=>(.b true,v)
  |_,_=>none
 | .indexAddr t x i=>match P.underlying t,ev f x,ev f i with
  | some (.slice e),some (.slice p n _),some (.int _ j)=>match P.info? e with
   |some ei=>some (.b (bN (aJ p) (eV j n)), .pointer (aB p (bB (bP j) ei.size)))
   |none=>none
  | some (.array n e),some (.pointer p),some (.int _ j)=>match P.info? e with
   |some ei=>some (.b (bN (aJ p) (eV j n)), .pointer (aB p (bB (bP j) ei.size)))
   |none=>none
  |_,_,_=>none
 | .index t x i=>match P.underlying t,ev f x,ev f i with
  |some .string,some (.string s),some (.int _ j)=>some (.b (eV j (KT s)), .int .u8 (Mm s j))
  |_,_,_=>none
 | .extract x n=>match ev f x with
  |some (.tuple vs)=>(vs.toList[n]?).map λv=>(.b true,v)
  |_=>none
 | .slice t x lo hi mx=>match P.underlying t,ev f x,Hk f lo,Hk f hi,Hk f mx with
  | some (.slice e),some (.slice p len cap),some lo,some hi,some mx=>match P.info? e,bounds len cap lo hi mx with
   |some ei,some (c,l,h,m)=>some (.b c, .slice (bF p m l ei.size) (cV h l) (cV m l))
   |_,_=>none
  | some (.array n e),some (.pointer p),some lo,some hi,some mx=>match P.info? e,bounds n n lo hi mx with
   |some ei,some (c,l,h,m)=>some (.b (bN (aJ p) c), .slice (bF p m l ei.size) (cV h l) (cV m l))
   |_,_=>none
  | some .string,some (.string s),some lo,some hi,some none=>match bounds (KT s) (KT s) lo hi none with
   |some (c,l,h,_)=>some (.b c, .string (qt s l h))
   |none=>none
  |_,_,_,_,_=>none
 | .build t parts=>match J6 f parts.toList,zeroOf P t,P.underlying t with
  | some vs,some z,some (.struct fs)=>bif fs.toList.all (λfd=>(P.info? fd.type).isSome) then
    (MF P (KD fs) vs true z).map λr=>(.b r.1, .agg r.2.toArray) else none
  | some vs,some z,some (.array _ e)=>match P.info? e with
   |some ei=>(MF P (λi=>some (i*ei.size,e)) vs true z).map λr=>(.b r.1, .agg r.2.toArray)
   |none=>none
  |_,_,_=>none
 | .makeInterface t x=>match ev f x,P.underlying t with
  |some _,some (.interface _)=>none
  |some v,some _=>some (.b true, .iface t v)
  |_,_=>none
 | .makeFunc fn first captured=>match RC f first.toList,RC f captured.toList with
  |some a,some b=>some (.b true, .func fn a.toArray b.toArray)
  |_,_=>none
 | .call c=>match c.callee,RC f c.args.toList,c.argTypes[0]? with
  | .builtin .len,some [.slice _ n _],some t=>match P.underlying t with
   |some (.slice _)=>some (.b true, .int .i64 (aQ n))
   |_=>none
  | .builtin .len,some [.string s],some t=>match P.underlying t with
   |some .string=>some (.b true, .int .i64 (aQ (KT s)))
   |_=>none
  | .builtin .cap,some [.slice _ _ n],some t=>match P.underlying t with
   |some (.slice _)=>some (.b true, .int .i64 (aQ n))
   |_=>none
  |.builtin .min,some (v::vs),_=>(WX false v vs).map λr=>(.b true,r)
  |.builtin .max,some (v::vs),_=>(WX true v vs).map λr=>(.b true,r)
  |_,_,_=>none
 |_=>none
inductive Kind where
 |pure|load|Sa
def Pd(P:Program)(s d:TypeId):Bool:=
 match P.underlying s,P.underlying d with
 |some (.slice _),some .string=>true
 |_,_=>false
def mapArg(P:Program):List TypeId->Bool
 | t::_=>match P.underlying t with
  |some (.map _ _)=>true
  |_=>false
 |[]=>false
def qZ(P:Program)(t:TypeId):Bool:=
 match P.underlying t with
 | some (.map k e)=>match P.underlying k,P.info? e with
  | some (.int .i64),some i=>match i.zero with
   |some (.int .i64 z)=>Nat.beq z.natAbs 0
   |_=>false
  |_,_=>false
 |_=>false
def kY(P:Program):Op->Kind
 |.load _ _=>.load
 |.convert s d _=>bif Pd P s d then .load else .pure
 |.move _|.assign _|.pick _ _ _|.nilCheck _|.binOp _ _ _ _ _|.unOp _ _ _|.fieldAddr _ _ _|.field _ _ _
 |.indexAddr _ _ _|.index _ _ _|.extract _ _|.slice _ _ _ _ _|.build _ _|.makeInterface _ _|.makeFunc _ _ _=>.pure
 | .call c=>match c.callee with
  |.builtin .len=>bif mapArg P c.argTypes.toList then .Sa else .pure
  |.builtin .cap|.builtin .min|.builtin .max=>.pure
  |_=>.Sa
 |_=>.Sa
abbrev Ctx:=FuncId->List Value->Option (aK×List Ty)
def elemOf(P:Program)(t:TypeId):Option (TypeId×Nat×Nat×List Value):=
 match P.underlying t with
 | some (.slice e)=>match P.info? e,zeroOf P e with
  |some i,some z=>bif Nat.beq z.length i.size then some (e,i.size,i.bytes,z) else none
  |_,_=>none
 |_=>none
def Uw(P:Program)(t:TypeId)(name:String):Option FuncId:=
 match P.info? t with
 | some i=>match i.methods.toList.find? (λm=>m.name == name) with
  | some m=>match m.path.toList,m.func,P.underlying t with
   |[],some (f,true),some (.pointer _)=>some f
   |[],some (_,false),some (.pointer _)=>none
   |[],some (f,false),some _=>some f
   |_,_,_=>none
  |none=>none
 |none=>none
def isAny(pP:List Nat):Operand->Bool
 |.tmp t=>mem t pP
 |_=>false
def Sb(P:Program)(Γ:Ctx)(pP:List Nat)(dr:Bool)(o:Oper)(f:Fr)(K:Fr->aK):aK:=
 match o.op with
 | .pick c x y=>match ev f c with
  | some (.bool b)=>aR b (match ev f x with|some v=>K (f.put o.dst v)|none=>.fail)
    (match ev f y with|some v=>K (f.put o.dst v)|none=>.fail)
  |_=>.fail
 | .load t a=>match ev f a,Xl P t with
  |some (.pointer p),some ty=>.load ty p λx=>K (f.put o.dst (ty.inj x))
  |_,_=>.fail
 | .store t a v=>match ev f a,ev f v with
  | some (.pointer p),some v=>match cellsOf P t v with
   |some (c,vs)=>bD c (.store p vs (K (f.put o.dst undef)))
   |none=>.fail
  |_,_=>.fail
 | .alloc t=>match zeroOf P t with
  |some z=>.alloc z λa=>K (f.put o.dst (.pointer (some a)))
  |none=>.fail
 | .box t x=>match ev f x with
  | some v=>match cellsOf P t v with
   |some (c,vs)=>bD c (.alloc vs λa=>K (f.put o.dst (.pointer (some a))))
   |none=>.fail
  |none=>.fail
 | .buildSlice t n parts=>match elemOf P t,J6 f parts.toList with
  | some (e,size,_,z),some vs=>bif Nat.ble (n*size) 1000000 then
    (match MF P (λi=>some (i*size,e)) vs true (kW z n) with
    |some (c,cells)=>bD c (.alloc cells λa=>K (f.put o.dst (.slice (some a) n n)))
    |none=>.fail) else .fail
  |_,_=>.fail
 | .makeSlice t l c=>match elemOf P t,ev f l,ev f c with
  |some (_,_,bytes,z),some (.int .i64 l),some (.int .i64 c)=>.mk bytes z l c λr=>K (f.put o.dst (.slice r.aD r.len r.cap))
  |_,_,_=>.fail
 | .convert s d x=>match P.underlying s,P.underlying d,ev f x with
  | some (.slice e),some .string,some (.slice p n c)=>match P.underlying e with
   |some (.int .u8)=>.bytes ⟨p,n,c⟩ λr=>K (f.put o.dst (.string r))
   |_=>.fail
  |_,_,_=>.fail
 | .binOp op s x y _=>match ev f x,ev f y with
  | some (.float k a),some (.float k' b)=>bif yX k k' then
    (match op with
    |.add=>.Xy (qc k a b) λr=>K (f.put o.dst (.float k r))
    |.sub=>.Xy (uc k a b) λr=>K (f.put o.dst (.float k r))
    |.mul=>.Xy (s_ k a b) λr=>K (f.put o.dst (.float k r))
    |.quo=>.Xy (sr k a b) λr=>K (f.put o.dst (.float k r))
    |_=>.fail) else .fail
  | some (.pointer p),some (.pointer q)=>bif dr then .fail else
    match P.underlying s with
    | some (.pointer e)=>match P.info? e with
     | some i=>bif Nat.beq i.size 0 then .fail else
       (match op with
       |.eql=>.pj p q λb=>K (f.put o.dst (.bool b))
       |.neq=>.pj p q λb=>K (f.put o.dst (.bool (cO b)))
       |_=>.fail)
     |none=>.fail
    |_=>.fail
  |_,_=>.fail
 | .call c=>match c.callee with
  | .builtin .append=>match RC f c.args.toList,c.argTypes.toList with
   | some [.slice p n m, .slice p' n' m'],[t,t']=>match elemOf P t,elemOf P t' with
    |some (_,size,bytes,z),some _=>.append size bytes z ⟨p,n,m⟩ ⟨p',n',m'⟩ λr=>K (f.put o.dst (.slice r.aD r.len r.cap))
    |_,_=>.fail
   |_,_=>.fail
  | .builtin .copy=>match RC f c.args.toList,c.argTypes.toList with
   | some [.slice p n m, .slice p' n' m'],t::_=>match elemOf P t with
    |some (_,size,_,_)=>.copy size ⟨p,n,m⟩ ⟨p',n',m'⟩ λr=>K (f.put o.dst (.int .i64 (aQ r)))
    |none=>.fail
   |_,_=>.fail
  | .builtin .len=>match RC f c.args.toList,mapArg P c.argTypes.toList with
   |some [.map r],true=>.dv r λn=>K (f.put o.dst (.int .i64 (aQ n)))
   |_,_=>.fail
  | .builtin .clear=>match RC f c.args.toList,c.argTypes.toList with
   | some [.slice p n m],t::_=>match elemOf P t with
    |some (_,_,_,z)=>.clear z ⟨p,n,m⟩ (K (f.put o.dst (.tuple #[])))
    |none=>.fail
   |_,_=>.fail
  |.builtin _=>.fail
  | .value g=>bif isAny pP g then
    match ev f g,RC f c.args.toList,Zm P o.type with
    |some v,some args,some tys=>.kO v args tys λx=>K (f.put o.dst (Bb (Ts.inj tys x)))
    |_,_,_=>.fail
   else match ev f g,RC f c.args.toList with
   | some (.func (.func i) first cap),some args=>match Γ i (first.toList++args++cap.toList) with
    |some (m,tys)=>.call m tys λx=>K (f.put o.dst (Bb (Ts.inj tys x)))
    |none=>.fail
   |_,_=>.fail
  | .invoke r name=>bif isAny pP r then
    match ev f r,RC f c.args.toList,Zm P o.type with
    |some v,some args,some tys=>.invoke v name args tys λx=>K (f.put o.dst (Bb (Ts.inj tys x)))
    |_,_,_=>.fail
   else match ev f r,RC f c.args.toList with
   | some (.iface t v),some args=>match Uw P t name with
    | some i=>match Γ i (v::args) with
     |some (m,tys)=>.call m tys λx=>K (f.put o.dst (Bb (Ts.inj tys x)))
     |none=>.fail
    |none=>.fail
   |_,_=>.fail
 | .makeMap _ r=>match r with
  |none=>.O3 λr=>K (f.put o.dst (.map (some r)))
  |some _=>.fail
 | .lookup t x i ok=>match ev f x,ev f i with
  | some (.map r),some (.int .i64 k)=>bif qZ P t then
    .YV r k λv b=>K (f.put o.dst (bif ok then .tuple #[.int .i64 v, .bool b] else .int .i64 v)) else .fail
  |_,_=>.fail
 | .mapUpdate t m k x=>match ev f m,ev f k,ev f x with
  |some (.map r),some (.int .i64 k),some (.int .i64 v)=>bif qZ P t then .QG r k v (K (f.put o.dst undef)) else .fail
  |_,_,_=>.fail
 | .range t x=>match ev f x with
  |some (.map r)=>bif qZ P t then .KP r λa=>K (f.put o.dst (.pointer (some a))) else .fail
  |_=>.fail
 | .entry it=>match ev f it with
  |some (.pointer p)=>.Fo p λk v=>K (f.put o.dst (.tuple #[.int .i64 k, .int .i64 v]))
  |_=>.fail
 | .next it st=>bif st then .fail else match ev f it with
  |some (.pointer p)=>.KR p (λk v=>K (f.put o.dst (.tuple #[.bool true, .int .i64 k, .int .i64 v]))) (K (f.put o.dst (.tuple #[.bool false])))
  |_=>.fail
 |_=>.fail
def UO(P:Program)(Γ:Ctx)(pP:List Nat)(dr:Bool)(o:Oper)(f:Fr)(K:Fr->aK):aK:=
 match QN P f o.type o.op with
 |some (c,v)=>ko c (K (f.put o.dst v))
 |none=>Sb P Γ pP dr o f K
inductive ur where
 |mem (p:Option Addr) (vs:List Value)
 |bytes (x:Sl) (s:ByteArray)
abbrev Entry:=Nat×ur
def Dk:List Entry->aK->aK
 |[],K=>K
 | (_, .mem p vs)::js,K=>.check p vs (Dk js K)
 | (_, .bytes x s)::js,K=>.bytes x λr=>bD (WG r s) (Dk js K)
def FZ(P:Program)(i:Nat)(o:Oper)(f f':Fr):Entry:=
 match o.dst,o.op with
 | some d, .load t a=>match ev f a,f'.get d with
  | some (.pointer p),some v=>match cellsOf P t v with
   |some (_,vs)=>(i, .mem p vs)
   |none=>(i, .mem none [])
  |_,_=>(i, .mem none [])
 | some d, .convert s t x=>match P.underlying s,P.underlying t,ev f x,f'.get d with
  | some (.slice e),some .string,some (.slice p n c),some (.string b)=>match P.underlying e with
   |some (.int .u8)=>(i, .bytes ⟨p,n,c⟩ b)
   |_=>(i, .mem none [])
  |_,_,_,_=>(i, .mem none [])
 |_,_=>(i, .mem none [])
def sZ(P:Program)(o:Oper):Bool:=
 match kY P o.op with
 |.Sa=>true
 |_=>false
def oG(P:Program)(o:Oper):Bool:=
 match kY P o.op with
 |.load=>true
 |_=>false
def Iy(loose:List (Nat×Nat))(j e:Nat):Bool:=loose.any λp=>Nat.beq p.1 j && Nat.beq p.2 e
def behind(loose:List (Nat×Nat))(e:Nat):List Entry->List Entry
 |[]=>[]
 |x::js=>bif Iy loose x.1 e then x::behind loose e js else behind loose e js
def Qb:Value->Bool
 | .tuple vs=>match vs.toList with
  |[]=>true
  |_=>false
 |_=>false
def C6(P:Program)(Γ:Ctx)(pP:List Nat)(dr:Bool)(ops:List Oper)(loose:List (Nat×Nat)):List Nat->List Entry->Fr->(Fr->aK)->aK
 |[],_,f,K=>K f
 | i::rest,acc,f,K=>match ops[i]? with
  |none=>.fail
  |some o=>
   let yes:=λf=>UO P Γ pP dr o f λf'=>
    bif sZ P o then Dk (behind loose i acc) (C6 P Γ pP dr ops loose rest acc f' K)
    else C6 P Γ pP dr ops loose rest (bif oG P o then FZ P i o f f'::acc else acc) f' K
   let no:=λf=>C6 P Γ pP dr ops loose rest acc (Fr.put f o.dst undef) K
   match o.guard with
   |none=>yes f
   | some (j,want)=>match (ops[j]?).bind (·.dst) with
    |none=>no f
    | some d=>match Fr.get f d with
     | some (.bool b)=>aR b (bif want then yes (Fr.put f (some d) (.bool true)) else no (Fr.put f (some d) (.bool true)))
       (bif want then no (Fr.put f (some d) (.bool false)) else yes (Fr.put f (some d) (.bool false)))
     |some v=>bif Qb v then no f else .fail
     |none=>.fail
def B.NY:(b:B)->Value->Option b.den
 |.int k, .int k' n=>bif yF k k' then some n else none
 |.bool, .bool x=>some x
 |.str, .string s=>some s
 |.sl, .slice p n c=>some ⟨p,n,c⟩
 |.ptr, .pointer p=>some p
 |.map, .map r=>some r
 |.Xy k, .float k' n=>bif yX k k' then some n else none
 |.any,v=>some v
 |_,_=>none
def Bs.NY:(bs:List B)->List Value->Option (Bs.den bs)
 |[],[]=>some ()
 | b::bs,v::vs=>match b.NY v,Bs.NY bs vs with
  |some x,some xs=>some (x,xs)
  |_,_=>none
 |_,_=>none
def Ty.NY:(t:Ty)->Value->Option t.den
 |.one b,v=>b.NY v
 |.agg bs, .agg cs=>Bs.NY bs cs.toList
 |_,_=>none
def Ts.NY:(ts:List Ty)->List Value->Option (Ts.den ts)
 |[],[]=>some ()
 | t::ts,v::vs=>match t.NY v,Ts.NY ts vs with
  |some x,some xs=>some (x,xs)
  |_,_=>none
 |_,_=>none
inductive Ex where
 |CV
 |ex (id:Nat)
 |ret
abbrev zM:=List (Nat×Ty)
structure TB where
 order:Nat->Option (List (List Nat)×List (Nat×Nat))
 uo:Nat->Option (zM×List Nat)
 join:Nat->Option (zM×List Nat)
 loop:Nat->Option (zM×List Nat)
 Ml:Nat->zM
 res:zM
 pP:List Nat
 vw:Nat->Option (zM×zM):=λ_=>none
def look{α:Type}:List (Nat×α)->Nat->Option α
 |[],_=>none
 | (k,v)::r,n=>bif Nat.beq k n then some v else look r n
def gn(l:List (Nat×zM))(n:Nat):zM:=
 match look l n with
 |some o=>o
 |none=>[]
def vT:Code->Option Nat
 |.region id _ _=>some id
 | .seq a b=>match vT a with
  |some r=>some r
  |none=>vT b
 |.block _ b=>vT b
 |.loop b=>vT b
 |_=>none
def CK:Code->Nat
 | .seq a b=>match vT a with
  |some _=>CK a
  |none=>CK b
 |.block _ b=>CK b
 |.loop b=>CK b+1
 |_=>0
def VC(c:Code):Option Nat:=match vT c with
 |some r=>some (Nat.add r (Nat.mul 1000000 (CK c)))
 |none=>none
def Mw(ops:List Oper):List Nat:=ops.filterMap (·.dst)
def writes:Code->List Nat
 |.region _ ops _=>Mw ops.toList
 |.seq a b=>writes a++writes b
 |.cond _ a b=>writes a++writes b
 |.block _ b=>writes b
 |.loop b=>writes b
 |_=>[]
def XI(n:Nat)(l:List Nat):List Nat:=bif mem n l then l else l++[n]
def GI:Code->List Nat
 |.seq a b=>(GI b).foldl (λl n=>XI n l) (GI a)
 |.cond _ a b=>(GI b).foldl (λl n=>XI n l) (GI a)
 |.block id b=>(GI b).filter λn=>!Nat.beq n (id+1)
 |.loop b=>GI b
 |.exit id=>[id+1]
 |.ret=>[0]
 |.rangeFunc _ _ _ b=>GI b
 |_=>[]
def Nh:List Oper->Option Oper
 |[]=>none
 | o::r=>match r with
  |[]=>some o
  |_::_=>Nh r
def HZ(ops:List Oper)(draw:Bool):Option (Oper×Call):=
 bif draw then none else match Nh ops with
  | some o=>match o.op with
   |.defer c=>some (o,c)
   |_=>none
  |none=>none
def eP:Code->Bool
 | .region _ ops draw=>match HZ ops.toList draw with
  |some _=>true
  |none=>false
 |.seq a b=>eP a || eP b
 |.cond _ a b=>eP a || eP b
 |.block _ b=>eP b
 |.loop b=>eP b
 |.rangeFunc .. => true
 |_=>false
def Fr.AE:Fr->List Nat->Fr
 |[],_=>[]
 | (k,v)::f,ws=>bif mem k ws then Fr.AE f ws else (k,v)::Fr.AE f ws
def wR:Ex->Nat
 |.CV=>0
 |.ret=>1
 |.ex id=>id+2
def leaves(K:Ex->aK):List Nat->Nat->aK
 |[],j=>aR (jC j 0) (K .CV) .fail
 |0::es,j=>aR (jC j 1) (K .ret) (leaves K es j)
 | (id+1)::es,j=>aR (jC j (id+2)) (K (.ex id)) (leaves K es j)
def P3(f:Fr):zM->Option (List Value)
 |[]=>some []
 | (k,_)::r=>match f.get k,P3 f r with
  |some v,some vs=>some (v::vs)
  |_,_=>none
def AD(o:zM):List Ty:=o.map (·.2)
def Gq(f:Fr):(o:zM)->Ts.den (AD o)->Fr
 |[],_=>f
 | (k,t)::r,x=>(k,t.inj x.1)::Gq f r x.2
def encode(An:TB)(outs:zM)(e:Ex)(f:Fr):aK:=
 match e with
 | .CV=>match P3 f outs with
  |some vs=>.ret 0 vs
  |none=>.fail
 | .ret=>match P3 f An.res with
  |some vs=>.ret 1 vs
  |none=>.fail
 | .ex id=>match P3 f (An.Ml id) with
  |some vs=>.ret (id+2) vs
  |none=>.fail
def decode(An:TB)(CV:Option zM)(aD:Fr)(K:Ex->Fr->aK)(es:List Nat)(tag:Nat)(vs:List Value):aK:=
 match es with
 | []=>match CV with
  |some outs=>aR (jC tag 0) (.cast (AD outs) vs λx=>K .CV (Gq aD outs x)) .fail
  |none=>.fail
 |0::es=>aR (jC tag 1) (.cast (AD An.res) vs λx=>K .ret (Gq aD An.res x)) (decode An CV aD K es tag vs)
 | (id+1)::es=>aR (jC tag (id+2)) (.cast (AD (An.Ml id)) vs λx=>K (.ex id) (Gq aD (An.Ml id) x)) (decode An CV aD K es tag vs)
def UM(P:Program)(Γ:Ctx)(pP:List Nat)(ops:List Oper)(loose:List (Nat×Nat))(f:Fr)(K:Fr->aK):List (List Nat)->aK
 |[]=>.fail
 | l::ls=>match ls with
  |[]=>C6 P Γ pP true ops loose l [] f K
  |_::_=>.both (C6 P Γ pP true ops loose l [] f K) (UM P Γ pP ops loose f K ls)
def Fy(P:Program)(Γ:Ctx)(An:TB)(id:Nat)(ops:List Oper)(draw:Bool)(f:Fr)(K:Fr->aK):aK:=
 bif draw then
  match An.order id with
  |some (ls,loose)=>UM P Γ An.pP ops loose f K ls
  |none=>.fail
 else C6 P Γ An.pP false ops [] (List.range ops.length) [] f K
def RE(P:Program)(Γ:Ctx)(An:TB):Code->Fr->(Ex->Fr->aK)->aK
 |.skip,f,K=>K .CV f
 | .region id ops draw,f,K=>match HZ ops.toList draw with
  | some (o,c)=>C6 P Γ An.pP false ops.toList [] (List.range (ops.toList.length-1)) [] f λf'=>match o.guard,c.callee with
   | none, .value g=>match ev f' g,RC f' c.args.toList with
    | some (.func (.func i) first cap),some args=>match Γ i (first.toList++args++cap.toList) with
     |some _=>.JB i (first.toList++args++cap.toList) (K .CV (f'.put o.dst undef))
     |none=>.fail
    |_,_=>.fail
   |_,_=>.fail
  |none=>match An.uo id with
  |none=>Fy P Γ An id ops.toList draw f λf'=>K .CV f'
  | some (outs,aP)=>Fr.No f aP λaD=>.bind (Fy P Γ An id ops.toList draw f λf'=>encode An outs .CV f')
    λtag vs=>decode An (some outs) aD K [] tag vs
 |.seq a b,f,K=>
  match (vT b).bind An.join with
  | none=>RE P Γ An a f λe f'=>match e with
   |.CV=>RE P Γ An b f' K
   |e=>K e f'
  | some (outs,aP)=>Fr.No f aP λaD=>.bind (RE P Γ An a f λe f'=>encode An outs e f')
    λtag vs=>decode An (some outs) aD (λe f'=>match e with
     |.CV=>RE P Γ An b f' K
     |e=>K e f') (GI a) tag vs
 | .cond c a b,f,K=>match ev f c with
  |some (.bool t)=>aR t (RE P Γ An a f K) (RE P Γ An b f K)
  |_=>.fail
 | .block id c,f,K=>RE P Γ An c f λe f'=>match e with
  |.ex j=>bif Nat.beq j id then K .CV f' else K (.ex j) f'
  |e=>K e f'
 | .loop c,f,K=>match (VC c).bind An.loop with
  |none=>.fail
  | some (outs,aP)=>match P3 f outs with
   |none=>.fail
   | some vs=>match Ts.NY (AD outs) vs with
    |none=>.fail
    | some s=>Fr.No f aP λaD=>.bind
     (.loop (AD outs) s λs=>RE P Γ An c (Gq aD outs s) λe f'=>encode An outs e f')
     λtag vs=>decode An none aD K (GI c) tag vs
 |.exit id,f,K=>K (.ex id) f
 |.ret,f,K=>K .ret f
 | .rangeFunc g ps asg b,f,K=>match ps.toList with
  |[]=>.fail
  | p::_=>match ev f g,An.vw p with
   | some fv,some (po,outs)=>.range fv (AD po) (AD outs)
     (λx=>RE P Γ An asg (Gq f po x) λe f'=>match e with
      | .CV=>match P3 f' outs with
       |some vs=>.ret 0 vs
       |none=>.fail
      |_=>.fail)
     (λy=>RE P Γ An b (Gq (Fr.AE f (ps.toList++writes asg)) outs y) λe _=>.ret (wR e) [])
     (λj=>leaves (λe=>K e f) (GI b) j)
   |_,_=>.fail
 |_,_,_=>.fail
def MM:Nat->List Value->Fr
 |_,[]=>[]
 |n,v::vs=>(n,v)::MM (n+1) vs
def yI(P:Program)(f:Fr):List ResultVar->(List Value->aK)->aK
 |[],K=>K []
 | .tmp t::r,K=>match f.get t with
  |some v=>yI P f r λvs=>K (v::vs)
  |none=>.fail
 | .cell a t::r,K=>match f.get a,Xl P t with
  |some (.pointer p),some ty=>.load ty p λx=>yI P f r λvs=>K (ty.inj x::vs)
  |_,_=>.fail
def NM(P:Program)(Γ:Ctx)(An:TB)(fn:Func)(args:List Value):aK:=
 match fn.body with
 | some c=>RE P Γ An c (MM 0 args) λe f=>match e with
  |.ex _=>.fail
  |_=>yI P f fn.results.toList λvs=>.ret 0 vs
 |none=>.fail
structure aO where
 tys:List Ty
 res:List Ty
 prog:Ts.den tys->aK
def R4(l:List (Nat×aO)):Ctx:=λi args=>
 match look l i with
 | some e=>match Ts.NY e.tys args with
  |some x=>some (e.prog x,e.res)
  |none=>none
 |none=>none
end
end Go.Sw
