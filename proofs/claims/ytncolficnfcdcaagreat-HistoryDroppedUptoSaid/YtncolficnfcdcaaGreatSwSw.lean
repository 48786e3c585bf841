/-
  From a function's code to a shallow program. Pure reckoning: what it is worth stands in the texts behind it.
-/
import Derived.Test.YtncolficnfcdcaaGreatSwCore
set_option linter.unusedSimpArgs false
set_option linter.unusedVariables false
namespace Go.Sw
def ifB (b:Bool) (X Y:Prog):Prog:=bif b then X else Y
def grd (c:Bool) (K:Prog):Prog:=bif c then K else .fail
def inB (j:Int) (n:Nat):Bool:=decide (0≤j) && decide (j<(n:Int))
def leB (j:Int) (n:Nat):Bool:=decide (0≤j) && decide (j≤(n:Int))
def andB (a b:Bool):Bool:=a && b
def notB (a:Bool):Bool:=!a
def eqB (a b:Bool):Bool:=a == b
def eqN (a b:Nat):Bool:=Nat.beq a b
def someB (p:Option Addr):Bool:=p.isSome
def noneB (p:Option Addr):Bool:=p.isNone
def shiftTo (p:Option Addr) (n:Nat):Option Addr:=p.map (·.add n)
def cutBase (p:Option Addr) (m l size:Nat):Option Addr:=if m=l then p else p.map (·.add (l*size))
def byteAt (s:ByteArray) (j:Int):Int:=((s.data.toList.getD j.toNat 0).toNat:Int)
def addI (k:IntKind) (a b:Int):Int:=k.wrap (a+b)
def subI (k:IntKind) (a b:Int):Int:=k.wrap (a-b)
def mulI (k:IntKind) (a b:Int):Int:=k.wrap (a*b)
def quoI (k:IntKind) (a b:Int):Int:=k.wrap (a.tdiv b)
def remI (_k:IntKind) (a b:Int):Int:=a.tmod b
def andI (k:IntKind) (a b:Int):Int:=k.wrap (BitVec.ofInt k.bits a &&& BitVec.ofInt k.bits b).toNat
def orI (k:IntKind) (a b:Int):Int:=k.wrap (BitVec.ofInt k.bits a ||| BitVec.ofInt k.bits b).toNat
def xorI (k:IntKind) (a b:Int):Int:=k.wrap (BitVec.ofInt k.bits a ^^^ BitVec.ofInt k.bits b).toNat
def andNotI (k:IntKind) (a b:Int):Int:=k.wrap (BitVec.ofInt k.bits a &&& ~~~BitVec.ofInt k.bits b).toNat
def comI (k:IntKind) (a:Int):Int:=k.wrap (BitVec.ofInt k.bits (if k.signed then -1 else k.max) ^^^ BitVec.ofInt k.bits a).toNat
def shlI (k:IntKind) (a b:Int):Int:=k.wrap (a*2 ^ min b.toNat k.bits)
def shrI (k:IntKind) (a b:Int):Int:=a.fdiv (2 ^ min b.toNat k.bits)
def wrapI (k:IntKind) (a:Int):Int:=k.wrap a
def eqI (a b:Int):Bool:=a == b
def neI (a b:Int):Bool:=a != b
def ltI (a b:Int):Bool:=a<b
def leI (a b:Int):Bool:=a≤b
def gtI (a b:Int):Bool:=a > b
def geI (a b:Int):Bool:=a≥b
def natI (n:Nat):Int:=(n:Int)
def toN (a:Int):Nat:=a.toNat
def subN (a b:Nat):Nat:=a-b
def mulN (a b:Nat):Nat:=a*b
def minI (a b:Int):Int:=if b<a then b else a
def maxI (a b:Int):Int:=if b > a then b else a
def eqS (a b:ByteArray):Bool:=a.toList == b.toList
def catS (a b:ByteArray):ByteArray:=a++b
def catOk (a b:ByteArray):Bool:=decide (((a.size+b.size:Nat):Int)≤IntKind.i64.max)
def sizeS (a:ByteArray):Nat:=a.size
def cutS (a:ByteArray) (l h:Nat):ByteArray:=a.extract l h
def isNilIface (v:Value):Bool:=match v with | .nilIface=>true | _=>false
def isIface (v:Value):Bool:=match v with | .nilIface=>true | .iface _ _=>true | _=>false
def isNilFunc (v:Value):Bool:=match v with | .nilFunc=>true | _=>false
def isFunc (v:Value):Bool:=match v with | .nilFunc=>true | .func _ _ _=>true | _=>false
def flatB (v:Value):Bool:=flat v
def eqF (k:FloatKind) (a b:Nat):Bool:=k.format.order a b == some .eq
def neF (k:FloatKind) (a b:Nat):Bool:=k.format.order a b != some .eq
def ltF (k:FloatKind) (a b:Nat):Bool:=k.format.order a b == some .lt
def leF (k:FloatKind) (a b:Nat):Bool:=k.format.order a b == some .lt || k.format.order a b == some .eq
def gtF (k:FloatKind) (a b:Nat):Bool:=k.format.order a b == some .gt
def geF (k:FloatKind) (a b:Nat):Bool:=k.format.order a b == some .gt || k.format.order a b == some .eq
def addF (k:FloatKind) (a b:Nat):Option Nat:=k.format.add a b
def subF (k:FloatKind) (a b:Nat):Option Nat:=k.format.sub a b
def mulF (k:FloatKind) (a b:Nat):Option Nat:=k.format.mul a b
def quoF (k:FloatKind) (a b:Nat):Option Nat:=k.format.div a b
def intF (k:FloatKind) (a:Int):Nat:=k.nearest a
abbrev Fr:=List (Nat×Value)
def Fr.get:Fr→Nat→Option Value
 | [],_=>none
 | (k,v)::r,n=>bif Nat.beq k n then some v else Fr.get r n
def Fr.put (f:Fr) (d:Option Nat) (v:Value):Fr:=
 match d with
 | some d=>(d,v)::f
 | none=>f
def Fr.only (f:Fr):List Nat→Fr
 | []=>[]
 | k::ks=>match f.get k with
  | some v=>(k,v)::Fr.only f ks
  | none=>Fr.only f ks
def Fr.onlyK (f:Fr):List Nat→(Fr→Prog)→Prog
 | [],K=>K []
 | k::ks,K=>match f.get k with
  | some v=>Fr.onlyK f ks fun r=>K ((k,v)::r)
  | none=>Fr.onlyK f ks K
def mem (n:Nat):List Nat→Bool
 | []=>false
 | k::r=>bif Nat.beq k n then true else mem n r
def ev (f:Fr):Operand→Option Value
 | .tmp t=>f.get t
 | .const v=>some v
 | .global g=>some (.pointer (some ⟨g,0,none⟩))
 | .func i=>some (.func (.func i) #[] #[])
def evs (f:Fr):List Operand→Option (List Value)
 | []=>some []
 | x::xs=>match ev f x,evs f xs with
  | some v,some vs=>some (v::vs)
  | _,_=>none
def sortOf:Value→B
 | .int k _=>.int k
 | .bool _=>.bool
 | .string _=>.str
 | .slice _ _ _=>.sl
 | .pointer _=>.ptr
 | .map _=>.map
 | .float k _=>.flt k
 | _=>.any
def aggD:Option TypeDesc→Option Bool
 | some (.struct _)=>some true
 | some (.array _ _)=>some true
 | some _=>some false
 | none=>none
def tyOf (P:Program) (t:TypeId):Option Ty:=
 match P.info? t with
 | some i=>match aggD (P.underlying t),i.zero with
  | some true,some (.agg cs)=>bif Nat.beq cs.toList.length i.size then some (.agg (cs.toList.map sortOf)) else none
  | some false,some v=>bif Nat.beq i.size 1 then some (.one (sortOf v)) else none
  | _,_=>none
 | none=>none
def tysOf (P:Program):List TypeId→Option (List Ty)
 | []=>some []
 | t::ts=>match tyOf P t,tysOf P ts with
  | some x,some xs=>some (x::xs)
  | _,_=>none
def resTys (P:Program) (t:TypeId):Option (List Ty):=
 match P.underlying t with
 | some (.tuple ts)=>tysOf P ts.toList
 | _=>tysOf P [t]
def cellsOf (P:Program) (t:TypeId) (v:Value):Option (Bool×List Value):=
 match P.info? t with
 | some i=>match aggD (P.underlying t) with
  | some true=>match v with
   | .agg cs=>bif Nat.beq cs.toList.length i.size then some (true,cs.toList) else none
   | _=>none
  | some false=>bif Nat.beq i.size 1 then some (flatB v,[v]) else none
  | none=>none
 | none=>none
def zeroOf (P:Program) (t:TypeId):Option (List Value):=
 match P.info? t with
 | some i=>match i.zero with
  | some (.agg cs)=>some cs.toList
  | some v=>some [v]
  | none=>none
 | none=>none
inductive PC where
 | b (c:Bool)
 | nil (x:Value)
def grd' (c:PC) (K:Prog):Prog:=
 match c with
 | .b c=>grd c K
 | .nil x=>.nilok x K
def intOp (op:BinOp) (k:IntKind) (a b:Int):Option (Bool×Value):=
 match op with
 | .add=>some (true, .int k (addI k a b))
 | .sub=>some (true, .int k (subI k a b))
 | .mul=>some (true, .int k (mulI k a b))
 | .quo=>some (notB (eqI b 0), .int k (quoI k a b))
 | .rem=>some (notB (eqI b 0), .int k (remI k a b))
 | .and=>some (true, .int k (andI k a b))
 | .or=>some (true, .int k (orI k a b))
 | .xor=>some (true, .int k (xorI k a b))
 | .andNot=>some (true, .int k (andNotI k a b))
 | .eql=>some (true, .bool (eqI a b))
 | .neq=>some (true, .bool (neI a b))
 | .lss=>some (true, .bool (ltI a b))
 | .leq=>some (true, .bool (leI a b))
 | .gtr=>some (true, .bool (gtI a b))
 | .geq=>some (true, .bool (geI a b))
 | _=>none
def shiftOp (op:BinOp) (k:IntKind) (a b:Int):Option (Bool×Value):=
 match op with
 | .shl=>some (notB (ltI b 0), .int k (shlI k a b))
 | .shr=>some (notB (ltI b 0), .int k (shrI k a b))
 | _=>none
def isShift:BinOp→Bool
 | .shl=>true
 | .shr=>true
 | _=>false
def kindBeq:IntKind→IntKind→Bool
 | .i8, .i8 | .i16, .i16 | .i32, .i32 | .i64, .i64 | .u8, .u8 | .u16, .u16 | .u32, .u32 | .u64, .u64=>true
 | _,_=>false
def eqRes (op:BinOp) (c:Bool):Option Value:=
 match op with
 | .eql=>some (.bool c)
 | .neq=>some (.bool (notB c))
 | _=>none
def strOp (op:BinOp) (a b:ByteArray):Option (Bool×Value):=
 match op with
 | .eql=>some (true, .bool (eqS a b))
 | .neq=>some (true, .bool (notB (eqS a b)))
 | .add=>some (catOk a b, .string (catS a b))
 | _=>none
def fltOp (op:BinOp) (k:FloatKind) (a b:Nat):Option Value:=
 match op with
 | .eql=>some (.bool (eqF k a b))
 | .neq=>some (.bool (neF k a b))
 | .lss=>some (.bool (ltF k a b))
 | .leq=>some (.bool (leF k a b))
 | .gtr=>some (.bool (gtF k a b))
 | .geq=>some (.bool (geF k a b))
 | _=>none
def fkindBeq:FloatKind→FloatKind→Bool
 | .f32, .f32 | .f64, .f64=>true
 | _,_=>false
def binV (P:Program) (op:BinOp) (t:TypeId) (a b:Value):Option (Bool×Value):=
 match a,b with
 | .int k a, .int k' b=>bif isShift op then shiftOp op k a b else bif kindBeq k k' then intOp op k a b else none
 | .string a, .string b=>strOp op a b
 | .float k a, .float k' b=>bif fkindBeq k k' then (fltOp op k a b).map (true, ·) else none
 | .bool a, .bool b=>match P.underlying t with
  | some .bool=>(eqRes op (eqB a b)).map (true, ·)
  | _=>none
 | .slice p _ _, .slice none _ _=>match P.underlying t with
  | some (.slice _)=>(eqRes op (noneB p)).map (true, ·)
  | _=>none
 | _,_=>none
def nilV (P:Program) (op:BinOp) (t:TypeId) (y:Operand) (a:Value):Option (Bool×Value):=
 match y,P.underlying t with
 | .const .nilIface,some (.interface _)=>(eqRes op (isNilIface a)).map (isIface a, ·)
 | .const .nilFunc,some (.func _ _ _)=>(eqRes op (isNilFunc a)).map (isFunc a, ·)
 | .const (.pointer none),some (.pointer _)=>match a with
  | .pointer p=>(eqRes op (noneB p)).map (true, ·)
  | _=>none
 | _,_=>none
def isNilOp (y:Operand):Bool:=
 match y with
 | .const .nilIface=>true
 | .const .nilFunc=>true
 | .const (.pointer none)=>true
 | _=>false
def unV (op:UnOp) (x:Value):Option Value:=
 match op,x with
 | .not, .bool b=>some (.bool (notB b))
 | .neg, .int k n=>some (.int k (subI k 0 n))
 | .xor, .int k n=>some (.int k (comI k n))
 | _,_=>none
def convV (P:Program) (s d:TypeId) (x:Value):Option Value:=
 match P.underlying s,P.underlying d,x with
 | some _,some (.int k), .int _ n=>some (.int k (wrapI k n))
 | some _,some (.float k), .int _ n=>some (.float k (intF k n))
 | some _,some .string, .string s=>some (.string s)
 | _,_,_=>none
def fieldOff (P:Program) (t:TypeId) (n:Nat):Option (TypeId×Nat):=
 match P.underlying t with
 | some (.struct fs)=>match fs[n]? with
  | some f=>match P.info? f.type with
   | some i=>bif Nat.beq i.size 0 then none else some (f.type,f.offset)
   | none=>none
  | none=>none
 | _=>none
def partV (P:Program) (t:TypeId) (cs:Array Value) (off:Nat):Option Value:=
 match P.info? t with
 | some i=>match aggD (P.underlying t) with
  | some true=>some (.agg (cs.extract off (off+i.size)))
  | some false=>cs[off]?
  | none=>none
 | none=>none
def optInt (f:Fr):Option Operand→Option (Option Int)
 | none=>some none
 | some x=>match ev f x with
  | some (.int _ n)=>some (some n)
  | _=>none
def bounds (len cap:Nat) (lo hi mx:Option Int):Option (Bool×Nat×Nat×Nat):=
 match mx,hi with
 | none,none=>match lo with
  | none=>some (true,0,len,cap)
  | some l=>some (leB l len,toN l,len,cap)
 | none,some h=>match lo with
  | none=>some (leB h cap,0,toN h,cap)
  | some l=>some (andB (leB h cap) (leB l (toN h)),toN l,toN h,cap)
 | some m,some h=>match lo with
  | none=>some (andB (leB m cap) (leB h (toN m)),0,toN h,toN m)
  | some l=>some (andB (leB m cap) (andB (leB h (toN m)) (leB l (toN h))),toN l,toN h,toN m)
 | some _,none=>none
def cellEq (P:Program) (t:TypeId) (a b:Value):Option Bool:=
 match P.underlying t,a,b with
 | some (.int _), .int k a, .int k' b=>bif kindBeq k k' then some (eqI a b) else none
 | some .string, .string a, .string b=>some (eqS a b)
 | some .bool, .bool a, .bool b=>some (eqB a b)
 | _,_,_=>none
def fieldsEq (P:Program) (xs ys:Array Value):List Field→Option Bool
 | []=>some true
 | f::fs=>bif f.name == "_" then none else
  match partV P f.type xs f.offset,partV P f.type ys f.offset with
  | some a,some b=>match cellEq P f.type a b,fieldsEq P xs ys fs with
   | some c,some r=>match fs with
    | []=>some c
    | _::_=>some (andB c r)
   | _,_=>none
  | _,_=>none
def pairEq (P:Program) (e:TypeId) (xs ys:Array Value):Option Bool:=
 match P.info? e with
 | some i=>match partV P e xs (Nat.mul 0 i.size),partV P e ys (Nat.mul 0 i.size),partV P e xs (Nat.mul 1 i.size),partV P e ys (Nat.mul 1 i.size) with
  | some a,some b,some c,some d=>match cellEq P e a b,cellEq P e c d with
   | some x,some y=>some (andB x y)
   | _,_=>none
  | _,_,_,_=>none
 | none=>none
def structEq (P:Program) (op:BinOp) (t:TypeId) (xs ys:Array Value):Option Value:=
 match P.underlying t with
 | some (.array n e)=>bif !Nat.beq n 2 || P.eqGuardType P.depth t then none else
  match pairEq P e xs ys with
  | some c=>eqRes op c
  | none=>none
 | some (.struct fs)=>bif P.stoodInHeld t || P.eqGuardType P.depth t then none else
  match fieldsEq P xs ys fs.toList with
  | some c=>eqRes op c
  | none=>none
 | _=>none
def fillL (P:Program) (place:Nat→Option (Nat×TypeId)):List (Nat×Value)→Bool→List Value→Option (Bool×List Value)
 | [],c,cells=>some (c,cells)
 | (i,v)::rest,c,cells=>match place i with
  | none=>none
  | some (off,t)=>match cellsOf P t v with
   | none=>none
   | some (c',vs)=>bif Nat.ble (off+vs.length) cells.length then
     fillL P place rest (andB c c') (cells.take off++vs++cells.drop (off+vs.length)) else none
def zipOps (f:Fr):List (Nat×Operand)→Option (List (Nat×Value))
 | []=>some []
 | (i,x)::r=>match ev f x,zipOps f r with
  | some v,some vs=>some ((i,v)::vs)
  | _,_=>none
def fieldPlaces (fs:Array Field) (i:Nat):Option (Nat×TypeId):=(fs[i]?).map fun f=>(f.offset,f.type)
def minV (mx:Bool):Value→List Value→Option Value
 | v,[]=>some v
 | .int k x, .int k' y::r=>bif kindBeq k k' then minV mx (.int k (bif mx then maxI x y else minI x y)) r else none
 | _,_=>none
def isFuncTy (P:Program) (t:TypeId):Bool:=
 match P.underlying t with
 | some (.func _ _ _)=>true
 | some (.interface _)=>true
 | _=>false
def pureOp (P:Program) (f:Fr) (ty:TypeId):Op→Option (PC×Value)
 | .move x=>(ev f x).map fun v=>(.b true,v)
 | .assign x=>(ev f x).map fun v=>(.b true,v)
 | .nilCheck x=>bif isFuncTy P ty then (ev f x).map fun v=>(.nil v,v) else
  match ev f x with
  | some (.pointer p)=>some (.b (someB p), .pointer p)
  | _=>none
 | .binOp op t x y _=>bif isNilOp y then
   match ev f x with
   | some a=>(nilV P op t y a).map fun r=>(.b r.1,r.2)
   | none=>none
  else match ev f x,ev f y with
  | some a,some b=>match a,b with
   | .agg xs, .agg ys=>(structEq P op t xs ys).map fun v=>(.b true,v)
   | a,b=>(binV P op t a b).map fun r=>(.b r.1,r.2)
  | _,_=>none
 | .unOp op _ x=>match ev f x with
  | some v=>(unV op v).map fun r=>(.b true,r)
  | none=>none
 | .convert s d x=>match ev f x with
  | some v=>(convV P s d v).map fun r=>(.b true,r)
  | none=>none
 | .fieldAddr t x n=>match ev f x,fieldOff P t n with
  | some (.pointer p),some (_,off)=>some (.b (someB p), .pointer (shiftTo p off))
  | _,_=>none
 | .field t x n=>match ev f x,fieldOff P t n with
  | some (.agg cs),some (ft,off)=>(partV P ft cs off).map fun v=>(.b true,v)
  | _,_=>none
 | .indexAddr t x i=>match P.underlying t,ev f x,ev f i with
  | some (.slice e),some (.slice p n _),some (.int _ j)=>match P.info? e with
   | some ei=>some (.b (andB (someB p) (inB j n)), .pointer (shiftTo p (mulN (toN j) ei.size)))
   | none=>none
  | some (.array n e),some (.pointer p),some (.int _ j)=>match P.info? e with
   | some ei=>some (.b (andB (someB p) (inB j n)), .pointer (shiftTo p (mulN (toN j) ei.size)))
   | none=>none
  | _,_,_=>none
 | .index t x i=>match P.underlying t,ev f x,ev f i with
  | some .string,some (.string s),some (.int _ j)=>some (.b (inB j (sizeS s)), .int .u8 (byteAt s j))
  | _,_,_=>none
 | .extract x n=>match ev f x with
  | some (.tuple vs)=>(vs.toList[n]?).map fun v=>(.b true,v)
  | _=>none
 | .slice t x lo hi mx=>match P.underlying t,ev f x,optInt f lo,optInt f hi,optInt f mx with
  | some (.slice e),some (.slice p len cap),some lo,some hi,some mx=>match P.info? e,bounds len cap lo hi mx with
   | some ei,some (c,l,h,m)=>some (.b c, .slice (cutBase p m l ei.size) (subN h l) (subN m l))
   | _,_=>none
  | some (.array n e),some (.pointer p),some lo,some hi,some mx=>match P.info? e,bounds n n lo hi mx with
   | some ei,some (c,l,h,m)=>some (.b (andB (someB p) c), .slice (cutBase p m l ei.size) (subN h l) (subN m l))
   | _,_=>none
  | some .string,some (.string s),some lo,some hi,some none=>match bounds (sizeS s) (sizeS s) lo hi none with
   | some (c,l,h,_)=>some (.b c, .string (cutS s l h))
   | none=>none
  | _,_,_,_,_=>none
 | .build t parts=>match zipOps f parts.toList,zeroOf P t,P.underlying t with
  | some vs,some z,some (.struct fs)=>bif fs.toList.all (fun fd=>(P.info? fd.type).isSome) then
    (fillL P (fieldPlaces fs) vs true z).map fun r=>(.b r.1, .agg r.2.toArray) else none
  | some vs,some z,some (.array _ e)=>match P.info? e with
   | some ei=>(fillL P (fun i=>some (i*ei.size,e)) vs true z).map fun r=>(.b r.1, .agg r.2.toArray)
   | none=>none
  | _,_,_=>none
 | .makeInterface t x=>match ev f x,P.underlying t with
  | some _,some (.interface _)=>none
  | some v,some _=>some (.b true, .iface t v)
  | _,_=>none
 | .makeFunc fn first captured=>match evs f first.toList,evs f captured.toList with
  | some a,some b=>some (.b true, .func fn a.toArray b.toArray)
  | _,_=>none
 | .call c=>match c.callee,evs f c.args.toList,c.argTypes[0]? with
  | .builtin .len,some [.slice _ n _],some t=>match P.underlying t with
   | some (.slice _)=>some (.b true, .int .i64 (natI n))
   | _=>none
  | .builtin .len,some [.string s],some t=>match P.underlying t with
   | some .string=>some (.b true, .int .i64 (natI (sizeS s)))
   | _=>none
  | .builtin .cap,some [.slice _ _ n],some t=>match P.underlying t with
   | some (.slice _)=>some (.b true, .int .i64 (natI n))
   | _=>none
  | .builtin .min,some (v::vs),_=>(minV false v vs).map fun r=>(.b true,r)
  | .builtin .max,some (v::vs),_=>(minV true v vs).map fun r=>(.b true,r)
  | _,_,_=>none
 | _=>none
inductive Kind where
 | pure | load | eff
def readsConv (P:Program) (s d:TypeId):Bool:=
 match P.underlying s,P.underlying d with
 | some (.slice _),some .string=>true
 | _,_=>false
def mapArg (P:Program):List TypeId→Bool
 | t::_=>match P.underlying t with
  | some (.map _ _)=>true
  | _=>false
 | []=>false
def isIntMap (P:Program) (t:TypeId):Bool:=
 match P.underlying t with
 | some (.map k e)=>match P.underlying k,P.info? e with
  | some (.int .i64),some i=>match i.zero with
   | some (.int .i64 z)=>Nat.beq z.natAbs 0
   | _=>false
  | _,_=>false
 | _=>false
def kindOf (P:Program):Op→Kind
 | .load _ _=>.load
 | .convert s d _=>bif readsConv P s d then .load else .pure
 | .move _ | .assign _ | .pick _ _ _ | .nilCheck _ | .binOp _ _ _ _ _ | .unOp _ _ _ | .fieldAddr _ _ _ | .field _ _ _
 | .indexAddr _ _ _ | .index _ _ _ | .extract _ _ | .slice _ _ _ _ _ | .build _ _ | .makeInterface _ _ | .makeFunc _ _ _=>.pure
 | .call c=>match c.callee with
  | .builtin .len=>bif mapArg P c.argTypes.toList then .eff else .pure
  | .builtin .cap | .builtin .min | .builtin .max=>.pure
  | _=>.eff
 | _=>.eff
abbrev Ctx:=FuncId→List Value→Option (Prog×List Ty)
def elemOf (P:Program) (t:TypeId):Option (TypeId×Nat×Nat×List Value):=
 match P.underlying t with
 | some (.slice e)=>match P.info? e,zeroOf P e with
  | some i,some z=>bif Nat.beq z.length i.size then some (e,i.size,i.bytes,z) else none
  | _,_=>none
 | _=>none
def methOf (P:Program) (t:TypeId) (name:String):Option FuncId:=
 match P.info? t with
 | some i=>match i.methods.toList.find? (fun m=>m.name == name) with
  | some m=>match m.path.toList,m.func,P.underlying t with
   | [],some (f,true),some (.pointer _)=>some f
   | [],some (_,false),some (.pointer _)=>none
   | [],some (f,false),some _=>some f
   | _,_,_=>none
  | none=>none
 | none=>none
def isAny (anys:List Nat):Operand→Bool
 | .tmp t=>mem t anys
 | _=>false
def effOp (P:Program) (Γ:Ctx) (anys:List Nat) (dr:Bool) (o:Oper) (f:Fr) (K:Fr→Prog):Prog:=
 match o.op with
 | .pick c x y=>match ev f c with
  | some (.bool b)=>ifB b (match ev f x with | some v=>K (f.put o.dst v) | none=>.fail)
    (match ev f y with | some v=>K (f.put o.dst v) | none=>.fail)
  | _=>.fail
 | .load t a=>match ev f a,tyOf P t with
  | some (.pointer p),some ty=>.load ty p fun x=>K (f.put o.dst (ty.inj x))
  | _,_=>.fail
 | .store t a v=>match ev f a,ev f v with
  | some (.pointer p),some v=>match cellsOf P t v with
   | some (c,vs)=>grd c (.store p vs (K (f.put o.dst undef)))
   | none=>.fail
  | _,_=>.fail
 | .alloc t=>match zeroOf P t with
  | some z=>.alloc z fun a=>K (f.put o.dst (.pointer (some a)))
  | none=>.fail
 | .box t x=>match ev f x with
  | some v=>match cellsOf P t v with
   | some (c,vs)=>grd c (.alloc vs fun a=>K (f.put o.dst (.pointer (some a))))
   | none=>.fail
  | none=>.fail
 | .buildSlice t n parts=>match elemOf P t,zipOps f parts.toList with
  | some (e,size,_,z),some vs=>bif Nat.ble (n*size) 1000000 then
    (match fillL P (fun i=>some (i*size,e)) vs true (zeros z n) with
    | some (c,cells)=>grd c (.alloc cells fun a=>K (f.put o.dst (.slice (some a) n n)))
    | none=>.fail) else .fail
  | _,_=>.fail
 | .makeSlice t l c=>match elemOf P t,ev f l,ev f c with
  | some (_,_,bytes,z),some (.int .i64 l),some (.int .i64 c)=>.mk bytes z l c fun r=>K (f.put o.dst (.slice r.base r.len r.cap))
  | _,_,_=>.fail
 | .convert s d x=>match P.underlying s,P.underlying d,ev f x with
  | some (.slice e),some .string,some (.slice p n c)=>match P.underlying e with
   | some (.int .u8)=>.bytes ⟨p,n,c⟩ fun r=>K (f.put o.dst (.string r))
   | _=>.fail
  | _,_,_=>.fail
 | .binOp op s x y _=>match ev f x,ev f y with
  | some (.float k a),some (.float k' b)=>bif fkindBeq k k' then
    (match op with
    | .add=>.flt (addF k a b) fun r=>K (f.put o.dst (.float k r))
    | .sub=>.flt (subF k a b) fun r=>K (f.put o.dst (.float k r))
    | .mul=>.flt (mulF k a b) fun r=>K (f.put o.dst (.float k r))
    | .quo=>.flt (quoF k a b) fun r=>K (f.put o.dst (.float k r))
    | _=>.fail) else .fail
  | some (.pointer p),some (.pointer q)=>bif dr then .fail else
    match P.underlying s with
    | some (.pointer e)=>match P.info? e with
     | some i=>bif Nat.beq i.size 0 then .fail else
       (match op with
       | .eql=>.peq p q fun b=>K (f.put o.dst (.bool b))
       | .neq=>.peq p q fun b=>K (f.put o.dst (.bool (notB b)))
       | _=>.fail)
     | none=>.fail
    | _=>.fail
  | _,_=>.fail
 | .call c=>match c.callee with
  | .builtin .append=>match evs f c.args.toList,c.argTypes.toList with
   | some [.slice p n m, .slice p' n' m'],[t,t']=>match elemOf P t,elemOf P t' with
    | some (_,size,bytes,z),some _=>.append size bytes z ⟨p,n,m⟩ ⟨p',n',m'⟩ fun r=>K (f.put o.dst (.slice r.base r.len r.cap))
    | _,_=>.fail
   | _,_=>.fail
  | .builtin .copy=>match evs f c.args.toList,c.argTypes.toList with
   | some [.slice p n m, .slice p' n' m'],t::_=>match elemOf P t with
    | some (_,size,_,_)=>.copy size ⟨p,n,m⟩ ⟨p',n',m'⟩ fun r=>K (f.put o.dst (.int .i64 (natI r)))
    | none=>.fail
   | _,_=>.fail
  | .builtin .len=>match evs f c.args.toList,mapArg P c.argTypes.toList with
   | some [.map r],true=>.mlen r fun n=>K (f.put o.dst (.int .i64 (natI n)))
   | _,_=>.fail
  | .builtin .clear=>match evs f c.args.toList,c.argTypes.toList with
   | some [.slice p n m],t::_=>match elemOf P t with
    | some (_,_,_,z)=>.clear z ⟨p,n,m⟩ (K (f.put o.dst (.tuple #[])))
    | none=>.fail
   | _,_=>.fail
  | .builtin _=>.fail
  | .value g=>bif isAny anys g then
    match ev f g,evs f c.args.toList,resTys P o.type with
    | some v,some args,some tys=>.callv v args tys fun x=>K (f.put o.dst (resV (Ts.inj tys x)))
    | _,_,_=>.fail
   else match ev f g,evs f c.args.toList with
   | some (.func (.func i) first cap),some args=>match Γ i (first.toList++args++cap.toList) with
    | some (m,tys)=>.call m tys fun x=>K (f.put o.dst (resV (Ts.inj tys x)))
    | none=>.fail
   | _,_=>.fail
  | .invoke r name=>bif isAny anys r then
    match ev f r,evs f c.args.toList,resTys P o.type with
    | some v,some args,some tys=>.invoke v name args tys fun x=>K (f.put o.dst (resV (Ts.inj tys x)))
    | _,_,_=>.fail
   else match ev f r,evs f c.args.toList with
   | some (.iface t v),some args=>match methOf P t name with
    | some i=>match Γ i (v::args) with
     | some (m,tys)=>.call m tys fun x=>K (f.put o.dst (resV (Ts.inj tys x)))
     | none=>.fail
    | none=>.fail
   | _,_=>.fail
 | .makeMap _ r=>match r with
  | none=>.mkmap fun r=>K (f.put o.dst (.map (some r)))
  | some _=>.fail
 | .lookup t x i ok=>match ev f x,ev f i with
  | some (.map r),some (.int .i64 k)=>bif isIntMap P t then
    .mget r k fun v b=>K (f.put o.dst (bif ok then .tuple #[.int .i64 v, .bool b] else .int .i64 v)) else .fail
  | _,_=>.fail
 | .mapUpdate t m k x=>match ev f m,ev f k,ev f x with
  | some (.map r),some (.int .i64 k),some (.int .i64 v)=>bif isIntMap P t then .mput r k v (K (f.put o.dst undef)) else .fail
  | _,_,_=>.fail
 | .range t x=>match ev f x with
  | some (.map r)=>bif isIntMap P t then .miter r fun a=>K (f.put o.dst (.pointer (some a))) else .fail
  | _=>.fail
 | .entry it=>match ev f it with
  | some (.pointer p)=>.mentry p fun k v=>K (f.put o.dst (.tuple #[.int .i64 k, .int .i64 v]))
  | _=>.fail
 | .next it st=>bif st then .fail else match ev f it with
  | some (.pointer p)=>.mnext p (fun k v=>K (f.put o.dst (.tuple #[.bool true, .int .i64 k, .int .i64 v]))) (K (f.put o.dst (.tuple #[.bool false])))
  | _=>.fail
 | _=>.fail
def swOp (P:Program) (Γ:Ctx) (anys:List Nat) (dr:Bool) (o:Oper) (f:Fr) (K:Fr→Prog):Prog:=
 match pureOp P f o.type o.op with
 | some (c,v)=>grd' c (K (f.put o.dst v))
 | none=>effOp P Γ anys dr o f K
inductive Chk where
 | mem (p:Option Addr) (vs:List Value)
 | bytes (x:Sl) (s:ByteArray)
abbrev Entry:=Nat×Chk
def checks:List Entry→Prog→Prog
 | [],K=>K
 | (_, .mem p vs)::js,K=>.check p vs (checks js K)
 | (_, .bytes x s)::js,K=>.bytes x fun r=>grd (eqS r s) (checks js K)
def entryOf (P:Program) (i:Nat) (o:Oper) (f f':Fr):Entry:=
 match o.dst,o.op with
 | some d, .load t a=>match ev f a,f'.get d with
  | some (.pointer p),some v=>match cellsOf P t v with
   | some (_,vs)=>(i, .mem p vs)
   | none=>(i, .mem none [])
  | _,_=>(i, .mem none [])
 | some d, .convert s t x=>match P.underlying s,P.underlying t,ev f x,f'.get d with
  | some (.slice e),some .string,some (.slice p n c),some (.string b)=>match P.underlying e with
   | some (.int .u8)=>(i, .bytes ⟨p,n,c⟩ b)
   | _=>(i, .mem none [])
  | _,_,_,_=>(i, .mem none [])
 | _,_=>(i, .mem none [])
def isEff (P:Program) (o:Oper):Bool:=
 match kindOf P o.op with
 | .eff=>true
 | _=>false
def isLoad (P:Program) (o:Oper):Bool:=
 match kindOf P o.op with
 | .load=>true
 | _=>false
def isLoose (loose:List (Nat×Nat)) (j e:Nat):Bool:=loose.any fun p=>Nat.beq p.1 j && Nat.beq p.2 e
def behind (loose:List (Nat×Nat)) (e:Nat):List Entry→List Entry
 | []=>[]
 | x::js=>bif isLoose loose x.1 e then x::behind loose e js else behind loose e js
def isUndef:Value→Bool
 | .tuple vs=>match vs.toList with
  | []=>true
  | _=>false
 | _=>false
def swOps (P:Program) (Γ:Ctx) (anys:List Nat) (dr:Bool) (ops:List Oper) (loose:List (Nat×Nat)):List Nat→List Entry→Fr→(Fr→Prog)→Prog
 | [],_,f,K=>K f
 | i::rest,acc,f,K=>match ops[i]? with
  | none=>.fail
  | some o=>
   let yes:=fun f=>swOp P Γ anys dr o f fun f'=>
    bif isEff P o then checks (behind loose i acc) (swOps P Γ anys dr ops loose rest acc f' K)
    else swOps P Γ anys dr ops loose rest (bif isLoad P o then entryOf P i o f f'::acc else acc) f' K
   let no:=fun f=>swOps P Γ anys dr ops loose rest acc (Fr.put f o.dst undef) K
   match o.guard with
   | none=>yes f
   | some (j,want)=>match (ops[j]?).bind (·.dst) with
    | none=>no f
    | some d=>match Fr.get f d with
     | some (.bool b)=>ifB b (bif want then yes (Fr.put f (some d) (.bool true)) else no (Fr.put f (some d) (.bool true)))
       (bif want then no (Fr.put f (some d) (.bool false)) else yes (Fr.put f (some d) (.bool false)))
     | some v=>bif isUndef v then no f else .fail
     | none=>.fail
def B.prj:(b:B)→Value→Option b.den
 | .int k, .int k' n=>bif kindBeq k k' then some n else none
 | .bool, .bool x=>some x
 | .str, .string s=>some s
 | .sl, .slice p n c=>some ⟨p,n,c⟩
 | .ptr, .pointer p=>some p
 | .map, .map r=>some r
 | .flt k, .float k' n=>bif fkindBeq k k' then some n else none
 | .any,v=>some v
 | _,_=>none
def Bs.prj:(bs:List B)→List Value→Option (Bs.den bs)
 | [],[]=>some ()
 | b::bs,v::vs=>match b.prj v,Bs.prj bs vs with
  | some x,some xs=>some (x,xs)
  | _,_=>none
 | _,_=>none
def Ty.prj:(t:Ty)→Value→Option t.den
 | .one b,v=>b.prj v
 | .agg bs, .agg cs=>Bs.prj bs cs.toList
 | _,_=>none
def Ts.prj:(ts:List Ty)→List Value→Option (Ts.den ts)
 | [],[]=>some ()
 | t::ts,v::vs=>match t.prj v,Ts.prj ts vs with
  | some x,some xs=>some (x,xs)
  | _,_=>none
 | _,_=>none
inductive Ex where
 | nrm
 | ex (id:Nat)
 | ret
abbrev Outs:=List (Nat×Ty)
structure Ann where
 order:Nat→Option (List (List Nat)×List (Nat×Nat))
 reg:Nat→Option (Outs×List Nat)
 join:Nat→Option (Outs×List Nat)
 loop:Nat→Option (Outs×List Nat)
 blk:Nat→Outs
 res:Outs
 anys:List Nat
 rng:Nat→Option (Outs×Outs):=fun _=>none
def look {α:Type}:List (Nat×α)→Nat→Option α
 | [],_=>none
 | (k,v)::r,n=>bif Nat.beq k n then some v else look r n
def lookL (l:List (Nat×Outs)) (n:Nat):Outs:=
 match look l n with
 | some o=>o
 | none=>[]
def firstReg:Code→Option Nat
 | .region id _ _=>some id
 | .seq a b=>match firstReg a with
  | some r=>some r
  | none=>firstReg b
 | .block _ b=>firstReg b
 | .loop b=>firstReg b
 | _=>none
def headLoops:Code→Nat
 | .seq a b=>match firstReg a with
  | some _=>headLoops a
  | none=>headLoops b
 | .block _ b=>headLoops b
 | .loop b=>headLoops b+1
 | _=>0
def loopKey (c:Code):Option Nat:=match firstReg c with
 | some r=>some (Nat.add r (Nat.mul 1000000 (headLoops c)))
 | none=>none
def dsts (ops:List Oper):List Nat:=ops.filterMap (·.dst)
def writes:Code→List Nat
 | .region _ ops _=>dsts ops.toList
 | .seq a b=>writes a++writes b
 | .cond _ a b=>writes a++writes b
 | .block _ b=>writes b
 | .loop b=>writes b
 | _=>[]
def addNew (n:Nat) (l:List Nat):List Nat:=bif mem n l then l else l++[n]
def exits:Code→List Nat
 | .seq a b=>(exits b).foldl (fun l n=>addNew n l) (exits a)
 | .cond _ a b=>(exits b).foldl (fun l n=>addNew n l) (exits a)
 | .block id b=>(exits b).filter fun n=>!Nat.beq n (id+1)
 | .loop b=>exits b
 | .exit id=>[id+1]
 | .ret=>[0]
 | .rangeFunc _ _ _ b=>exits b
 | _=>[]
def lastOp:List Oper→Option Oper
 | []=>none
 | o::r=>match r with
  | []=>some o
  | _::_=>lastOp r
def deferOf (ops:List Oper) (draw:Bool):Option (Oper×Call):=
 bif draw then none else match lastOp ops with
  | some o=>match o.op with
   | .defer c=>some (o,c)
   | _=>none
  | none=>none
def hasRange:Code→Bool
 | .region _ ops draw=>match deferOf ops.toList draw with
  | some _=>true
  | none=>false
 | .seq a b=>hasRange a || hasRange b
 | .cond _ a b=>hasRange a || hasRange b
 | .block _ b=>hasRange b
 | .loop b=>hasRange b
 | .rangeFunc .. => true
 | _=>false
def Fr.without:Fr→List Nat→Fr
 | [],_=>[]
 | (k,v)::f,ws=>bif mem k ws then Fr.without f ws else (k,v)::Fr.without f ws
def tagOf:Ex→Nat
 | .nrm=>0
 | .ret=>1
 | .ex id=>id+2
def leaves (K:Ex→Prog):List Nat→Nat→Prog
 | [],j=>ifB (eqN j 0) (K .nrm) .fail
 | 0::es,j=>ifB (eqN j 1) (K .ret) (leaves K es j)
 | (id+1)::es,j=>ifB (eqN j (id+2)) (K (.ex id)) (leaves K es j)
def getL (f:Fr):Outs→Option (List Value)
 | []=>some []
 | (k,_)::r=>match f.get k,getL f r with
  | some v,some vs=>some (v::vs)
  | _,_=>none
def tysL (o:Outs):List Ty:=o.map (·.2)
def putL (f:Fr):(o:Outs)→Ts.den (tysL o)→Fr
 | [],_=>f
 | (k,t)::r,x=>(k,t.inj x.1)::putL f r x.2
def encode (An:Ann) (outs:Outs) (e:Ex) (f:Fr):Prog:=
 match e with
 | .nrm=>match getL f outs with
  | some vs=>.ret 0 vs
  | none=>.fail
 | .ret=>match getL f An.res with
  | some vs=>.ret 1 vs
  | none=>.fail
 | .ex id=>match getL f (An.blk id) with
  | some vs=>.ret (id+2) vs
  | none=>.fail
def decode (An:Ann) (nrm:Option Outs) (base:Fr) (K:Ex→Fr→Prog) (es:List Nat) (tag:Nat) (vs:List Value):Prog:=
 match es with
 | []=>match nrm with
  | some outs=>ifB (eqN tag 0) (.cast (tysL outs) vs fun x=>K .nrm (putL base outs x)) .fail
  | none=>.fail
 | 0::es=>ifB (eqN tag 1) (.cast (tysL An.res) vs fun x=>K .ret (putL base An.res x)) (decode An nrm base K es tag vs)
 | (id+1)::es=>ifB (eqN tag (id+2)) (.cast (tysL (An.blk id)) vs fun x=>K (.ex id) (putL base (An.blk id) x)) (decode An nrm base K es tag vs)
def swAlts (P:Program) (Γ:Ctx) (anys:List Nat) (ops:List Oper) (loose:List (Nat×Nat)) (f:Fr) (K:Fr→Prog):List (List Nat)→Prog
 | []=>.fail
 | l::ls=>match ls with
  | []=>swOps P Γ anys true ops loose l [] f K
  | _::_=>.both (swOps P Γ anys true ops loose l [] f K) (swAlts P Γ anys ops loose f K ls)
def swRegion (P:Program) (Γ:Ctx) (An:Ann) (id:Nat) (ops:List Oper) (draw:Bool) (f:Fr) (K:Fr→Prog):Prog:=
 bif draw then
  match An.order id with
  | some (ls,loose)=>swAlts P Γ An.anys ops loose f K ls
  | none=>.fail
 else swOps P Γ An.anys false ops [] (List.range ops.length) [] f K
def swC (P:Program) (Γ:Ctx) (An:Ann):Code→Fr→(Ex→Fr→Prog)→Prog
 | .skip,f,K=>K .nrm f
 | .region id ops draw,f,K=>match deferOf ops.toList draw with
  | some (o,c)=>swOps P Γ An.anys false ops.toList [] (List.range (ops.toList.length-1)) [] f fun f'=>match o.guard,c.callee with
   | none, .value g=>match ev f' g,evs f' c.args.toList with
    | some (.func (.func i) first cap),some args=>match Γ i (first.toList++args++cap.toList) with
     | some _=>.deferv i (first.toList++args++cap.toList) (K .nrm (f'.put o.dst undef))
     | none=>.fail
    | _,_=>.fail
   | _,_=>.fail
  | none=>match An.reg id with
  | none=>swRegion P Γ An id ops.toList draw f fun f'=>K .nrm f'
  | some (outs,keep)=>Fr.onlyK f keep fun base=>.bind (swRegion P Γ An id ops.toList draw f fun f'=>encode An outs .nrm f')
    fun tag vs=>decode An (some outs) base K [] tag vs
 | .seq a b,f,K=>
  match (firstReg b).bind An.join with
  | none=>swC P Γ An a f fun e f'=>match e with
   | .nrm=>swC P Γ An b f' K
   | e=>K e f'
  | some (outs,keep)=>Fr.onlyK f keep fun base=>.bind (swC P Γ An a f fun e f'=>encode An outs e f')
    fun tag vs=>decode An (some outs) base (fun e f'=>match e with
     | .nrm=>swC P Γ An b f' K
     | e=>K e f') (exits a) tag vs
 | .cond c a b,f,K=>match ev f c with
  | some (.bool t)=>ifB t (swC P Γ An a f K) (swC P Γ An b f K)
  | _=>.fail
 | .block id c,f,K=>swC P Γ An c f fun e f'=>match e with
  | .ex j=>bif Nat.beq j id then K .nrm f' else K (.ex j) f'
  | e=>K e f'
 | .loop c,f,K=>match (loopKey c).bind An.loop with
  | none=>.fail
  | some (outs,keep)=>match getL f outs with
   | none=>.fail
   | some vs=>match Ts.prj (tysL outs) vs with
    | none=>.fail
    | some s=>Fr.onlyK f keep fun base=>.bind
     (.loop (tysL outs) s fun s=>swC P Γ An c (putL base outs s) fun e f'=>encode An outs e f')
     fun tag vs=>decode An none base K (exits c) tag vs
 | .exit id,f,K=>K (.ex id) f
 | .ret,f,K=>K .ret f
 | .rangeFunc g ps asg b,f,K=>match ps.toList with
  | []=>.fail
  | p::_=>match ev f g,An.rng p with
   | some fv,some (po,outs)=>.range fv (tysL po) (tysL outs)
     (fun x=>swC P Γ An asg (putL f po x) fun e f'=>match e with
      | .nrm=>match getL f' outs with
       | some vs=>.ret 0 vs
       | none=>.fail
      | _=>.fail)
     (fun y=>swC P Γ An b (putL (Fr.without f (ps.toList++writes asg)) outs y) fun e _=>.ret (tagOf e) [])
     (fun j=>leaves (fun e=>K e f) (exits b) j)
   | _,_=>.fail
 | _,_,_=>.fail
def initFr:Nat→List Value→Fr
 | _,[]=>[]
 | n,v::vs=>(n,v)::initFr (n+1) vs
def retVals (P:Program) (f:Fr):List ResultVar→(List Value→Prog)→Prog
 | [],K=>K []
 | .tmp t::r,K=>match f.get t with
  | some v=>retVals P f r fun vs=>K (v::vs)
  | none=>.fail
 | .cell a t::r,K=>match f.get a,tyOf P t with
  | some (.pointer p),some ty=>.load ty p fun x=>retVals P f r fun vs=>K (ty.inj x::vs)
  | _,_=>.fail
def swTop (P:Program) (Γ:Ctx) (An:Ann) (fn:Func) (args:List Value):Prog:=
 match fn.body with
 | some c=>swC P Γ An c (initFr 0 args) fun e f=>match e with
  | .ex _=>.fail
  | _=>retVals P f fn.results.toList fun vs=>.ret 0 vs
 | none=>.fail
structure Shallow where
 tys:List Ty
 res:List Ty
 prog:Ts.den tys→Prog
def ctxOf (l:List (Nat×Shallow)):Ctx:=fun i args=>
 match look l i with
 | some e=>match Ts.prj e.tys args with
  | some x=>some (e.prog x,e.res)
  | none=>none
 | none=>none
end Go.Sw
